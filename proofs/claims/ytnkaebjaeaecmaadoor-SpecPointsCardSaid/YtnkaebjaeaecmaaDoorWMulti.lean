/-
  The walks of specs, of package multi, and of the document's rows.
-/
import Derived.Test.YtnkaebjaeaecmaaDoorProg
import Derived.Test.YtnkaebjaeaecmaaDoorWAll
import Derived.Test.YtnkaebjaeaecmaaDoorMulti2
namespace Go.Proofs.YtnkaebjaeaecmaaDoor
set_option linter.unusedVariables false
set_option linter.unusedSimpArgs false
open Go Go.RowKit

theorem tb_fo37_0 : fieldO Tryd.prog 37 0 = some 0 := by kernel_rfl
theorem tb_c21 : callB Tryd.prog 21 = true := by kernel_rfl
theorem tb_fo37_1 : fieldO Tryd.prog 37 1 = some 1 := by kernel_rfl
theorem tb_sc35 : scalarB Tryd.prog 35 = true := by kernel_rfl
theorem tb_el35 : elemI Tryd.prog 35 = some (51, 4, 32) := by kernel_rfl
theorem tb_fo37_2 : fieldO Tryd.prog 37 2 = some 2 := by kernel_rfl
theorem tb_c38 : callB Tryd.prog 38 = true := by kernel_rfl

theorem C_drawkniferef04_Bit (o i : Nat) (w : World) (ho : o < 256) (hi : i < 8) :
    Fn Tryd.prog 46 #[.int .u8 (o : Int), .int .i64 (i : Int)] w fun v w' => v = .bool (o.testBit i) := by
  refine Fn_intro (n := 10) Tryd.func46 rfl rfl (Nat.le_of_ble_eq_true rfl) ?_
  have hB : Below w.heap.size w w := Below.refl _ _
  refine WC_seq (fun K1 hK2 => ?_)
  refine WC_region ?_
  refine WL_val (dd := some 4) rfl rfl rfl (r_assign (v := .bool false) rfl) ?_
  refine WL_nil ?_
  refine hK2 _ _ ?_
  clear hK2 K1
  refine WC_seq (fun K3 hK4 => ?_)
  refine WC_region ?_
  refine WL_val (dd := some 5) rfl rfl rfl (r_move (v := .int .u8 _) rfl) ?_
  refine WL_val (dd := some 6) rfl rfl rfl (r_convN rfl Tryd.underlying5 Tryd.underlying3 (by first | assumption | (simp only [topN]; omega) | (simp only [topN]; decide))) ?_
  refine WL_val (dd := some 7) rfl rfl rfl (r_move (v := .int .i64 _) rfl) ?_
  refine WL_call (dd := some 8) rfl rfl rfl (r_call2 tb_c62 (v0 := .int .i64 _) rfl (v1 := .int .i64 _) rfl) (C_drawkniferef01_Bit _ _ _ (by first | assumption | omega) (by first | assumption | omega)) (fun v1_3 W5 hE6 hP1_3 => ?_)
  have hsz7 := (Below.size hB)
  replace hB := below_ext hB hE6 (Nat.le_refl _)
  clear hE6
  clear hsz7
  obtain rfl := hP1_3
  refine WL_val (dd := some 9) rfl rfl rfl (r_eql rfl rfl) ?_
  refine WL_val (dd := some 4) rfl rfl rfl (r_assign (v := .bool _) rfl) ?_
  refine WL_nil ?_
  refine hK4 _ _ ?_
  clear hK4 K3
  refine WC_ret ?_
  repeat (first | refine thenQ_ret ?_ | refine blockQ_ret ?_)
  refine ret_t (v := .bool _) rfl ?_
  refine ⟨hB, ?_⟩
  exact congrArg Value.bool bit_bool

theorem C_spec_Right (S : Sp) (onV mayV : Value) (w : World) (hon : SlT encS 4 w onV S.on) (hmay : SlT encS 4 w mayV S.may) :
    Fn Tryd.prog 33 #[.agg #[.int .i64 S.n, onV, mayV]] w fun v w' => v = .bool (rightS S) := by
  refine Fn_intro (n := 63) Tryd.func33 rfl rfl (Nat.le_of_ble_eq_true rfl) ?_
  have hB : Below w.heap.size w w := Below.refl _ _
  refine WC_seq (fun K1 hK2 => ?_)
  refine WC_region ?_
  refine WL_step (dd := some 1) rfl rfl rfl (Y_box (c := #[_, _, _]) rfl rfl (fun b0_0 W3 hb4 hE5 hm0_0 => ?_))
  have lo_b0_0 : w.heap.size ≤ b0_0 := hb4 ▸ (Below.size hB)
  clear hb4
  replace hB := below_ext hB hE5 (Nat.le_refl _)
  clear hE5
  refine WL_val (dd := some 2) rfl rfl rfl (r_assign (v := .bool false) rfl) ?_
  refine WL_nil ?_
  refine hK2 _ _ ?_
  clear hK2 K1
  refine WC_seq (fun K6 hK7 => ?_)
  refine WC_region ?_
  refine WL_val (dd := some 8) rfl rfl rfl (r_fieldAddr (b := _) (o := _) rfl tb_fo37_0) ?_
  refine WL_val (dd := some 9) rfl rfl rfl (r_load1 (v := .int .i64 _) rfl tb_sc3 (At.cell hm0_0 rfl)) ?_
  refine WL_call (dd := some 10) rfl rfl rfl (r_call1 tb_c21 (v0 := .int .i64 _) rfl) (C_set_All _ _) (fun v1_2 W8 hE9 hP1_2 => ?_)
  have hsz10 := (Below.size hB)
  replace hB := below_ext hB hE9 (Nat.le_refl _)
  replace hm0_0 := hE9.at hm0_0
  clear hE9
  obtain ⟨sa, er, rfl, hhP1_2⟩ := all_cases hP1_2
  clear hsz10
  refine WL_val (dd := some 7) rfl rfl rfl (r_move (v := .tuple #[.agg #[_, _, _, _], .int .i64 _]) rfl) ?_
  refine WL_val (dd := some 11) rfl rfl rfl (r_ext2_0 (h := rfl)) ?_
  refine WL_val (dd := some 12) rfl rfl rfl (r_ext2_1 (h := rfl)) ?_
  refine WL_step (dd := some 3) rfl rfl rfl (Y_alloc tb_z51 rfl (fun b1_6 W11 hb12 hE13 hm1_6 => ?_))
  have lo_b1_6 : w.heap.size ≤ b1_6 := hb12 ▸ (Below.size hB)
  clear hb12
  replace hB := below_ext hB hE13 (Nat.le_refl _)
  replace hm0_0 := hE13.at hm0_0
  clear hE13
  replace hm1_6 : At W11 b1_6 #[wv 0 0, wv 0 1, wv 0 2, wv 0 3] 51 := hm1_6
  refine WL_step (dd := none) rfl rfl rfl (Y_storeW rfl rfl tb_ag51 rfl hm1_6 rfl (by rfl) (fun W14 hG15 hm16 => ?_))
  replace hB := below_grown hB hG15 (Nat.le_refl _) (fun j hj => by cases hj; exact lo_b1_6)
  replace hm0_0 := At.grownAt hm0_0 hm1_6 hG15 (by decide)
  clear hG15 hm1_6
  have hm1_6 := hm16
  clear hm16
  refine WL_val (dd := some 4) rfl rfl rfl (r_assign (v := .int .i64 _) rfl) ?_
  refine WL_nil ?_
  refine hK7 _ _ ?_
  clear hK7 K6
  refine WC_seq (fun K17 hK18 => ?_)
  refine WC_seq (fun K19 hK20 => ?_)
  refine WC_region ?_
  refine WL_val (dd := some 13) rfl rfl rfl (r_move (v := .int .i64 _) rfl) ?_
  refine WL_val (dd := some 14) rfl rfl rfl (r_neq rfl rfl) ?_
  refine WL_split (dd := some 15) rfl rfl rfl (r_move (v := .bool _) rfl) (fun hs2_2 => ?_) (fun hs2_2 => ?_)
  ·
    try with_reducible replace hs2_2 := dec_t hs2_2
    refine WL_skip (dd := some 16) rfl rfl rfl ?_
    refine WL_skip (dd := some 17) rfl rfl rfl ?_
    refine WL_skip (dd := some 18) rfl rfl rfl ?_
    refine WL_skip (dd := some 19) rfl rfl rfl ?_
    refine WL_val (dd := some 20) rfl rfl rfl (r_pick_t rfl (v := .bool true) rfl) ?_
    refine WL_val (dd := some 21) rfl rfl rfl (r_move (v := .bool true) rfl) ?_
    refine WL_skip (dd := some 22) rfl rfl rfl ?_
    refine WL_skip (dd := some 23) rfl rfl rfl ?_
    refine WL_skip (dd := some 24) rfl rfl rfl ?_
    refine WL_skip (dd := some 25) rfl rfl rfl ?_
    refine WL_val (dd := some 26) rfl rfl rfl (r_pick_t rfl (v := .bool true) rfl) ?_
    refine WL_val (dd := some 27) rfl rfl rfl (r_move (v := .bool true) rfl) ?_
    refine WL_skip (dd := some 28) rfl rfl rfl ?_
    refine WL_skip (dd := some 29) rfl rfl rfl ?_
    refine WL_skip (dd := some 30) rfl rfl rfl ?_
    refine WL_skip (dd := some 31) rfl rfl rfl ?_
    refine WL_skip (dd := some 32) rfl rfl rfl ?_
    refine WL_skip (dd := some 33) rfl rfl rfl ?_
    refine WL_skip (dd := some 34) rfl rfl rfl ?_
    refine WL_val (dd := some 35) rfl rfl rfl (r_pick_t rfl (v := .bool true) rfl) ?_
    refine WL_nil ?_
    refine hK20 _ _ ?_
    clear hK20 K19
    refine WC_cond_true rfl ?_
    refine WC_seq (fun K21 hK22 => ?_)
    refine WC_region ?_
    refine WL_val (dd := some 2) rfl rfl rfl (r_assign (v := .bool false) rfl) ?_
    refine WL_nil ?_
    refine hK22 _ _ ?_
    clear hK22 K21
    refine WC_ret ?_
    repeat (first | refine thenQ_ret ?_ | refine blockQ_ret ?_)
    try clear hK18 K17
    refine ret_t (v := .bool false) rfl ?_
    refine ⟨hB, ?_⟩
    exact right_f (fun h => all_no hhP1_2 hs2_2 ⟨h.1, h.2.1⟩)
  ·
    try with_reducible replace hs2_2 := dec_f hs2_2
    refine WL_val (dd := some 16) rfl rfl rfl (r_fieldAddr (b := _) (o := _) rfl tb_fo37_1) ?_
    refine WL_val (dd := some 17) rfl rfl rfl (r_load1 (v := onV) rfl tb_sc35 (At.cell hm0_0 rfl)) ?_
    refine WL_val (dd := some 18) rfl rfl rfl (r_lenS (v := onV) rfl (Below.slT hB hon) tb_el35) ?_
    refine WL_val (dd := some 19) rfl rfl rfl (r_lss rfl rfl) ?_
    refine WL_val (dd := some 20) rfl rfl rfl (r_pick_f rfl (v := .bool _) rfl) ?_
    refine WL_split (dd := some 21) rfl rfl rfl (r_move (v := .bool _) rfl) (fun hs2_8 => ?_) (fun hs2_8 => ?_)
    ·
      try with_reducible replace hs2_8 := dec_t hs2_8
      refine WL_skip (dd := some 22) rfl rfl rfl ?_
      refine WL_skip (dd := some 23) rfl rfl rfl ?_
      refine WL_skip (dd := some 24) rfl rfl rfl ?_
      refine WL_skip (dd := some 25) rfl rfl rfl ?_
      refine WL_val (dd := some 26) rfl rfl rfl (r_pick_t rfl (v := .bool true) rfl) ?_
      refine WL_val (dd := some 27) rfl rfl rfl (r_move (v := .bool true) rfl) ?_
      refine WL_skip (dd := some 28) rfl rfl rfl ?_
      refine WL_skip (dd := some 29) rfl rfl rfl ?_
      refine WL_skip (dd := some 30) rfl rfl rfl ?_
      refine WL_skip (dd := some 31) rfl rfl rfl ?_
      refine WL_skip (dd := some 32) rfl rfl rfl ?_
      refine WL_skip (dd := some 33) rfl rfl rfl ?_
      refine WL_skip (dd := some 34) rfl rfl rfl ?_
      refine WL_val (dd := some 35) rfl rfl rfl (r_pick_t rfl (v := .bool true) rfl) ?_
      refine WL_nil ?_
      refine hK20 _ _ ?_
      clear hK20 K19
      refine WC_cond_true rfl ?_
      refine WC_seq (fun K23 hK24 => ?_)
      refine WC_region ?_
      refine WL_val (dd := some 2) rfl rfl rfl (r_assign (v := .bool false) rfl) ?_
      refine WL_nil ?_
      refine hK24 _ _ ?_
      clear hK24 K23
      refine WC_ret ?_
      repeat (first | refine thenQ_ret ?_ | refine blockQ_ret ?_)
      try clear hK18 K17
      refine ret_t (v := .bool false) rfl ?_
      refine ⟨hB, ?_⟩
      exact right_f (by omega)
    ·
      try with_reducible replace hs2_8 := dec_f hs2_8
      refine WL_val (dd := some 22) rfl rfl rfl (r_fieldAddr (b := _) (o := _) rfl tb_fo37_1) ?_
      refine WL_val (dd := some 23) rfl rfl rfl (r_load1 (v := onV) rfl tb_sc35 (At.cell hm0_0 rfl)) ?_
      refine WL_val (dd := some 24) rfl rfl rfl (r_lenS (v := onV) rfl (Below.slT hB hon) tb_el35) ?_
      refine WL_val (dd := some 25) rfl rfl rfl (r_gtr rfl rfl) ?_
      refine WL_val (dd := some 26) rfl rfl rfl (r_pick_f rfl (v := .bool _) rfl) ?_
      refine WL_split (dd := some 27) rfl rfl rfl (r_move (v := .bool _) rfl) (fun hs2_14 => ?_) (fun hs2_14 => ?_)
      ·
        try with_reducible replace hs2_14 := dec_t hs2_14
        refine WL_skip (dd := some 28) rfl rfl rfl ?_
        refine WL_skip (dd := some 29) rfl rfl rfl ?_
        refine WL_skip (dd := some 30) rfl rfl rfl ?_
        refine WL_skip (dd := some 31) rfl rfl rfl ?_
        refine WL_skip (dd := some 32) rfl rfl rfl ?_
        refine WL_skip (dd := some 33) rfl rfl rfl ?_
        refine WL_skip (dd := some 34) rfl rfl rfl ?_
        refine WL_val (dd := some 35) rfl rfl rfl (r_pick_t rfl (v := .bool true) rfl) ?_
        refine WL_nil ?_
        refine hK20 _ _ ?_
        clear hK20 K19
        refine WC_cond_true rfl ?_
        refine WC_seq (fun K25 hK26 => ?_)
        refine WC_region ?_
        refine WL_val (dd := some 2) rfl rfl rfl (r_assign (v := .bool false) rfl) ?_
        refine WL_nil ?_
        refine hK26 _ _ ?_
        clear hK26 K25
        refine WC_ret ?_
        repeat (first | refine thenQ_ret ?_ | refine blockQ_ret ?_)
        try clear hK18 K17
        refine ret_t (v := .bool false) rfl ?_
        refine ⟨hB, ?_⟩
        exact right_f (by omega)
      ·
        try with_reducible replace hs2_14 := dec_f hs2_14
        refine WL_val (dd := some 28) rfl rfl rfl (r_fieldAddr (b := _) (o := _) rfl tb_fo37_1) ?_
        refine WL_val (dd := some 29) rfl rfl rfl (r_load1 (v := onV) rfl tb_sc35 (At.cell hm0_0 rfl)) ?_
        refine WL_val (dd := some 30) rfl rfl rfl (r_lenS (v := onV) rfl (Below.slT hB hon) tb_el35) ?_
        refine WL_val (dd := some 31) rfl rfl rfl (r_fieldAddr (b := _) (o := _) rfl tb_fo37_2) ?_
        refine WL_val (dd := some 32) rfl rfl rfl (r_load1 (v := mayV) rfl tb_sc35 (At.cell hm0_0 rfl)) ?_
        refine WL_val (dd := some 33) rfl rfl rfl (r_lenS (v := mayV) rfl (Below.slT hB hmay) tb_el35) ?_
        refine WL_val (dd := some 34) rfl rfl rfl (r_neq rfl rfl) ?_
        refine WL_val (dd := some 35) rfl rfl rfl (r_pick_f rfl (v := .bool _) rfl) ?_
        refine WL_nil ?_
        refine hK20 _ _ ?_
        clear hK20 K19
        refine WC_cond (b := _) rfl (fun hc0 => ?_) (fun hc0 => ?_)
        ·
          try with_reducible replace hc0 := dec_t hc0
          refine WC_seq (fun K27 hK28 => ?_)
          refine WC_region ?_
          refine WL_val (dd := some 2) rfl rfl rfl (r_assign (v := .bool false) rfl) ?_
          refine WL_nil ?_
          refine hK28 _ _ ?_
          clear hK28 K27
          refine WC_ret ?_
          repeat (first | refine thenQ_ret ?_ | refine blockQ_ret ?_)
          try clear hK18 K17
          refine ret_t (v := .bool false) rfl ?_
          refine ⟨hB, ?_⟩
          exact right_f (by omega)
        ·
          try with_reducible replace hc0 := dec_f hc0
          refine WC_skip ?_
          refine hK18 _ _ ?_
          clear hK18 K17
          refine WC_seq (fun K29 hK30 => ?_)
          refine WC_seq (fun K31 hK32 => ?_)
          obtain ⟨h0, h8, rfl⟩ := all_bounds hhP1_2 hs2_2
          refine WC_region ?_
          refine WL_val (dd := some 36) rfl rfl rfl (r_fieldAddr (b := _) (o := _) rfl tb_fo37_1) ?_
          refine WL_val (dd := some 37) rfl rfl rfl (r_load1 (v := onV) rfl tb_sc35 (At.cell hm0_0 rfl)) ?_
          refine WL_val (dd := some 38) rfl rfl rfl (r_lenS (v := onV) rfl (Below.slT hB hon) tb_el35) ?_
          refine WL_val (dd := some 39) rfl rfl rfl (r_move (v := .int .i64 0) rfl) ?_
          refine WL_nil ?_
          refine hK32 _ _ ?_
          clear hK32 K31
          refine WC_block ?_
          refine WC_loop (σ := (Nat)) [2, 5, 6, 39, 40, 41, 42, 43, 44, 45, 46, 47, 48, 49, 50, 51, 52, 53, 54, 55, 56, 57, 58, 59, 60, 61, 62] (fun k => [(39, .int .i64 (k : Int))]) (fun k W => (Below w.heap.size w W) ∧ (At W b0_0 _ 37) ∧ (At W b1_6 _ 51) ∧ (k ≤ S.on.length) ∧ (∀ q, q < k → withinB (onP S q) (mayP S q) = true ∧ withinB (mayP S q) (allS S.n.toNat) = true) ∧ (True)) (fun k => S.on.length - k) (0) ⟨rfl, trivial⟩ ⟨hB, hm0_0, hm1_6, (Nat.zero_le _), upTo_zero, trivial⟩ ?_
          clear hB hm0_0 hm1_6
          rintro k g34 W33 ⟨hB, hm0_0, hm1_6, hk, hq, _⟩ J35 hJ36
          refine WC_seq (fun K37 hK38 => ?_)
          refine WC_region ?_
          refine WL_val (dd := some 40) rfl rfl rfl (r_lss rfl rfl) ?_
          refine WL_nil ?_
          refine hK38 _ _ ?_
          clear hK38 K37
          refine WC_seq (fun K39 hK40 => ?_)
          refine WC_cond (b := _) rfl (fun hc1 => ?_) (fun hc1 => ?_)
          ·
            try with_reducible replace hc1 := dec_t hc1
            refine WC_skip ?_
            refine hK40 _ _ ?_
            clear hK40 K39
            refine WC_seq (fun K41 hK42 => ?_)
            refine WC_block ?_
            refine WC_seq (fun K43 hK44 => ?_)
            refine WC_region ?_
            refine WL_val (dd := some 41) rfl rfl rfl (r_move (v := .int .i64 _) rfl) ?_
            refine WL_val (dd := some 42) rfl rfl rfl (r_idxS (v := onV) rfl (Below.slT hB hon) rfl tb_el35 (by omega) (by first | omega | (simp only [flagsTo_len, litsTo_len, firstF_len, ptF_len, setF_len]; omega))) ?_
            refine WL_val (dd := some 43) rfl rfl rfl (r_load4 rfl tb_ag51 (SlT.cell (Below.slT hB hon) encS_len 0 (by omega) (by first | omega | (simp only [flagsTo_len, litsTo_len, firstF_len, ptF_len, setF_len]; omega)) 0 rfl) (SlT.cell (Below.slT hB hon) encS_len 0 (by omega) (by first | omega | (simp only [flagsTo_len, litsTo_len, firstF_len, ptF_len, setF_len]; omega)) 1 rfl) (SlT.cell (Below.slT hB hon) encS_len 0 (by omega) (by first | omega | (simp only [flagsTo_len, litsTo_len, firstF_len, ptF_len, setF_len]; omega)) 2 rfl) (SlT.cell (Below.slT hB hon) encS_len 0 (by omega) (by first | omega | (simp only [flagsTo_len, litsTo_len, firstF_len, ptF_len, setF_len]; omega)) 3 rfl)) ?_
            refine WL_step (dd := some 6) rfl rfl rfl (Y_alloc tb_z51 rfl (fun b6_3 W45 hb46 hE47 hm6_3 => ?_))
            have lo_b6_3 : w.heap.size ≤ b6_3 := hb46 ▸ (Below.size hB)
            have ne_b1_6_b6_3 : b1_6 ≠ b6_3 := Nat.ne_of_lt (hb46 ▸ hm1_6.lt)
            clear hb46
            replace hB := below_ext hB hE47 (Nat.le_refl _)
            replace hm0_0 := hE47.at hm0_0
            replace hm1_6 := hE47.at hm1_6
            clear hE47
            replace hm6_3 : At W45 b6_3 #[wv 0 0, wv 0 1, wv 0 2, wv 0 3] 51 := hm6_3
            refine WL_val (dd := some 5) rfl rfl rfl (r_assign (v := .int .i64 _) rfl) ?_
            refine WL_step (dd := none) rfl rfl rfl (Y_storeW rfl rfl tb_ag51 rfl hm6_3 rfl (by rfl) (fun W48 hG49 hm50 => ?_))
            replace hB := below_grown hB hG49 (Nat.le_refl _) (fun j hj => by cases hj; exact lo_b6_3)
            replace hm0_0 := At.grownAt hm0_0 hm6_3 hG49 (by decide)
            replace hm1_6 := At.grownNe hm1_6 ne_b1_6_b6_3 hG49
            clear hG49 hm6_3
            have hm6_3 := hm50
            clear hm50
            refine WL_nil ?_
            refine hK44 _ _ ?_
            clear hK44 K43
            refine WC_seq (fun K51 hK52 => ?_)
            refine WC_draw Ext tb_mix (fun W53 hE54 => ?_)
            replace hB := below_ext hB hE54 (Nat.le_refl _)
            replace hm0_0 := hE54.at hm0_0
            replace hm1_6 := hE54.at hm1_6
            replace hm6_3 := hE54.at hm6_3
            have hS := Ext.refl W53
            refine WT_take (dd := some 44) 0 rfl (by kernel_rfl) (by kernel_rfl) (by kernel_rfl) rfl rfl rfl (fun _wq hq => r_loadW rfl tb_ag51 rfl (hq.at hm6_3)) hS ?_
            refine WT_take (dd := some 45) 1 rfl (by kernel_rfl) (by kernel_rfl) (by kernel_rfl) rfl rfl rfl (fun _wq _hq => r_fieldAddr (b := _) (o := _) rfl tb_fo37_2) hS ?_
            refine WT_take (dd := some 46) 2 rfl (by kernel_rfl) (by kernel_rfl) (by kernel_rfl) rfl rfl rfl (fun _wq hq => r_load1 (v := mayV) rfl tb_sc35 (At.cell (hq.at hm0_0) rfl)) hS ?_
            refine WT_take (dd := some 47) 3 rfl (by kernel_rfl) (by kernel_rfl) (by kernel_rfl) rfl rfl rfl (fun _wq _hq => r_move (v := .int .i64 _) rfl) hS ?_
            refine WT_take (dd := some 48) 4 rfl (by kernel_rfl) (by kernel_rfl) (by kernel_rfl) rfl rfl rfl (fun _wq hq => r_idxS (v := mayV) rfl (hq.slT (Below.slT hB hmay)) rfl tb_el35 (by omega) (by first | omega | (simp only [flagsTo_len, litsTo_len, firstF_len, ptF_len, setF_len]; omega))) hS ?_
            refine WT_take (dd := some 49) 5 rfl (by kernel_rfl) (by kernel_rfl) (by kernel_rfl) rfl rfl rfl (fun _wq hq => r_load4 rfl tb_ag51 (SlT.cell (hq.slT (Below.slT hB hmay)) encS_len 0 (by omega) (by first | omega | (simp only [flagsTo_len, litsTo_len, firstF_len, ptF_len, setF_len]; omega)) 0 rfl) (SlT.cell (hq.slT (Below.slT hB hmay)) encS_len 0 (by omega) (by first | omega | (simp only [flagsTo_len, litsTo_len, firstF_len, ptF_len, setF_len]; omega)) 1 rfl) (SlT.cell (hq.slT (Below.slT hB hmay)) encS_len 0 (by omega) (by first | omega | (simp only [flagsTo_len, litsTo_len, firstF_len, ptF_len, setF_len]; omega)) 2 rfl) (SlT.cell (hq.slT (Below.slT hB hmay)) encS_len 0 (by omega) (by first | omega | (simp only [flagsTo_len, litsTo_len, firstF_len, ptF_len, setF_len]; omega)) 3 rfl)) hS ?_
            refine WT_one (dd := some 50) 6 (by kernel_rfl) rfl rfl rfl rfl (Yd.call (r_call2 tb_c38 (v0 := .agg #[_, _, _, _]) rfl (v1 := .agg #[_, _, _, _]) rfl) (C_set_Within _ _ _) (fun v7_6 W55 hE56 hP7_6 => ⟨.inl (hS.trans hE56), ?_⟩))
            have hsz57 := (Below.size hB)
            have sv58_hB := hB
            have sv58_hm0_0 := hm0_0
            have sv58_hm1_6 := hm1_6
            have sv58_hm6_3 := hm6_3
            replace hB := below_ext hB hE56 (Nat.le_refl _)
            replace hm0_0 := hE56.at hm0_0
            replace hm1_6 := hE56.at hm1_6
            replace hm6_3 := hE56.at hm6_3
            replace hS := hS.trans hE56
            clear hE56
            clear hsz57
            obtain rfl := hP7_6
            refine WT_take (dd := some 51) 7 rfl (by kernel_rfl) (by kernel_rfl) (by kernel_rfl) rfl rfl rfl (fun _wq _hq => r_not rfl) hS ?_
            refine WT_split (dd := some 52) 8 rfl (by kernel_rfl) (by kernel_rfl) (by kernel_rfl) rfl rfl rfl (fun wq hq => r_move (v := .bool _) rfl) hS (fun hs7_8 => ?_) (fun hs7_8 => ?_)
            ·
              try with_reducible replace hs7_8 := dec_t hs7_8
              refine WT_pass (dd := some 53) 9 rfl (by kernel_rfl) (by kernel_rfl) (by kernel_rfl) rfl rfl rfl hS ?_
              refine WT_pass (dd := some 54) 10 rfl (by kernel_rfl) (by kernel_rfl) (by kernel_rfl) rfl rfl rfl hS ?_
              refine WT_pass (dd := some 55) 11 rfl (by kernel_rfl) (by kernel_rfl) (by kernel_rfl) rfl rfl rfl hS ?_
              refine WT_pass (dd := some 56) 12 rfl (by kernel_rfl) (by kernel_rfl) (by kernel_rfl) rfl rfl rfl hS ?_
              refine WT_pass (dd := some 57) 13 rfl (by kernel_rfl) (by kernel_rfl) (by kernel_rfl) rfl rfl rfl hS ?_
              refine WT_pass (dd := some 58) 14 rfl (by kernel_rfl) (by kernel_rfl) (by kernel_rfl) rfl rfl rfl hS ?_
              refine WT_pass (dd := some 59) 15 rfl (by kernel_rfl) (by kernel_rfl) (by kernel_rfl) rfl rfl rfl hS ?_
              refine WT_pass (dd := some 60) 16 rfl (by kernel_rfl) (by kernel_rfl) (by kernel_rfl) rfl rfl rfl hS ?_
              refine WT_take (dd := some 61) 17 rfl (by kernel_rfl) (by kernel_rfl) (by kernel_rfl) rfl rfl rfl (fun _wq _hq => r_pick_t rfl (v := .bool true) rfl) hS ?_
              refine WT_done (by kernel_rfl) ?_
              try clear sv58_hB sv58_hm0_0 sv58_hm1_6 sv58_hm6_3
              refine hK52 _ _ ?_
              clear hK52 K51
              refine WC_cond_true rfl ?_
              refine WC_seq (fun K59 hK60 => ?_)
              refine WC_region ?_
              refine WL_val (dd := some 2) rfl rfl rfl (r_assign (v := .bool false) rfl) ?_
              refine WL_nil ?_
              refine hK60 _ _ ?_
              clear hK60 K59
              refine WC_ret ?_
              repeat (first | refine thenQ_ret ?_ | refine blockQ_ret ?_)
              try clear hK42 K41
              try clear hJ36 J35
              try clear hK30 K29
              refine ret_t (v := .bool false) rfl ?_
              refine ⟨hB, ?_⟩
              exact right_k (k := k) (by omega) (fun h => Bool.noConfusion (h.1.symm.trans (not_t hs7_8)))
            ·
              try with_reducible replace hs7_8 := dec_f hs7_8
              refine WT_take (dd := some 53) 9 rfl (by kernel_rfl) (by kernel_rfl) (by kernel_rfl) rfl rfl rfl (fun _wq _hq => r_fieldAddr (b := _) (o := _) rfl tb_fo37_2) hS ?_
              refine WT_take (dd := some 54) 10 rfl (by kernel_rfl) (by kernel_rfl) (by kernel_rfl) rfl rfl rfl (fun _wq hq => r_load1 (v := mayV) rfl tb_sc35 (At.cell (hq.at sv58_hm0_0) rfl)) hS ?_
              refine WT_take (dd := some 55) 11 rfl (by kernel_rfl) (by kernel_rfl) (by kernel_rfl) rfl rfl rfl (fun _wq _hq => r_move (v := .int .i64 _) rfl) hS ?_
              refine WT_take (dd := some 56) 12 rfl (by kernel_rfl) (by kernel_rfl) (by kernel_rfl) rfl rfl rfl (fun _wq hq => r_idxS (v := mayV) rfl (hq.slT (Below.slT sv58_hB hmay)) rfl tb_el35 (by omega) (by first | omega | (simp only [flagsTo_len, litsTo_len, firstF_len, ptF_len, setF_len]; omega))) hS ?_
              refine WT_take (dd := some 57) 13 rfl (by kernel_rfl) (by kernel_rfl) (by kernel_rfl) rfl rfl rfl (fun _wq hq => r_load4 rfl tb_ag51 (SlT.cell (hq.slT (Below.slT sv58_hB hmay)) encS_len 0 (by omega) (by first | omega | (simp only [flagsTo_len, litsTo_len, firstF_len, ptF_len, setF_len]; omega)) 0 rfl) (SlT.cell (hq.slT (Below.slT sv58_hB hmay)) encS_len 0 (by omega) (by first | omega | (simp only [flagsTo_len, litsTo_len, firstF_len, ptF_len, setF_len]; omega)) 1 rfl) (SlT.cell (hq.slT (Below.slT sv58_hB hmay)) encS_len 0 (by omega) (by first | omega | (simp only [flagsTo_len, litsTo_len, firstF_len, ptF_len, setF_len]; omega)) 2 rfl) (SlT.cell (hq.slT (Below.slT sv58_hB hmay)) encS_len 0 (by omega) (by first | omega | (simp only [flagsTo_len, litsTo_len, firstF_len, ptF_len, setF_len]; omega)) 3 rfl)) hS ?_
              refine WT_take (dd := some 58) 14 rfl (by kernel_rfl) (by kernel_rfl) (by kernel_rfl) rfl rfl rfl (fun _wq hq => r_loadW rfl tb_ag51 rfl (hq.at sv58_hm1_6)) hS ?_
              refine WT_one (dd := some 59) 15 (by kernel_rfl) rfl rfl rfl rfl (Yd.call (r_call2 tb_c38 (v0 := .agg #[_, _, _, _]) rfl (v1 := .agg #[_, _, _, _]) rfl) (C_set_Within _ _ _) (fun v7_15 W61 hE62 hP7_15 => ⟨.inl (hS.trans hE62), ?_⟩))
              have hsz63 := (Below.size hB)
              replace hB := below_ext hB hE62 (Nat.le_refl _)
              replace hm0_0 := hE62.at hm0_0
              replace hm1_6 := hE62.at hm1_6
              replace hm6_3 := hE62.at hm6_3
              replace hS := hS.trans hE62
              clear hE62
              clear hsz63
              obtain rfl := hP7_15
              refine WT_take (dd := some 60) 16 rfl (by kernel_rfl) (by kernel_rfl) (by kernel_rfl) rfl rfl rfl (fun _wq _hq => r_not rfl) hS ?_
              refine WT_take (dd := some 61) 17 rfl (by kernel_rfl) (by kernel_rfl) (by kernel_rfl) rfl rfl rfl (fun _wq _hq => r_pick_f rfl (v := .bool _) rfl) hS ?_
              refine WT_done (by kernel_rfl) ?_
              try clear sv58_hB sv58_hm0_0 sv58_hm1_6 sv58_hm6_3
              refine hK52 _ _ ?_
              clear hK52 K51
              refine WC_cond (b := _) rfl (fun hc2 => ?_) (fun hc2 => ?_)
              ·
                try with_reducible replace hc2 := dec_t hc2
                refine WC_seq (fun K64 hK65 => ?_)
                refine WC_region ?_
                refine WL_val (dd := some 2) rfl rfl rfl (r_assign (v := .bool false) rfl) ?_
                refine WL_nil ?_
                refine hK65 _ _ ?_
                clear hK65 K64
                refine WC_ret ?_
                repeat (first | refine thenQ_ret ?_ | refine blockQ_ret ?_)
                try clear hK42 K41
                try clear hJ36 J35
                try clear hK30 K29
                refine ret_t (v := .bool false) rfl ?_
                refine ⟨hB, ?_⟩
                exact right_k (k := k) (by omega) (fun h => Bool.noConfusion (h.2.symm.trans (not_t hc2)))
              ·
                try with_reducible replace hc2 := dec_f hc2
                refine WC_skip ?_
                refine hK42 _ _ ?_
                clear hK42 K41
                refine WC_region ?_
                refine WL_val (dd := some 62) rfl rfl rfl (r_addI rfl rfl (by omega) (by omega)) ?_
                refine WL_val (dd := some 39) rfl rfl rfl (r_move (v := .int .i64 _) rfl) ?_
                refine WL_nil ?_
                refine hJ36 _ _ (k + 1) ?_ ?_ ?_ ?_
                · repeat (first | exact agree.mask _ _ _ | refine agree.updo ?_ rfl _ | refine agree.updL ?_ _ rfl | refine agree.maskS rfl ?_)
                · exact ⟨rfl, trivial⟩
                · exact ⟨hB, hm0_0, hm1_6, (by omega), (upTo_succ hq ⟨not_f hs7_8, not_f hc2⟩), trivial⟩
                · first | omega | (dsimp only; omega)
          ·
            try with_reducible replace hc1 := dec_f hc1
            refine WC_exit ?_
            refine hK30 _ _ ?_
            clear hK40 K39
            clear hJ36 J35
            clear hK30 K29
            refine WC_seq (fun K66 hK67 => ?_)
            refine WC_region ?_
            refine WL_val (dd := some 2) rfl rfl rfl (r_assign (v := .bool true) rfl) ?_
            refine WL_nil ?_
            refine hK67 _ _ ?_
            clear hK67 K66
            refine WC_ret ?_
            repeat (first | refine thenQ_ret ?_ | refine blockQ_ret ?_)
            refine ret_t (v := .bool true) rfl ?_
            refine ⟨hB, ?_⟩
            obtain rfl : k = S.on.length := by omega
            exact right_t (by omega) hq

end Go.Proofs.YtnkaebjaeaecmaaDoor
