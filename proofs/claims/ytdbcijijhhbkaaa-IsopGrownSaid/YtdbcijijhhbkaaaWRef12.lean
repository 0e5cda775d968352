/-
  The walks of isop.Cover, isop.Grown, and of the document's cover.
-/
import Derived.Test.YtdbcijijhhbkaaaProg
import Derived.Test.YtdbcijijhhbkaaaWIsop
import Derived.Test.YtdbcijijhhbkaaaRef12
namespace Go.Proofs.Ytdbcijijhhbkaaa
set_option linter.unusedVariables false
set_option linter.unusedSimpArgs false
open Go Go.RowKit

theorem tb_z106 : zeroI Try.prog 106 = some (.agg #[.int .i64 0, .int .u64 0, .int .u64 0, .int .u64 0, .int .u64 0]) := by kernel_rfl
theorem tb_size3 : (Try.prog.info? 3).map (·.size) = some 1 := by kernel_rfl
theorem tb_size24 : (Try.prog.info? 24).map (·.size) = some 4 := by kernel_rfl
theorem tb_build106_0_1 {f : Nat → Value} {w : World} {d : Option Nat} {ty : TypeId} {ps : String} {af : Array Edge} {g : Option (Nat × Bool)} {x0 x1 : Operand} {c0_0 c1_0 c1_1 c1_2 c1_3 : Value} (h0 : evF f x0 = c0_0) (k0 : c0_0.cells = #[c0_0]) (h1 : evF f x1 = .agg #[c1_0, c1_1, c1_2, c1_3]) :
    (execOp (evF f) ⟨d, .build 106 #[(0, x0), (1, x1)], ty, ps, af, g⟩).run Try.prog w = .ok (.value (.agg #[c0_0, c1_0, c1_1, c1_2, c1_3])) w := by
  obtain ⟨i0, hi0, hz0⟩ := Option.bind_eq_some_iff.1 (show (Try.prog.info? 106).bind (·.zero) = _ from tb_z106)
  obtain ⟨j3, hj3, hs3⟩ := Option.map_eq_some_iff.1 tb_size3
  obtain ⟨j24, hj24, hs24⟩ := Option.map_eq_some_iff.1 tb_size24
  simp [execOp, h0, k0, h1, Instr.build, zeroValue, typeInfo, sizeOf, hi0, hz0, run_underlying Try.underlying106, Instr.fill, cells_agg, hj3, hs3, hj24, hs24]
theorem tb_c39 : callB Try.prog 39 = true := by kernel_rfl
theorem tb_c79 : callB Try.prog 79 = true := by kernel_rfl
theorem tb_c100 : callB Try.prog 100 = true := by kernel_rfl
theorem tb_c99 : callB Try.prog 99 = true := by kernel_rfl
theorem tb_c103 : callB Try.prog 103 = true := by kernel_rfl
theorem tb_c101 : callB Try.prog 101 = true := by kernel_rfl
theorem tb_c98 : callB Try.prog 98 = true := by kernel_rfl
theorem tb_c36 : callB Try.prog 36 = true := by kernel_rfl
theorem tb_c40 : callB Try.prog 40 = true := by kernel_rfl
theorem tb_c102 : callB Try.prog 102 = true := by kernel_rfl
theorem tb_c104 : callB Try.prog 104 = true := by kernel_rfl

theorem C_cover (n : Nat) : ∀ (f : Nat), ∀ (on may i : Nat) (w : World), n ≤ 8 → Good n on may i → n + 1 - i ≤ f → f ≤ 9 → Fn Try.prog 97 #[.agg #[.int .i64 (n : Int), wv (allS n) 0, wv (allS n) 1, wv (allS n) 2, wv (allS n) 3], setV on, setV may, .int .i64 (i : Int)] w fun v w' => OwT encC 2 34 w' w.heap.size v (coverL n f on may i)
  | 0, on, may, i, w, _, hg, hf, _ => by have := hg.le; omega
  | f + 1, on, may, i, w, h8, hg, hf, hf9 => CS_cover n f i on may w (C_cover n f) h8 hg hf hf9

theorem C_isop_Cover (on may : Nat) (n : Int) (w : World) :
    Fn Try.prog 39 #[setV on, setV may, .int .i64 n] w fun v w' => if okB on may n = true then ∃ x, v = .tuple #[x, .int .i64 0] ∧ OwT encC 2 34 w' w.heap.size x (covL on may n) else v = .tuple #[.slice none 0 0, .int .i64 1] := by
  refine Fn_intro (n := 35) Try.func39 rfl rfl (Nat.le_of_ble_eq_true rfl) ?_
  have hB : Below w.heap.size w w := Below.refl _ _
  refine WC_seq (fun K1 hK2 => ?_)
  refine WC_region ?_
  refine WL_step (dd := some 3) rfl rfl rfl (Y_box (c := #[_, _, _, _]) rfl rfl (fun b0_0 W3 hb4 hE5 hm0_0 => ?_))
  have lo_b0_0 : w.heap.size ≤ b0_0 := hb4 ▸ (Below.size hB)
  clear hb4
  replace hB := below_ext hB hE5 (Nat.le_refl _)
  clear hE5
  refine WL_step (dd := some 4) rfl rfl rfl (Y_box (c := #[_, _, _, _]) rfl rfl (fun b0_1 W6 hb7 hE8 hm0_1 => ?_))
  have lo_b0_1 : w.heap.size ≤ b0_1 := hb7 ▸ (Below.size hB)
  have ne_b0_0_b0_1 : b0_0 ≠ b0_1 := Nat.ne_of_lt (hb7 ▸ hm0_0.lt)
  clear hb7
  replace hB := below_ext hB hE8 (Nat.le_refl _)
  replace hm0_0 := hE8.at hm0_0
  clear hE8
  refine WL_val (dd := some 6) rfl rfl rfl (r_assign (v := .slice none 0 0) rfl) ?_
  refine WL_val (dd := some 7) rfl rfl rfl (r_assign (v := .int .i64 0) rfl) ?_
  refine WL_nil ?_
  refine hK2 _ _ ?_
  clear hK2 K1
  refine WC_seq (fun K9 hK10 => ?_)
  refine WC_region ?_
  refine WL_val (dd := some 11) rfl rfl rfl (r_move (v := .int .i64 _) rfl) ?_
  refine WL_call (dd := some 12) rfl rfl rfl (r_call1 tb_c81 (v0 := .int .i64 _) rfl) (C_set_All _ _) (fun v1_1 W11 hE12 hP1_1 => ?_)
  have hsz13 := (Below.size hB)
  replace hB := below_ext hB hE12 (Nat.le_refl _)
  replace hm0_0 := hE12.at hm0_0
  replace hm0_1 := hE12.at hm0_1
  clear hE12
  obtain ⟨sa, er, rfl, hhP1_1⟩ := all_cases hP1_1
  clear hsz13
  refine WL_val (dd := some 10) rfl rfl rfl (r_move (v := .tuple #[.agg #[_, _, _, _], .int .i64 _]) rfl) ?_
  refine WL_val (dd := some 13) rfl rfl rfl (r_ext2_0 (h := rfl)) ?_
  refine WL_val (dd := some 14) rfl rfl rfl (r_ext2_1 (h := rfl)) ?_
  refine WL_step (dd := some 8) rfl rfl rfl (Y_alloc tb_z24 rfl (fun b1_5 W14 hb15 hE16 hm1_5 => ?_))
  have lo_b1_5 : w.heap.size ≤ b1_5 := hb15 ▸ (Below.size hB)
  have ne_b0_0_b1_5 : b0_0 ≠ b1_5 := Nat.ne_of_lt (hb15 ▸ hm0_0.lt)
  have ne_b0_1_b1_5 : b0_1 ≠ b1_5 := Nat.ne_of_lt (hb15 ▸ hm0_1.lt)
  clear hb15
  replace hB := below_ext hB hE16 (Nat.le_refl _)
  replace hm0_0 := hE16.at hm0_0
  replace hm0_1 := hE16.at hm0_1
  clear hE16
  replace hm1_5 : At W14 b1_5 #[wv 0 0, wv 0 1, wv 0 2, wv 0 3] 24 := hm1_5
  refine WL_step (dd := none) rfl rfl rfl (Y_storeW rfl rfl tb_ag24 rfl hm1_5 rfl (by rfl) (fun W17 hG18 hm19 => ?_))
  replace hB := below_grown hB hG18 (Nat.le_refl _) (fun j hj => by cases hj; exact lo_b1_5)
  replace hm0_0 := At.grownNe hm0_0 ne_b0_0_b1_5 hG18
  replace hm0_1 := At.grownNe hm0_1 ne_b0_1_b1_5 hG18
  clear hG18 hm1_5
  have hm1_5 := hm19
  clear hm19
  refine WL_val (dd := some 9) rfl rfl rfl (r_assign (v := .int .i64 _) rfl) ?_
  refine WL_nil ?_
  refine hK10 _ _ ?_
  clear hK10 K9
  refine WC_seq (fun K20 hK21 => ?_)
  refine WC_seq (fun K22 hK23 => ?_)
  refine WC_region ?_
  refine WL_val (dd := some 15) rfl rfl rfl (r_move (v := .int .i64 _) rfl) ?_
  refine WL_val (dd := some 16) rfl rfl rfl (r_neq rfl rfl) ?_
  refine WL_split (dd := some 17) rfl rfl rfl (r_move (v := .bool _) rfl) (fun hs2_2 => ?_) (fun hs2_2 => ?_)
  ·
    try with_reducible replace hs2_2 := of_decide_eq_true hs2_2
    refine WL_skip (dd := some 18) rfl rfl rfl ?_
    refine WL_skip (dd := some 19) rfl rfl rfl ?_
    refine WL_skip (dd := some 20) rfl rfl rfl ?_
    refine WL_skip (dd := some 21) rfl rfl rfl ?_
    refine WL_val (dd := some 22) rfl rfl rfl (r_pick_t rfl (v := .bool true) rfl) ?_
    refine WL_val (dd := some 23) rfl rfl rfl (r_move (v := .bool true) rfl) ?_
    refine WL_skip (dd := some 24) rfl rfl rfl ?_
    refine WL_skip (dd := some 25) rfl rfl rfl ?_
    refine WL_skip (dd := some 26) rfl rfl rfl ?_
    refine WL_skip (dd := some 27) rfl rfl rfl ?_
    refine WL_val (dd := some 28) rfl rfl rfl (r_pick_t rfl (v := .bool true) rfl) ?_
    refine WL_nil ?_
    refine hK23 _ _ ?_
    clear hK23 K22
    refine WC_cond_true rfl ?_
    refine WC_seq (fun K24 hK25 => ?_)
    refine WC_region ?_
    refine WL_val (dd := some 6) rfl rfl rfl (r_assign (v := .slice none 0 0) rfl) ?_
    refine WL_val (dd := some 7) rfl rfl rfl (r_assign (v := .int .i64 1) rfl) ?_
    refine WL_nil ?_
    refine hK25 _ _ ?_
    clear hK25 K24
    refine WC_ret ?_
    repeat (first | refine thenQ_ret ?_ | refine blockQ_ret ?_)
    try clear hK21 K20
    refine ret_tt (v := .slice none 0 0) rfl (v1 := .int .i64 1) rfl ?_
    refine ⟨hB, ?_⟩
    rw [if_neg (ok_not1 hhP1_1 hs2_2)]
  ·
    try with_reducible replace hs2_2 := of_decide_eq_false hs2_2
    refine WL_val (dd := some 18) rfl rfl rfl (r_loadW rfl tb_ag24 rfl hm0_0) ?_
    refine WL_val (dd := some 19) rfl rfl rfl (r_loadW rfl tb_ag24 rfl hm0_1) ?_
    refine WL_call (dd := some 20) rfl rfl rfl (r_call2 tb_c82 (v0 := .agg #[_, _, _, _]) rfl (v1 := .agg #[_, _, _, _]) rfl) (C_set_Within _ _ _) (fun v2_5 W26 hE27 hP2_5 => ?_)
    have hsz28 := (Below.size hB)
    replace hB := below_ext hB hE27 (Nat.le_refl _)
    replace hm0_0 := hE27.at hm0_0
    replace hm0_1 := hE27.at hm0_1
    replace hm1_5 := hE27.at hm1_5
    clear hE27
    clear hsz28
    obtain rfl := hP2_5
    refine WL_val (dd := some 21) rfl rfl rfl (r_not rfl) ?_
    refine WL_val (dd := some 22) rfl rfl rfl (r_pick_f rfl (v := .bool _) rfl) ?_
    refine WL_split (dd := some 23) rfl rfl rfl (r_move (v := .bool _) rfl) (fun hs2_8 => ?_) (fun hs2_8 => ?_)
    ·
      try with_reducible replace hs2_8 := of_decide_eq_true hs2_8
      refine WL_skip (dd := some 24) rfl rfl rfl ?_
      refine WL_skip (dd := some 25) rfl rfl rfl ?_
      refine WL_skip (dd := some 26) rfl rfl rfl ?_
      refine WL_skip (dd := some 27) rfl rfl rfl ?_
      refine WL_val (dd := some 28) rfl rfl rfl (r_pick_t rfl (v := .bool true) rfl) ?_
      refine WL_nil ?_
      refine hK23 _ _ ?_
      clear hK23 K22
      refine WC_cond_true rfl ?_
      refine WC_seq (fun K29 hK30 => ?_)
      refine WC_region ?_
      refine WL_val (dd := some 6) rfl rfl rfl (r_assign (v := .slice none 0 0) rfl) ?_
      refine WL_val (dd := some 7) rfl rfl rfl (r_assign (v := .int .i64 1) rfl) ?_
      refine WL_nil ?_
      refine hK30 _ _ ?_
      clear hK30 K29
      refine WC_ret ?_
      repeat (first | refine thenQ_ret ?_ | refine blockQ_ret ?_)
      try clear hK21 K20
      refine ret_tt (v := .slice none 0 0) rfl (v1 := .int .i64 1) rfl ?_
      refine ⟨hB, ?_⟩
      rw [if_neg (ok_not2 hs2_8)]
    ·
      try with_reducible replace hs2_8 := of_decide_eq_false hs2_8
      refine WL_val (dd := some 24) rfl rfl rfl (r_loadW rfl tb_ag24 rfl hm0_1) ?_
      refine WL_val (dd := some 25) rfl rfl rfl (r_loadW rfl tb_ag24 rfl hm1_5) ?_
      refine WL_call (dd := some 26) rfl rfl rfl (r_call2 tb_c82 (v0 := .agg #[_, _, _, _]) rfl (v1 := .agg #[_, _, _, _]) rfl) (C_set_Within _ _ _) (fun v2_11 W31 hE32 hP2_11 => ?_)
      have hsz33 := (Below.size hB)
      replace hB := below_ext hB hE32 (Nat.le_refl _)
      replace hm0_0 := hE32.at hm0_0
      replace hm0_1 := hE32.at hm0_1
      replace hm1_5 := hE32.at hm1_5
      clear hE32
      clear hsz33
      obtain rfl := hP2_11
      refine WL_val (dd := some 27) rfl rfl rfl (r_not rfl) ?_
      refine WL_val (dd := some 28) rfl rfl rfl (r_pick_f rfl (v := .bool _) rfl) ?_
      refine WL_nil ?_
      refine hK23 _ _ ?_
      clear hK23 K22
      refine WC_cond (b := _) rfl (fun hc0 => ?_) (fun hc0 => ?_)
      ·
        try with_reducible replace hc0 := of_decide_eq_true hc0
        refine WC_seq (fun K34 hK35 => ?_)
        refine WC_region ?_
        refine WL_val (dd := some 6) rfl rfl rfl (r_assign (v := .slice none 0 0) rfl) ?_
        refine WL_val (dd := some 7) rfl rfl rfl (r_assign (v := .int .i64 1) rfl) ?_
        refine WL_nil ?_
        refine hK35 _ _ ?_
        clear hK35 K34
        refine WC_ret ?_
        repeat (first | refine thenQ_ret ?_ | refine blockQ_ret ?_)
        try clear hK21 K20
        refine ret_tt (v := .slice none 0 0) rfl (v1 := .int .i64 1) rfl ?_
        refine ⟨hB, ?_⟩
        rw [if_neg (ok_not3 hhP1_1 hs2_2 hc0)]
      ·
        try with_reducible replace hc0 := of_decide_eq_false hc0
        refine WC_skip ?_
        refine hK21 _ _ ?_
        clear hK21 K20
        refine WC_seq (fun K36 hK37 => ?_)
        have hok : okB on may n = true := ok_yes hhP1_1 hs2_2 hs2_8 hc0
        obtain ⟨h0, h8, rfl, rfl⟩ := hhP1_1.resolve_right (fun h => h.1 (of_bounds (okB_iff.1 hok).1))
        obtain ⟨n, rfl⟩ := Int.eq_ofNat_of_zero_le h0
        obtain ⟨hok8, hok9⟩ := ok_good hok
        refine WC_region ?_
        refine WL_val (dd := some 29) rfl rfl rfl (r_move (v := .int .i64 _) rfl) ?_
        refine WL_val (dd := some 30) rfl rfl rfl (r_loadW rfl tb_ag24 rfl hm1_5) ?_
        refine WL_val (dd := some 31) rfl rfl rfl (tb_build106_0_1 (h0 := rfl) (k0 := rfl) (h1 := rfl) (c0_0 := .int .i64 _)) ?_
        refine WL_val (dd := some 32) rfl rfl rfl (r_loadW rfl tb_ag24 rfl hm0_0) ?_
        refine WL_val (dd := some 33) rfl rfl rfl (r_loadW rfl tb_ag24 rfl hm0_1) ?_
        refine WL_call (dd := some 34) rfl rfl rfl (r_call4 tb_c97 (v0 := .agg #[_, _, _, _, _]) rfl (v1 := .agg #[_, _, _, _]) rfl (v2 := .agg #[_, _, _, _]) rfl (v3 := .int .i64 0) rfl) (C_cover n (n + 1) on may 0 _ hok8 hok9 (by omega) (by omega)) (fun v4_5 W38 hE39 hP4_5 => ?_)
        have hsz40 := (Below.size hB)
        replace hB := below_ext hB hE39 (Nat.le_refl _)
        replace hm0_0 := hE39.at hm0_0
        replace hm0_1 := hE39.at hm0_1
        replace hm1_5 := hE39.at hm1_5
        clear hE39
        replace hP4_5 := OwT.mono hP4_5 hsz40
        clear hsz40
        refine WL_val (dd := some 6) rfl rfl rfl (r_assign (v := v4_5) rfl) ?_
        refine WL_val (dd := some 7) rfl rfl rfl (r_assign (v := .int .i64 0) rfl) ?_
        refine WL_nil ?_
        refine hK37 _ _ ?_
        clear hK37 K36
        refine WC_ret ?_
        repeat (first | refine thenQ_ret ?_ | refine blockQ_ret ?_)
        refine ret_tt (v := v4_5) rfl (v1 := .int .i64 0) rfl ?_
        refine ⟨hB, ?_⟩
        rw [if_pos hok]
        exact ⟨_, rfl, hP4_5⟩

theorem C_isop_Grown (on may : Nat) (n : Int) (w : World) :
    Fn Try.prog 43 #[setV on, setV may, .int .i64 n] w fun v w' => if okB on may n = true then ∃ x, v = .tuple #[x, .int .i64 0] ∧ OwT encC 2 34 w' w.heap.size x (grownL may n (covL on may n)) else v = .tuple #[.slice none 0 0, .int .i64 1] := by
  refine Fn_intro (n := 52) Try.func43 rfl rfl (Nat.le_of_ble_eq_true rfl) ?_
  have hB : Below w.heap.size w w := Below.refl _ _
  refine WC_seq (fun K1 hK2 => ?_)
  refine WC_region ?_
  refine WL_step (dd := some 3) rfl rfl rfl (Y_box (c := #[_, _, _, _]) rfl rfl (fun b0_0 W3 hb4 hE5 hm0_0 => ?_))
  have lo_b0_0 : w.heap.size ≤ b0_0 := hb4 ▸ (Below.size hB)
  clear hb4
  replace hB := below_ext hB hE5 (Nat.le_refl _)
  clear hE5
  refine WL_step (dd := some 4) rfl rfl rfl (Y_box (c := #[_, _, _, _]) rfl rfl (fun b0_1 W6 hb7 hE8 hm0_1 => ?_))
  have lo_b0_1 : w.heap.size ≤ b0_1 := hb7 ▸ (Below.size hB)
  have ne_b0_0_b0_1 : b0_0 ≠ b0_1 := Nat.ne_of_lt (hb7 ▸ hm0_0.lt)
  clear hb7
  replace hB := below_ext hB hE8 (Nat.le_refl _)
  replace hm0_0 := hE8.at hm0_0
  clear hE8
  refine WL_val (dd := some 6) rfl rfl rfl (r_assign (v := .slice none 0 0) rfl) ?_
  refine WL_val (dd := some 7) rfl rfl rfl (r_assign (v := .int .i64 0) rfl) ?_
  refine WL_nil ?_
  refine hK2 _ _ ?_
  clear hK2 K1
  refine WC_seq (fun K9 hK10 => ?_)
  refine WC_region ?_
  refine WL_val (dd := some 17) rfl rfl rfl (r_loadW rfl tb_ag24 rfl hm0_0) ?_
  refine WL_val (dd := some 18) rfl rfl rfl (r_loadW rfl tb_ag24 rfl hm0_1) ?_
  refine WL_val (dd := some 19) rfl rfl rfl (r_move (v := .int .i64 _) rfl) ?_
  refine WL_call (dd := some 20) rfl rfl rfl (r_call3 tb_c39 (v0 := .agg #[_, _, _, _]) rfl (v1 := .agg #[_, _, _, _]) rfl (v2 := .int .i64 _) rfl) (C_isop_Cover _ _ _ _) (fun v1_3 W11 hE12 hP1_3 => ?_)
  have hsz13 := (Below.size hB)
  replace hB := below_ext hB hE12 (Nat.le_refl _)
  replace hm0_0 := hE12.at hm0_0
  replace hm0_1 := hE12.at hm0_1
  clear hE12
  obtain ⟨x_hP1_3, er_hP1_3, l_hP1_3, rfl, ho_hP1_3, hc_hP1_3⟩ := own_res hP1_3
  replace ho_hP1_3 := OwT.mono ho_hP1_3 hsz13
  clear hsz13
  refine WL_val (dd := some 16) rfl rfl rfl (r_move (v := .tuple #[x_hP1_3, .int .i64 _]) rfl) ?_
  refine WL_val (dd := some 21) rfl rfl rfl (r_ext2_0 (h := rfl)) ?_
  refine WL_val (dd := some 22) rfl rfl rfl (r_ext2_1 (h := rfl)) ?_
  refine WL_val (dd := some 8) rfl rfl rfl (r_assign (v := x_hP1_3) rfl) ?_
  refine WL_val (dd := some 9) rfl rfl rfl (r_assign (v := .int .i64 _) rfl) ?_
  refine WL_nil ?_
  refine hK10 _ _ ?_
  clear hK10 K9
  refine WC_seq (fun K14 hK15 => ?_)
  refine WC_seq (fun K16 hK17 => ?_)
  refine WC_region ?_
  refine WL_val (dd := some 23) rfl rfl rfl (r_move (v := .int .i64 _) rfl) ?_
  refine WL_val (dd := some 24) rfl rfl rfl (r_neq rfl rfl) ?_
  refine WL_nil ?_
  refine hK17 _ _ ?_
  clear hK17 K16
  refine WC_cond (b := _) rfl (fun hc0 => ?_) (fun hc0 => ?_)
  ·
    try with_reducible replace hc0 := of_decide_eq_true hc0
    refine WC_seq (fun K18 hK19 => ?_)
    refine WC_region ?_
    refine WL_val (dd := some 25) rfl rfl rfl (r_move (v := .int .i64 _) rfl) ?_
    refine WL_val (dd := some 6) rfl rfl rfl (r_assign (v := .slice none 0 0) rfl) ?_
    refine WL_val (dd := some 7) rfl rfl rfl (r_assign (v := .int .i64 _) rfl) ?_
    refine WL_nil ?_
    refine hK19 _ _ ?_
    clear hK19 K18
    refine WC_ret ?_
    repeat (first | refine thenQ_ret ?_ | refine blockQ_ret ?_)
    try clear hK15 K14
    refine ret_tt (v := .slice none 0 0) rfl (v1 := .int .i64 _) rfl ?_
    refine ⟨hB, ?_⟩
    obtain ⟨hno, hee⟩ := err_ne hc_hP1_3 hc0
    rw [if_neg hno, hee]
  ·
    try with_reducible replace hc0 := of_decide_eq_false hc0
    refine WC_skip ?_
    refine hK15 _ _ ?_
    clear hK15 K14
    refine WC_seq (fun K20 hK21 => ?_)
    obtain ⟨hok, hleq⟩ := err_eq hc_hP1_3 hc0
    subst hleq
    have hll := covL_len (on := on) (may := may) (of_bounds (okB_iff.1 hok).1).2
    refine WC_region ?_
    refine WL_step (dd := some 26) rfl rfl rfl (Y_makeMap (enc := keyC) (encV := Value.bool) (fun b4_0 W22 hb23 hE24 hm4_0 => ?_))
    have lo_b4_0 : w.heap.size ≤ b4_0 := hb23 ▸ (Below.size hB)
    clear hb23
    replace hB := below_ext hB hE24 (Nat.le_refl _)
    replace hm0_0 := hE24.at hm0_0
    replace hm0_1 := hE24.at hm0_1
    replace ho_hP1_3 := hE24.ow ho_hP1_3
    clear hE24
    replace hm4_0 : MapT keyC Value.bool _ _ (allT []) := hm4_0
    refine WL_val (dd := some 10) rfl rfl rfl (r_assign (v := .map (some b4_0)) rfl) ?_
    refine WL_nil ?_
    refine hK21 _ _ ?_
    clear hK21 K20
    refine WC_seq (fun K25 hK26 => ?_)
    refine WC_region ?_
    refine WL_val (dd := some 11) rfl rfl rfl (r_assign (v := .slice none 0 0) rfl) ?_
    refine WL_nil ?_
    refine hK26 _ _ ?_
    clear hK26 K25
    refine WC_seq (fun K27 hK28 => ?_)
    refine WC_seq (fun K29 hK30 => ?_)
    refine WC_region ?_
    refine WL_val (dd := some 27) rfl rfl rfl (r_move (v := x_hP1_3) rfl) ?_
    refine WL_val (dd := some 28) rfl rfl rfl (r_lenS (v := x_hP1_3) rfl ho_hP1_3.sl tb_el27) ?_
    refine WL_val (dd := some 29) rfl rfl rfl (r_move (v := .int .i64 0) rfl) ?_
    refine WL_nil ?_
    refine hK30 _ _ ?_
    clear hK30 K29
    refine WC_block ?_
    refine WC_loop (σ := (Nat) × (Value)) [11, 13, 14, 15, 29, 30, 31, 32, 33, 34, 35, 36, 37, 38, 39, 40, 41, 42, 43, 44, 45, 46, 47, 48, 49, 50] (fun (k, v0) => [(29, .int .i64 (k : Int)), (11, v0)]) (fun sg W => match sg with | (k, v0) => (Below w.heap.size w W) ∧ (At W b0_0 _ 24) ∧ (At W b0_1 _ 24) ∧ (OwT encC 2 34 W w.heap.size x_hP1_3 _) ∧ (MapT keyC Value.bool W b4_0 (allT (grownTo may n (covL on may n) k))) ∧ (Apart v0 x_hP1_3) ∧ (OwT encC 2 34 W w.heap.size v0 (grownTo may n (covL on may n) k)) ∧ (k ≤ (covL on may n).length) ∧ (True)) (fun (k, v0) => (covL on may n).length - k) ((0, .slice none 0 0)) ⟨rfl, rfl, trivial⟩ ⟨hB, hm0_0, hm0_1, ho_hP1_3, hm4_0, Apart.nilL, OwT.nil, (Nat.zero_le _), trivial⟩ ?_
    clear hB hm0_0 hm0_1 ho_hP1_3 hm4_0
    rintro ⟨k, v0⟩ g32 W31 ⟨hB, hm0_0, hm0_1, ho_hP1_3, hm4_0, hap, ho, hk, _⟩ J33 hJ34
    refine WC_seq (fun K35 hK36 => ?_)
    refine WC_region ?_
    refine WL_val (dd := some 30) rfl rfl rfl (r_lss rfl rfl) ?_
    refine WL_nil ?_
    refine hK36 _ _ ?_
    clear hK36 K35
    refine WC_seq (fun K37 hK38 => ?_)
    refine WC_cond (b := _) rfl (fun hc1 => ?_) (fun hc1 => ?_)
    ·
      try with_reducible replace hc1 := of_decide_eq_true hc1
      refine WC_skip ?_
      refine hK38 _ _ ?_
      clear hK38 K37
      refine WC_seq (fun K39 hK40 => ?_)
      refine WC_block ?_
      refine WC_seq (fun K41 hK42 => ?_)
      refine WC_region ?_
      refine WL_val (dd := some 31) rfl rfl rfl (r_idxS (v := x_hP1_3) rfl ho_hP1_3.sl rfl tb_el27 (by omega) (by first | omega | (simp only [flagsTo_len, litsTo_len, firstF_len, ptF_len, setF_len]; omega))) ?_
      refine WL_val (dd := some 32) rfl rfl rfl (r_load2 rfl tb_ag34 (SlT.cell ho_hP1_3.sl encC_len ⟨0, 0⟩ (by omega) (by first | omega | (simp only [flagsTo_len, litsTo_len, firstF_len, ptF_len, setF_len]; omega)) 0 rfl) (SlT.cell ho_hP1_3.sl encC_len ⟨0, 0⟩ (by omega) (by first | omega | (simp only [flagsTo_len, litsTo_len, firstF_len, ptF_len, setF_len]; omega)) 1 rfl)) ?_
      refine WL_step (dd := some 13) rfl rfl rfl (Y_alloc tb_z34 rfl (fun b8_2 W43 hb44 hE45 hm8_2 => ?_))
      have lo_b8_2 : w.heap.size ≤ b8_2 := hb44 ▸ (Below.size hB)
      have no_x_hP1_3_b8_2 := OwT.neB (b := b8_2) ho_hP1_3 (Nat.le_of_eq hb44.symm)
      have no_v0_b8_2 := OwT.neB (b := b8_2) ho (Nat.le_of_eq hb44.symm)
      clear hb44
      replace hB := below_ext hB hE45 (Nat.le_refl _)
      replace hm0_0 := hE45.at hm0_0
      replace hm0_1 := hE45.at hm0_1
      replace ho_hP1_3 := hE45.ow ho_hP1_3
      replace hm4_0 := hE45.mapT hm4_0
      replace ho := hE45.ow ho
      clear hE45
      refine WL_step (dd := none) rfl rfl rfl (Y_storeW rfl rfl tb_ag34 rfl hm8_2 rfl (by rfl) (fun W46 hG47 hm48 => ?_))
      replace hB := below_grown hB hG47 (Nat.le_refl _) (fun j hj => by cases hj; exact lo_b8_2)
      replace hm0_0 := At.grownAt hm0_0 hm8_2 hG47 (by decide)
      replace hm0_1 := At.grownAt hm0_1 hm8_2 hG47 (by decide)
      replace ho_hP1_3 := OwT.grownAtNe ho_hP1_3 no_x_hP1_3_b8_2 hG47
      replace hm4_0 := MapT.grownAt hm4_0 hm8_2 hG47
      replace ho := OwT.grownAtNe ho no_v0_b8_2 hG47
      clear hG47 hm8_2
      have hm8_2 := hm48
      clear hm48
      refine WL_nil ?_
      refine hK42 _ _ ?_
      clear hK42 K41
      refine WC_seq (fun K49 hK50 => ?_)
      obtain ⟨hi1, hi2, hi3, hi4⟩ := cov_imp hok (getD_mem (d := ⟨0, 0⟩) (show k < (covL on may n).length by omega))
      have hgl := grownTo_len may n (covL on may n) k
      refine WC_region ?_
      refine WL_val (dd := some 34) rfl rfl rfl (r_loadW rfl tb_ag34 rfl hm8_2) ?_
      refine WL_val (dd := some 35) rfl rfl rfl (r_loadW rfl tb_ag24 rfl hm0_1) ?_
      refine WL_val (dd := some 36) rfl rfl rfl (r_move (v := .int .i64 _) rfl) ?_
      refine WL_call (dd := some 37) rfl rfl rfl (r_call3 tb_c79 (v0 := .agg #[_, _]) rfl (v1 := .agg #[_, _, _, _]) rfl (v2 := .int .i64 _) rfl) (C_prime_Grow ((covL on may n).getD k ⟨0, 0⟩) may n _ ⟨hi2, hi3⟩) (fun v9_3 W51 hE52 hP9_3 => ?_)
      have hsz53 := (Below.size hB)
      replace hB := below_ext hB hE52 (Nat.le_refl _)
      replace hm0_0 := hE52.at hm0_0
      replace hm0_1 := hE52.at hm0_1
      replace ho_hP1_3 := hE52.ow ho_hP1_3
      replace hm4_0 := hE52.mapT hm4_0
      replace ho := hE52.ow ho
      replace hm8_2 := hE52.at hm8_2
      clear hE52
      rw [if_pos hi1] at hP9_3
      obtain rfl := hP9_3
      clear hsz53
      refine WL_val (dd := some 33) rfl rfl rfl (r_move (v := .tuple #[.agg #[_, _], .int .i64 _]) rfl) ?_
      refine WL_val (dd := some 38) rfl rfl rfl (r_ext2_0 (h := rfl)) ?_
      refine WL_val (dd := some 39) rfl rfl rfl (r_ext2_1 (h := rfl)) ?_
      refine WL_step (dd := some 14) rfl rfl rfl (Y_alloc tb_z34 rfl (fun b9_7 W54 hb55 hE56 hm9_7 => ?_))
      have lo_b9_7 : w.heap.size ≤ b9_7 := hb55 ▸ (Below.size hB)
      have no_x_hP1_3_b9_7 := OwT.neB (b := b9_7) ho_hP1_3 (Nat.le_of_eq hb55.symm)
      have no_v0_b9_7 := OwT.neB (b := b9_7) ho (Nat.le_of_eq hb55.symm)
      have ne_b8_2_b9_7 : b8_2 ≠ b9_7 := Nat.ne_of_lt (hb55 ▸ hm8_2.lt)
      clear hb55
      replace hB := below_ext hB hE56 (Nat.le_refl _)
      replace hm0_0 := hE56.at hm0_0
      replace hm0_1 := hE56.at hm0_1
      replace ho_hP1_3 := hE56.ow ho_hP1_3
      replace hm4_0 := hE56.mapT hm4_0
      replace ho := hE56.ow ho
      replace hm8_2 := hE56.at hm8_2
      clear hE56
      refine WL_step (dd := none) rfl rfl rfl (Y_storeW rfl rfl tb_ag34 rfl hm9_7 rfl (by rfl) (fun W57 hG58 hm59 => ?_))
      replace hB := below_grown hB hG58 (Nat.le_refl _) (fun j hj => by cases hj; exact lo_b9_7)
      replace hm0_0 := At.grownAt hm0_0 hm9_7 hG58 (by decide)
      replace hm0_1 := At.grownAt hm0_1 hm9_7 hG58 (by decide)
      replace ho_hP1_3 := OwT.grownAtNe ho_hP1_3 no_x_hP1_3_b9_7 hG58
      replace hm4_0 := MapT.grownAt hm4_0 hm9_7 hG58
      replace ho := OwT.grownAtNe ho no_v0_b9_7 hG58
      replace hm8_2 := At.grownNe hm8_2 ne_b8_2_b9_7 hG58
      clear hG58 hm9_7
      have hm9_7 := hm59
      clear hm59
      refine WL_val (dd := some 15) rfl rfl rfl (r_assign (v := .int .i64 _) rfl) ?_
      refine WL_nil ?_
      refine hK50 _ _ ?_
      clear hK50 K49
      refine WC_seq (fun K60 hK61 => ?_)
      refine WC_region ?_
      refine WL_val (dd := some 40) rfl rfl rfl (r_move (v := .map (some b4_0)) rfl) ?_
      refine WL_val (dd := some 41) rfl rfl rfl (r_loadW rfl tb_ag34 rfl hm9_7) ?_
      refine WL_val (dd := some 42) rfl rfl rfl (r_lookup (enc := keyC) (encV := Value.bool) (v0 := false) (k := (growS may n ((covL on may n).getD k ⟨0, 0⟩))) rfl rfl tb_mp93 tb_key34 (fun a => ⟨a, rfl⟩) keyC_inj tb_z4 rfl hm4_0) ?_
      refine WL_val (dd := some 43) rfl rfl rfl (r_not rfl) ?_
      refine WL_nil ?_
      refine hK61 _ _ ?_
      clear hK61 K60
      refine WC_cond (b := _) rfl (fun hc2 => ?_) (fun hc2 => ?_)
      ·
        try with_reducible replace hc2 := of_decide_eq_true hc2
        refine WC_seq (fun K62 hK63 => ?_)
        refine WC_region ?_
        refine WL_val (dd := some 44) rfl rfl rfl (r_move (v := .map (some b4_0)) rfl) ?_
        refine WL_val (dd := some 45) rfl rfl rfl (r_loadW rfl tb_ag34 rfl hm9_7) ?_
        refine WL_step (dd := none) rfl rfl rfl (Y_mapUpdate (enc := keyC) (encV := Value.bool) (k := (growS may n ((covL on may n).getD k ⟨0, 0⟩))) (v := true) rfl rfl rfl tb_mp93 tb_key34 (fun a => ⟨a, rfl⟩) keyC_inj hm4_0 (fun W64 hG65 hm66 => ?_))
        replace hB := below_grown hB hG65 (Nat.le_refl _) (fun j hj => by cases hj; exact lo_b4_0)
        replace hm0_0 := At.grownMap hm0_0 hm4_0 hG65
        replace hm0_1 := At.grownMap hm0_1 hm4_0 hG65
        replace ho_hP1_3 := OwT.grownMap ho_hP1_3 hm4_0 hG65
        replace ho := OwT.grownMap ho hm4_0 hG65
        replace hm8_2 := At.grownMap hm8_2 hm4_0 hG65
        replace hm9_7 := At.grownMap hm9_7 hm4_0 hG65
        clear hG65 hm4_0
        have hm4_0 := hm66
        clear hm66
        rw [allT_put] at hm4_0
        refine WL_nil ?_
        refine hK63 _ _ ?_
        clear hK63 K62
        refine WC_region ?_
        refine WL_val (dd := some 46) rfl rfl rfl (r_move (v := v0) rfl) ?_
        refine WL_val (dd := some 47) rfl rfl rfl (r_loadW rfl tb_ag34 rfl hm9_7) ?_
        refine WL_step (dd := some 48) rfl rfl rfl (Y_lit1 (u := .agg #[_, _]) rfl tb_el27 tb_zs34 rfl (by decide) (by decide) (fun b12_2 W67 hb68 hE69 hm12_2 => ?_))
        have lo_b12_2 : w.heap.size ≤ b12_2 := hb68 ▸ (Below.size hB)
        have no_x_hP1_3_b12_2 := OwT.neB (b := b12_2) ho_hP1_3 (Nat.le_of_eq hb68.symm)
        have no_v0_b12_2 := OwT.neB (b := b12_2) ho (Nat.le_of_eq hb68.symm)
        have ne_b8_2_b12_2 : b8_2 ≠ b12_2 := Nat.ne_of_lt (hb68 ▸ hm8_2.lt)
        have ne_b9_7_b12_2 : b9_7 ≠ b12_2 := Nat.ne_of_lt (hb68 ▸ hm9_7.lt)
        clear hb68
        replace hB := below_ext hB hE69 (Nat.le_refl _)
        replace hm0_0 := hE69.at hm0_0
        replace hm0_1 := hE69.at hm0_1
        replace ho_hP1_3 := hE69.ow ho_hP1_3
        replace hm4_0 := hE69.mapT hm4_0
        replace ho := hE69.ow ho
        replace hm8_2 := hE69.at hm8_2
        replace hm9_7 := hE69.at hm9_7
        clear hE69
        refine WL_step (dd := some 49) rfl rfl rfl (Y_appendA (v := v0) (v2 := .slice (some ⟨b12_2, 0, none⟩) 1 1) rfl rfl tb_el27 tb_zs34 (by decide) ho (sl_lit1 hm12_2 rfl) rfl (by have := Below.size hB; omega) (by first | omega | (simp; omega) | (simp only [flagsTo_len, litsTo_len, firstF_len, ptF_len, setF_len]; omega)) (by first | omega | (simp; omega) | (simp only [flagsTo_len, litsTo_len, firstF_len, ptF_len, setF_len]; omega)) (fun v12_3 W70 hG71 ho12_3 hob72 => ?_))
        have hap73 := Apart.app hap hob72 ho_hP1_3
        replace ho12_3 := OwT.snoc (enc := encC) (x := (growS may n ((covL on may n).getD k ⟨0, 0⟩))) rfl rfl rfl rfl ho12_3
        clear hm12_2
        replace hB := below_grown hB hG71 (Nat.le_refl _) (fun j hj => (OwT.lt ho j hj))
        replace hm0_0 := At.grownOw hm0_0 ho hG71 (by decide)
        replace hm0_1 := At.grownOw hm0_1 ho hG71 (by decide)
        replace ho_hP1_3 := OwT.grownAp ho_hP1_3 hap hG71
        replace hm4_0 := MapT.grownOw hm4_0 ho hG71
        replace hm8_2 := At.grownOwNe hm8_2 no_v0_b8_2 hG71
        replace hm9_7 := At.grownOwNe hm9_7 no_v0_b9_7 hG71
        clear hG71
        clear ho
        refine WL_val (dd := some 11) rfl rfl rfl (r_assign (v := v12_3) rfl) ?_
        refine WL_nil ?_
        refine hK40 _ _ ?_
        clear hK40 K39
        refine WC_region ?_
        refine WL_val (dd := some 50) rfl rfl rfl (r_addI rfl rfl (by omega) (by omega)) ?_
        refine WL_val (dd := some 29) rfl rfl rfl (r_move (v := .int .i64 _) rfl) ?_
        refine WL_nil ?_
        refine hJ34 _ _ ((k + 1, v12_3)) ?_ ?_ ?_ ?_
        · repeat (first | exact agree.mask _ _ _ | refine agree.updo ?_ rfl _ | refine agree.updL ?_ _ rfl | refine agree.maskS rfl ?_)
        · exact ⟨rfl, rfl, trivial⟩
        · exact ⟨hB, hm0_0, hm0_1, ho_hP1_3, (by first | exact hm4_0 | (rw [grownTo, insK_old (is_in (kk := growS may n ((covL on may n).getD k ⟨0, 0⟩)) hc2)]; exact hm4_0)), hap73, (by first | (rw [grownTo, insK_new (not_in (kk := growS may n ((covL on may n).getD k ⟨0, 0⟩)) hc2)]; exact ho12_3) | (rw [grownTo, insK_old (is_in (kk := growS may n ((covL on may n).getD k ⟨0, 0⟩)) hc2)]; exact ho12_3)), (by omega), trivial⟩
        · show (covL on may n).length - (k + 1) < (covL on may n).length - k; omega
      ·
        try with_reducible replace hc2 := of_decide_eq_false hc2
        refine WC_skip ?_
        refine hK40 _ _ ?_
        clear hK40 K39
        refine WC_region ?_
        refine WL_val (dd := some 50) rfl rfl rfl (r_addI rfl rfl (by omega) (by omega)) ?_
        refine WL_val (dd := some 29) rfl rfl rfl (r_move (v := .int .i64 _) rfl) ?_
        refine WL_nil ?_
        refine hJ34 _ _ ((k + 1, v0)) ?_ ?_ ?_ ?_
        · repeat (first | exact agree.mask _ _ _ | refine agree.updo ?_ rfl _ | refine agree.updL ?_ _ rfl | refine agree.maskS rfl ?_)
        · exact ⟨rfl, rfl, trivial⟩
        · exact ⟨hB, hm0_0, hm0_1, ho_hP1_3, (by first | exact hm4_0 | (rw [grownTo, insK_old (is_in (kk := growS may n ((covL on may n).getD k ⟨0, 0⟩)) hc2)]; exact hm4_0)), hap, (by first | (rw [grownTo, insK_new (not_in (kk := growS may n ((covL on may n).getD k ⟨0, 0⟩)) hc2)]; exact ho) | (rw [grownTo, insK_old (is_in (kk := growS may n ((covL on may n).getD k ⟨0, 0⟩)) hc2)]; exact ho)), (by omega), trivial⟩
        · show (covL on may n).length - (k + 1) < (covL on may n).length - k; omega
    ·
      try with_reducible replace hc1 := of_decide_eq_false hc1
      refine WC_exit ?_
      refine hK28 _ _ ?_
      clear hK38 K37
      clear hJ34 J33
      clear hK28 K27
      refine WC_seq (fun K74 hK75 => ?_)
      refine WC_region ?_
      refine WL_val (dd := some 51) rfl rfl rfl (r_move (v := v0) rfl) ?_
      refine WL_val (dd := some 6) rfl rfl rfl (r_assign (v := v0) rfl) ?_
      refine WL_val (dd := some 7) rfl rfl rfl (r_assign (v := .int .i64 0) rfl) ?_
      refine WL_nil ?_
      refine hK75 _ _ ?_
      clear hK75 K74
      refine WC_ret ?_
      repeat (first | refine thenQ_ret ?_ | refine blockQ_ret ?_)
      refine ret_tt (v := v0) rfl (v1 := .int .i64 0) rfl ?_
      refine ⟨hB, ?_⟩
      obtain rfl : k = (covL on may n).length := by omega
      rw [if_pos hok]
      exact ⟨_, rfl, ho⟩

theorem C_drawkniferef12_less (xa xb : Value) (s t : Nat) (w : World) (ha : SlT encB 1 w xa (flagsS s)) (hb : SlT encB 1 w xb (flagsS t)) :
    Fn Try.prog 99 #[xa, xb] w fun v w' => OwT encB 1 4 w' w.heap.size v (flagsS (andNot s t)) := by
  refine Fn_intro (n := 27) Try.func99 rfl rfl (Nat.le_of_ble_eq_true rfl) ?_
  have hB : Below w.heap.size w w := Below.refl _ _
  refine WC_seq (fun K1 hK2 => ?_)
  refine WC_region ?_
  refine WL_val (dd := some 4) rfl rfl rfl (r_assign (v := .slice none 0 0) rfl) ?_
  refine WL_nil ?_
  refine hK2 _ _ ?_
  clear hK2 K1
  refine WC_seq (fun K3 hK4 => ?_)
  refine WC_region ?_
  refine WL_step (dd := some 7) rfl rfl rfl (Y_make (n := 256) (N := w.heap.size) rfl rfl tb_el43 tb_z4 (by decide) (by decide) (Below.size hB) (fun v1_0 W5 hE6 ho1_0 => ?_))
  replace ho1_0 := OwT.made encB_len false rfl (by decide) ho1_0
  replace hB := below_ext hB hE6 (Nat.le_refl _)
  clear hE6
  rw [setF_zero (fun p => (andNot s t).testBit p)] at ho1_0
  refine WL_val (dd := some 5) rfl rfl rfl (r_assign (v := v1_0) rfl) ?_
  refine WL_nil ?_
  refine hK4 _ _ ?_
  clear hK4 K3
  refine WC_seq (fun K7 hK8 => ?_)
  refine WC_seq (fun K9 hK10 => ?_)
  refine WC_region ?_
  refine WL_val (dd := some 6) rfl rfl rfl (r_assign (v := .int .i64 0) rfl) ?_
  refine WL_nil ?_
  refine hK10 _ _ ?_
  clear hK10 K9
  refine WC_block ?_
  refine WC_loop (σ := (Nat)) [6, 8, 9, 10, 11, 12, 13, 14, 15, 16, 17, 18, 19, 20, 21, 22, 23, 24, 25] (fun k => [(6, .int .i64 (k : Int))]) (fun k W => (Below w.heap.size w W) ∧ (OwT encB 1 4 W w.heap.size v1_0 (setF (fun p => (andNot s t).testBit p) k)) ∧ (k ≤ 256) ∧ (True)) (fun k => 256 - k) (0) ⟨rfl, trivial⟩ ⟨hB, ho1_0, (by omega), trivial⟩ ?_
  clear hB ho1_0
  rintro k g12 W11 ⟨hB, ho, hk, _⟩ J13 hJ14
  refine WC_seq (fun K15 hK16 => ?_)
  refine WC_seq (fun K17 hK18 => ?_)
  refine WC_region ?_
  refine WL_val (dd := some 8) rfl rfl rfl (r_move (v := .int .i64 _) rfl) ?_
  refine WL_val (dd := some 9) rfl rfl rfl (r_lss rfl rfl) ?_
  refine WL_nil ?_
  refine hK18 _ _ ?_
  clear hK18 K17
  refine WC_cond (b := _) rfl (fun hc0 => ?_) (fun hc0 => ?_)
  ·
    try with_reducible replace hc0 := of_decide_eq_true hc0
    refine WC_skip ?_
    refine hK16 _ _ ?_
    clear hK16 K15
    refine WC_seq (fun K19 hK20 => ?_)
    refine WC_block ?_
    refine WC_region ?_
    refine WL_val (dd := some 12) rfl rfl rfl (r_move (v := v1_0) rfl) ?_
    refine WL_val (dd := some 13) rfl rfl rfl (r_move (v := .int .i64 _) rfl) ?_
    refine WL_val (dd := some 14) rfl rfl rfl (r_move (v := xa) rfl) ?_
    refine WL_val (dd := some 15) rfl rfl rfl (r_move (v := .int .i64 _) rfl) ?_
    refine WL_val (dd := some 16) rfl rfl rfl (r_idxS (v := xa) rfl (Below.slT hB ha) rfl tb_el43 (by omega) (by first | omega | (simp only [flagsTo_len, litsTo_len, firstF_len, ptF_len, setF_len]; omega))) ?_
    refine WL_val (dd := some 17) rfl rfl rfl (r_load1 (v := .bool _) rfl tb_sc4 (SlT.cell (Below.slT hB ha) encB_len false (by omega) (by first | omega | (simp only [flagsTo_len, litsTo_len, firstF_len, ptF_len, setF_len]; omega)) 0 rfl)) ?_
    refine WL_split (dd := some 18) rfl rfl rfl (r_move (v := .bool _) rfl) (fun hs5_6 => ?_) (fun hs5_6 => ?_)
    ·
      try with_reducible replace hs5_6 := of_decide_eq_true hs5_6
      refine WL_val (dd := some 19) rfl rfl rfl (r_move (v := xb) rfl) ?_
      refine WL_val (dd := some 20) rfl rfl rfl (r_move (v := .int .i64 _) rfl) ?_
      refine WL_val (dd := some 21) rfl rfl rfl (r_idxS (v := xb) rfl (Below.slT hB hb) rfl tb_el43 (by omega) (by first | omega | (simp only [flagsTo_len, litsTo_len, firstF_len, ptF_len, setF_len]; omega))) ?_
      refine WL_val (dd := some 22) rfl rfl rfl (r_load1 (v := .bool _) rfl tb_sc4 (SlT.cell (Below.slT hB hb) encB_len false (by omega) (by first | omega | (simp only [flagsTo_len, litsTo_len, firstF_len, ptF_len, setF_len]; omega)) 0 rfl)) ?_
      refine WL_val (dd := some 23) rfl rfl rfl (r_not rfl) ?_
      refine WL_val (dd := some 24) rfl rfl rfl (r_pick_t rfl (v := .bool _) rfl) ?_
      refine WL_val (dd := some 25) rfl rfl rfl (r_idxS (v := v1_0) rfl ho.sl rfl tb_el43 (by omega) (by first | omega | (simp only [flagsTo_len, litsTo_len, firstF_len, ptF_len, setF_len]; omega))) ?_
      refine WL_step (dd := none) rfl rfl rfl (Y_storeE (v := v1_0) (u := .bool _) (a := _) (j := _) rfl rfl (.inl ⟨tb_sc4, rfl⟩) encB_len rfl rfl ho (by omega) (by first | omega | (simp only [flagsTo_len, litsTo_len, firstF_len, ptF_len, setF_len]; omega)) (fun W21 hG22 hm23 => ?_))
      replace hB := below_grown hB hG22 (Nat.le_refl _) (fun j hj => (OwT.lt ho j hj))
      clear hG22 ho
      have ho := hm23
      clear hm23
      first | rw [setF_put (f := fun p => (andNot s t).testBit p) (less_f1 (by omega) hs5_6)] at ho | rw [setF_put (f := fun p => (andNot s t).testBit p) (less_f2 (by omega) hs5_6)] at ho
      refine WL_nil ?_
      refine hK20 _ _ ?_
      clear hK20 K19
      refine WC_region ?_
      refine WL_val (dd := some 10) rfl rfl rfl (r_move (v := .int .i64 _) rfl) ?_
      refine WL_val (dd := some 11) rfl rfl rfl (r_addI rfl rfl (by omega) (by omega)) ?_
      refine WL_val (dd := some 6) rfl rfl rfl (r_assign (v := .int .i64 _) rfl) ?_
      refine WL_nil ?_
      refine hJ14 _ _ (k + 1) ?_ ?_ ?_ ?_
      · repeat (first | exact agree.mask _ _ _ | refine agree.updo ?_ rfl _ | refine agree.updL ?_ _ rfl | refine agree.maskS rfl ?_)
      · exact ⟨rfl, trivial⟩
      · exact ⟨hB, (by exact ho), (by omega), trivial⟩
      · first | omega | (dsimp only; omega)
    ·
      try with_reducible replace hs5_6 := of_decide_eq_false hs5_6
      refine WL_skip (dd := some 19) rfl rfl rfl ?_
      refine WL_skip (dd := some 20) rfl rfl rfl ?_
      refine WL_skip (dd := some 21) rfl rfl rfl ?_
      refine WL_skip (dd := some 22) rfl rfl rfl ?_
      refine WL_skip (dd := some 23) rfl rfl rfl ?_
      refine WL_val (dd := some 24) rfl rfl rfl (r_pick_f rfl (v := .bool false) rfl) ?_
      refine WL_val (dd := some 25) rfl rfl rfl (r_idxS (v := v1_0) rfl ho.sl rfl tb_el43 (by omega) (by first | omega | (simp only [flagsTo_len, litsTo_len, firstF_len, ptF_len, setF_len]; omega))) ?_
      refine WL_step (dd := none) rfl rfl rfl (Y_storeE (v := v1_0) (u := .bool false) (a := _) (j := _) rfl rfl (.inl ⟨tb_sc4, rfl⟩) encB_len rfl rfl ho (by omega) (by first | omega | (simp only [flagsTo_len, litsTo_len, firstF_len, ptF_len, setF_len]; omega)) (fun W24 hG25 hm26 => ?_))
      replace hB := below_grown hB hG25 (Nat.le_refl _) (fun j hj => (OwT.lt ho j hj))
      clear hG25 ho
      have ho := hm26
      clear hm26
      first | rw [setF_put (f := fun p => (andNot s t).testBit p) (less_f1 (by omega) hs5_6)] at ho | rw [setF_put (f := fun p => (andNot s t).testBit p) (less_f2 (by omega) hs5_6)] at ho
      refine WL_nil ?_
      refine hK20 _ _ ?_
      clear hK20 K19
      refine WC_region ?_
      refine WL_val (dd := some 10) rfl rfl rfl (r_move (v := .int .i64 _) rfl) ?_
      refine WL_val (dd := some 11) rfl rfl rfl (r_addI rfl rfl (by omega) (by omega)) ?_
      refine WL_val (dd := some 6) rfl rfl rfl (r_assign (v := .int .i64 _) rfl) ?_
      refine WL_nil ?_
      refine hJ14 _ _ (k + 1) ?_ ?_ ?_ ?_
      · repeat (first | exact agree.mask _ _ _ | refine agree.updo ?_ rfl _ | refine agree.updL ?_ _ rfl | refine agree.maskS rfl ?_)
      · exact ⟨rfl, trivial⟩
      · exact ⟨hB, (by exact ho), (by omega), trivial⟩
      · first | omega | (dsimp only; omega)
  ·
    try with_reducible replace hc0 := of_decide_eq_false hc0
    refine WC_exit ?_
    refine hK8 _ _ ?_
    clear hK16 K15
    clear hJ14 J13
    clear hK8 K7
    refine WC_seq (fun K27 hK28 => ?_)
    refine WC_region ?_
    refine WL_val (dd := some 26) rfl rfl rfl (r_move (v := v1_0) rfl) ?_
    refine WL_val (dd := some 4) rfl rfl rfl (r_assign (v := v1_0) rfl) ?_
    refine WL_nil ?_
    refine hK28 _ _ ?_
    clear hK28 K27
    refine WC_ret ?_
    repeat (first | refine thenQ_ret ?_ | refine blockQ_ret ?_)
    refine ret_t (v := v1_0) rfl ?_
    refine ⟨hB, ?_⟩
    obtain rfl : k = 256 := by omega
    rw [setF_all (fun p _ => rfl)] at ho
    exact ho

theorem C_drawkniferef12_both (xa xb : Value) (s t : Nat) (w : World) (ha : SlT encB 1 w xa (flagsS s)) (hb : SlT encB 1 w xb (flagsS t)) :
    Fn Try.prog 103 #[xa, xb] w fun v w' => OwT encB 1 4 w' w.heap.size v (flagsS (s &&& t)) := by
  refine Fn_intro (n := 26) Try.func103 rfl rfl (Nat.le_of_ble_eq_true rfl) ?_
  have hB : Below w.heap.size w w := Below.refl _ _
  refine WC_seq (fun K1 hK2 => ?_)
  refine WC_region ?_
  refine WL_val (dd := some 4) rfl rfl rfl (r_assign (v := .slice none 0 0) rfl) ?_
  refine WL_nil ?_
  refine hK2 _ _ ?_
  clear hK2 K1
  refine WC_seq (fun K3 hK4 => ?_)
  refine WC_region ?_
  refine WL_step (dd := some 7) rfl rfl rfl (Y_make (n := 256) (N := w.heap.size) rfl rfl tb_el43 tb_z4 (by decide) (by decide) (Below.size hB) (fun v1_0 W5 hE6 ho1_0 => ?_))
  replace ho1_0 := OwT.made encB_len false rfl (by decide) ho1_0
  replace hB := below_ext hB hE6 (Nat.le_refl _)
  clear hE6
  rw [setF_zero (fun p => (s &&& t).testBit p)] at ho1_0
  refine WL_val (dd := some 5) rfl rfl rfl (r_assign (v := v1_0) rfl) ?_
  refine WL_nil ?_
  refine hK4 _ _ ?_
  clear hK4 K3
  refine WC_seq (fun K7 hK8 => ?_)
  refine WC_seq (fun K9 hK10 => ?_)
  refine WC_region ?_
  refine WL_val (dd := some 6) rfl rfl rfl (r_assign (v := .int .i64 0) rfl) ?_
  refine WL_nil ?_
  refine hK10 _ _ ?_
  clear hK10 K9
  refine WC_block ?_
  refine WC_loop (σ := (Nat)) [6, 8, 9, 10, 11, 12, 13, 14, 15, 16, 17, 18, 19, 20, 21, 22, 23, 24] (fun k => [(6, .int .i64 (k : Int))]) (fun k W => (Below w.heap.size w W) ∧ (OwT encB 1 4 W w.heap.size v1_0 (setF (fun p => (s &&& t).testBit p) k)) ∧ (k ≤ 256) ∧ (True)) (fun k => 256 - k) (0) ⟨rfl, trivial⟩ ⟨hB, ho1_0, (by omega), trivial⟩ ?_
  clear hB ho1_0
  rintro k g12 W11 ⟨hB, ho, hk, _⟩ J13 hJ14
  refine WC_seq (fun K15 hK16 => ?_)
  refine WC_seq (fun K17 hK18 => ?_)
  refine WC_region ?_
  refine WL_val (dd := some 8) rfl rfl rfl (r_move (v := .int .i64 _) rfl) ?_
  refine WL_val (dd := some 9) rfl rfl rfl (r_lss rfl rfl) ?_
  refine WL_nil ?_
  refine hK18 _ _ ?_
  clear hK18 K17
  refine WC_cond (b := _) rfl (fun hc0 => ?_) (fun hc0 => ?_)
  ·
    try with_reducible replace hc0 := of_decide_eq_true hc0
    refine WC_skip ?_
    refine hK16 _ _ ?_
    clear hK16 K15
    refine WC_seq (fun K19 hK20 => ?_)
    refine WC_block ?_
    refine WC_region ?_
    refine WL_val (dd := some 12) rfl rfl rfl (r_move (v := v1_0) rfl) ?_
    refine WL_val (dd := some 13) rfl rfl rfl (r_move (v := .int .i64 _) rfl) ?_
    refine WL_val (dd := some 14) rfl rfl rfl (r_move (v := xa) rfl) ?_
    refine WL_val (dd := some 15) rfl rfl rfl (r_move (v := .int .i64 _) rfl) ?_
    refine WL_val (dd := some 16) rfl rfl rfl (r_idxS (v := xa) rfl (Below.slT hB ha) rfl tb_el43 (by omega) (by first | omega | (simp only [flagsTo_len, litsTo_len, firstF_len, ptF_len, setF_len]; omega))) ?_
    refine WL_val (dd := some 17) rfl rfl rfl (r_load1 (v := .bool _) rfl tb_sc4 (SlT.cell (Below.slT hB ha) encB_len false (by omega) (by first | omega | (simp only [flagsTo_len, litsTo_len, firstF_len, ptF_len, setF_len]; omega)) 0 rfl)) ?_
    refine WL_split (dd := some 18) rfl rfl rfl (r_move (v := .bool _) rfl) (fun hs5_6 => ?_) (fun hs5_6 => ?_)
    ·
      try with_reducible replace hs5_6 := of_decide_eq_true hs5_6
      refine WL_val (dd := some 19) rfl rfl rfl (r_move (v := xb) rfl) ?_
      refine WL_val (dd := some 20) rfl rfl rfl (r_move (v := .int .i64 _) rfl) ?_
      refine WL_val (dd := some 21) rfl rfl rfl (r_idxS (v := xb) rfl (Below.slT hB hb) rfl tb_el43 (by omega) (by first | omega | (simp only [flagsTo_len, litsTo_len, firstF_len, ptF_len, setF_len]; omega))) ?_
      refine WL_val (dd := some 22) rfl rfl rfl (r_load1 (v := .bool _) rfl tb_sc4 (SlT.cell (Below.slT hB hb) encB_len false (by omega) (by first | omega | (simp only [flagsTo_len, litsTo_len, firstF_len, ptF_len, setF_len]; omega)) 0 rfl)) ?_
      refine WL_val (dd := some 23) rfl rfl rfl (r_pick_t rfl (v := .bool _) rfl) ?_
      refine WL_val (dd := some 24) rfl rfl rfl (r_idxS (v := v1_0) rfl ho.sl rfl tb_el43 (by omega) (by first | omega | (simp only [flagsTo_len, litsTo_len, firstF_len, ptF_len, setF_len]; omega))) ?_
      refine WL_step (dd := none) rfl rfl rfl (Y_storeE (v := v1_0) (u := .bool _) (a := _) (j := _) rfl rfl (.inl ⟨tb_sc4, rfl⟩) encB_len rfl rfl ho (by omega) (by first | omega | (simp only [flagsTo_len, litsTo_len, firstF_len, ptF_len, setF_len]; omega)) (fun W21 hG22 hm23 => ?_))
      replace hB := below_grown hB hG22 (Nat.le_refl _) (fun j hj => (OwT.lt ho j hj))
      clear hG22 ho
      have ho := hm23
      clear hm23
      first | rw [setF_put (both_f1 (by omega) hs5_6)] at ho | rw [setF_put (both_f2 (by omega) hs5_6)] at ho
      refine WL_nil ?_
      refine hK20 _ _ ?_
      clear hK20 K19
      refine WC_region ?_
      refine WL_val (dd := some 10) rfl rfl rfl (r_move (v := .int .i64 _) rfl) ?_
      refine WL_val (dd := some 11) rfl rfl rfl (r_addI rfl rfl (by omega) (by omega)) ?_
      refine WL_val (dd := some 6) rfl rfl rfl (r_assign (v := .int .i64 _) rfl) ?_
      refine WL_nil ?_
      refine hJ14 _ _ (k + 1) ?_ ?_ ?_ ?_
      · repeat (first | exact agree.mask _ _ _ | refine agree.updo ?_ rfl _ | refine agree.updL ?_ _ rfl | refine agree.maskS rfl ?_)
      · exact ⟨rfl, trivial⟩
      · exact ⟨hB, (by exact ho), (by omega), trivial⟩
      · first | omega | (dsimp only; omega)
    ·
      try with_reducible replace hs5_6 := of_decide_eq_false hs5_6
      refine WL_skip (dd := some 19) rfl rfl rfl ?_
      refine WL_skip (dd := some 20) rfl rfl rfl ?_
      refine WL_skip (dd := some 21) rfl rfl rfl ?_
      refine WL_skip (dd := some 22) rfl rfl rfl ?_
      refine WL_val (dd := some 23) rfl rfl rfl (r_pick_f rfl (v := .bool false) rfl) ?_
      refine WL_val (dd := some 24) rfl rfl rfl (r_idxS (v := v1_0) rfl ho.sl rfl tb_el43 (by omega) (by first | omega | (simp only [flagsTo_len, litsTo_len, firstF_len, ptF_len, setF_len]; omega))) ?_
      refine WL_step (dd := none) rfl rfl rfl (Y_storeE (v := v1_0) (u := .bool false) (a := _) (j := _) rfl rfl (.inl ⟨tb_sc4, rfl⟩) encB_len rfl rfl ho (by omega) (by first | omega | (simp only [flagsTo_len, litsTo_len, firstF_len, ptF_len, setF_len]; omega)) (fun W24 hG25 hm26 => ?_))
      replace hB := below_grown hB hG25 (Nat.le_refl _) (fun j hj => (OwT.lt ho j hj))
      clear hG25 ho
      have ho := hm26
      clear hm26
      first | rw [setF_put (both_f1 (by omega) hs5_6)] at ho | rw [setF_put (both_f2 (by omega) hs5_6)] at ho
      refine WL_nil ?_
      refine hK20 _ _ ?_
      clear hK20 K19
      refine WC_region ?_
      refine WL_val (dd := some 10) rfl rfl rfl (r_move (v := .int .i64 _) rfl) ?_
      refine WL_val (dd := some 11) rfl rfl rfl (r_addI rfl rfl (by omega) (by omega)) ?_
      refine WL_val (dd := some 6) rfl rfl rfl (r_assign (v := .int .i64 _) rfl) ?_
      refine WL_nil ?_
      refine hJ14 _ _ (k + 1) ?_ ?_ ?_ ?_
      · repeat (first | exact agree.mask _ _ _ | refine agree.updo ?_ rfl _ | refine agree.updL ?_ _ rfl | refine agree.maskS rfl ?_)
      · exact ⟨rfl, trivial⟩
      · exact ⟨hB, (by exact ho), (by omega), trivial⟩
      · first | omega | (dsimp only; omega)
  ·
    try with_reducible replace hc0 := of_decide_eq_false hc0
    refine WC_exit ?_
    refine hK8 _ _ ?_
    clear hK16 K15
    clear hJ14 J13
    clear hK8 K7
    refine WC_seq (fun K27 hK28 => ?_)
    refine WC_region ?_
    refine WL_val (dd := some 25) rfl rfl rfl (r_move (v := v1_0) rfl) ?_
    refine WL_val (dd := some 4) rfl rfl rfl (r_assign (v := v1_0) rfl) ?_
    refine WL_nil ?_
    refine hK28 _ _ ?_
    clear hK28 K27
    refine WC_ret ?_
    repeat (first | refine thenQ_ret ?_ | refine blockQ_ret ?_)
    refine ret_t (v := v1_0) rfl ?_
    refine ⟨hB, ?_⟩
    obtain rfl : k = 256 := by omega
    rw [setF_all (fun p _ => rfl)] at ho
    exact ho

theorem C_drawkniferef12_all (n : Int) (w : World) (h0 : 0 ≤ n) (h1 : n ≤ 8) :
    Fn Try.prog 100 #[.int .i64 n] w fun v w' => OwT encB 1 4 w' w.heap.size v (flagsS (allS n.toNat)) := by
  refine Fn_intro (n := 5) Try.func100 rfl rfl (Nat.le_of_ble_eq_true rfl) ?_
  have hB : Below w.heap.size w w := Below.refl _ _
  refine WC_seq (fun K1 hK2 => ?_)
  refine WC_region ?_
  refine WL_val (dd := some 2) rfl rfl rfl (r_assign (v := .slice none 0 0) rfl) ?_
  refine WL_nil ?_
  refine hK2 _ _ ?_
  clear hK2 K1
  refine WC_seq (fun K3 hK4 => ?_)
  refine WC_region ?_
  refine WL_val (dd := some 3) rfl rfl rfl (r_move (v := .int .i64 _) rfl) ?_
  refine WL_call (dd := some 4) rfl rfl rfl (r_call1 tb_c78 (v0 := .int .i64 _) rfl) (C_drawkniferef01_All _ _ (by first | assumption | omega) (by first | assumption | omega)) (fun v1_1 W5 hE6 hP1_1 => ?_)
  have hsz7 := (Below.size hB)
  replace hB := below_ext hB hE6 (Nat.le_refl _)
  clear hE6
  replace hP1_1 := OwT.mono hP1_1 hsz7
  clear hsz7
  refine WL_val (dd := some 2) rfl rfl rfl (r_assign (v := v1_1) rfl) ?_
  refine WL_nil ?_
  refine hK4 _ _ ?_
  clear hK4 K3
  refine WC_ret ?_
  repeat (first | refine thenQ_ret ?_ | refine blockQ_ret ?_)
  refine ret_t (v := v1_1) rfl ?_
  refine ⟨hB, ?_⟩
  rw [← firstF_flags]
  exact hP1_1

theorem C_drawkniferef12_empty (xa : Value) (s : Nat) (w : World) (ha : SlT encB 1 w xa (flagsS s)) :
    Fn Try.prog 98 #[xa] w fun v w' => v = .bool (eqS s 0) := by
  refine Fn_intro (n := 12) Try.func98 rfl rfl (Nat.le_of_ble_eq_true rfl) ?_
  have hB : Below w.heap.size w w := Below.refl _ _
  refine WC_seq (fun K1 hK2 => ?_)
  refine WC_region ?_
  refine WL_val (dd := some 2) rfl rfl rfl (r_assign (v := .bool false) rfl) ?_
  refine WL_nil ?_
  refine hK2 _ _ ?_
  clear hK2 K1
  refine WC_seq (fun K3 hK4 => ?_)
  refine WC_seq (fun K5 hK6 => ?_)
  refine WC_region ?_
  refine WL_val (dd := some 3) rfl rfl rfl (r_assign (v := .int .i64 0) rfl) ?_
  refine WL_nil ?_
  refine hK6 _ _ ?_
  clear hK6 K5
  refine WC_block ?_
  refine WC_loop (σ := (Nat)) [2, 3, 4, 5, 6, 7, 8, 9, 10, 11] (fun k => [(3, .int .i64 (k : Int))]) (fun k W => (Below w.heap.size w W) ∧ (k ≤ 256) ∧ (∀ p, p < k → s.testBit p = false) ∧ (True)) (fun k => 256 - k) (0) ⟨rfl, trivial⟩ ⟨hB, (by omega), upTo_zero, trivial⟩ ?_
  clear hB
  rintro k g8 W7 ⟨hB, hk, hq, _⟩ J9 hJ10
  refine WC_seq (fun K11 hK12 => ?_)
  refine WC_seq (fun K13 hK14 => ?_)
  refine WC_region ?_
  refine WL_val (dd := some 4) rfl rfl rfl (r_move (v := .int .i64 _) rfl) ?_
  refine WL_val (dd := some 5) rfl rfl rfl (r_lss rfl rfl) ?_
  refine WL_nil ?_
  refine hK14 _ _ ?_
  clear hK14 K13
  refine WC_cond (b := _) rfl (fun hc0 => ?_) (fun hc0 => ?_)
  ·
    try with_reducible replace hc0 := of_decide_eq_true hc0
    refine WC_skip ?_
    refine hK12 _ _ ?_
    clear hK12 K11
    refine WC_seq (fun K15 hK16 => ?_)
    refine WC_block ?_
    refine WC_seq (fun K17 hK18 => ?_)
    refine WC_region ?_
    refine WL_val (dd := some 8) rfl rfl rfl (r_move (v := xa) rfl) ?_
    refine WL_val (dd := some 9) rfl rfl rfl (r_move (v := .int .i64 _) rfl) ?_
    refine WL_val (dd := some 10) rfl rfl rfl (r_idxS (v := xa) rfl (Below.slT hB ha) rfl tb_el43 (by omega) (by first | omega | (simp only [flagsTo_len, litsTo_len, firstF_len, ptF_len, setF_len]; omega))) ?_
    refine WL_val (dd := some 11) rfl rfl rfl (r_load1 (v := .bool _) rfl tb_sc4 (SlT.cell (Below.slT hB ha) encB_len false (by omega) (by first | omega | (simp only [flagsTo_len, litsTo_len, firstF_len, ptF_len, setF_len]; omega)) 0 rfl)) ?_
    refine WL_nil ?_
    refine hK18 _ _ ?_
    clear hK18 K17
    refine WC_cond (b := _) rfl (fun hc1 => ?_) (fun hc1 => ?_)
    ·
      try with_reducible replace hc1 := of_decide_eq_true hc1
      refine WC_seq (fun K19 hK20 => ?_)
      refine WC_region ?_
      refine WL_val (dd := some 2) rfl rfl rfl (r_assign (v := .bool false) rfl) ?_
      refine WL_nil ?_
      refine hK20 _ _ ?_
      clear hK20 K19
      refine WC_ret ?_
      repeat (first | refine thenQ_ret ?_ | refine blockQ_ret ?_)
      try clear hK16 K15
      try clear hJ10 J9
      try clear hK4 K3
      refine ret_t (v := .bool false) rfl ?_
      refine ⟨hB, ?_⟩
      exact congrArg Value.bool (empty_f (by omega) hc1)
    ·
      try with_reducible replace hc1 := of_decide_eq_false hc1
      refine WC_skip ?_
      refine hK16 _ _ ?_
      clear hK16 K15
      refine WC_region ?_
      refine WL_val (dd := some 6) rfl rfl rfl (r_move (v := .int .i64 _) rfl) ?_
      refine WL_val (dd := some 7) rfl rfl rfl (r_addI rfl rfl (by omega) (by omega)) ?_
      refine WL_val (dd := some 3) rfl rfl rfl (r_assign (v := .int .i64 _) rfl) ?_
      refine WL_nil ?_
      refine hJ10 _ _ (k + 1) ?_ ?_ ?_ ?_
      · repeat (first | exact agree.mask _ _ _ | refine agree.updo ?_ rfl _ | refine agree.updL ?_ _ rfl | refine agree.maskS rfl ?_)
      · exact ⟨rfl, trivial⟩
      · exact ⟨hB, (by omega), (empty_step (by omega) hq hc1), trivial⟩
      · first | omega | (dsimp only; omega)
  ·
    try with_reducible replace hc0 := of_decide_eq_false hc0
    refine WC_exit ?_
    refine hK4 _ _ ?_
    clear hK12 K11
    clear hJ10 J9
    clear hK4 K3
    refine WC_seq (fun K21 hK22 => ?_)
    refine WC_region ?_
    refine WL_val (dd := some 2) rfl rfl rfl (r_assign (v := .bool true) rfl) ?_
    refine WL_nil ?_
    refine hK22 _ _ ?_
    clear hK22 K21
    refine WC_ret ?_
    repeat (first | refine thenQ_ret ?_ | refine blockQ_ret ?_)
    refine ret_t (v := .bool true) rfl ?_
    refine ⟨hB, ?_⟩
    exact congrArg Value.bool (empty_t (by omega) hq)

theorem C_drawkniferef12_either (xa xb : Value) (s t : Nat) (w : World) (ha : SlT encB 1 w xa (flagsS s)) (hb : SlT encB 1 w xb (flagsS t)) :
    Fn Try.prog 101 #[xa, xb] w fun v w' => OwT encB 1 4 w' w.heap.size v (flagsS (s ||| t)) := by
  refine Fn_intro (n := 14) Try.func101 rfl rfl (Nat.le_of_ble_eq_true rfl) ?_
  have hB : Below w.heap.size w w := Below.refl _ _
  refine WC_seq (fun K1 hK2 => ?_)
  refine WC_region ?_
  refine WL_val (dd := some 4) rfl rfl rfl (r_assign (v := .slice none 0 0) rfl) ?_
  refine WL_nil ?_
  refine hK2 _ _ ?_
  clear hK2 K1
  refine WC_seq (fun K3 hK4 => ?_)
  refine WC_region ?_
  refine WL_call (dd := some 5) rfl rfl rfl (r_call1 tb_c100 (v0 := .int .i64 8) rfl) (C_drawkniferef12_all _ _ (by first | assumption | omega) (by first | assumption | omega)) (fun v1_0 W5 hE6 hP1_0 => ?_)
  have hsz7 := (Below.size hB)
  replace hB := below_ext hB hE6 (Nat.le_refl _)
  clear hE6
  replace hP1_0 := OwT.mono hP1_0 hsz7
  clear hsz7
  refine WL_call (dd := some 6) rfl rfl rfl (r_call1 tb_c100 (v0 := .int .i64 8) rfl) (C_drawkniferef12_all _ _ (by first | assumption | omega) (by first | assumption | omega)) (fun v1_1 W8 hE9 hP1_1 => ?_)
  have hlt10 := OwT.lt2 hP1_0
  have hsz11 := (Below.size hB)
  replace hB := below_ext hB hE9 (Nat.le_refl _)
  replace hP1_0 := hE9.ow hP1_0
  clear hE9
  have hap12 := Apart.new hlt10 hP1_1
  replace hP1_1 := OwT.mono hP1_1 hsz11
  clear hsz11
  refine WL_val (dd := some 7) rfl rfl rfl (r_move (v := xa) rfl) ?_
  refine WL_call (dd := some 8) rfl rfl rfl (r_call2 tb_c99 (v0 := v1_1) rfl (v1 := xa) rfl) (C_drawkniferef12_less _ _ _ _ _ hP1_1.sl (Below.slT hB ha)) (fun v1_3 W13 hE14 hP1_3 => ?_)
  have hlt15 := OwT.lt2 hP1_0
  have hlt16 := OwT.lt2 hP1_1
  have hsz17 := (Below.size hB)
  replace hB := below_ext hB hE14 (Nat.le_refl _)
  replace hP1_0 := hE14.ow hP1_0
  replace hP1_1 := hE14.ow hP1_1
  clear hE14
  have hap18 := Apart.new hlt15 hP1_3
  have hap19 := Apart.new hlt16 hP1_3
  replace hP1_3 := OwT.mono hP1_3 hsz17
  clear hsz17
  refine WL_call (dd := some 9) rfl rfl rfl (r_call1 tb_c100 (v0 := .int .i64 8) rfl) (C_drawkniferef12_all _ _ (by first | assumption | omega) (by first | assumption | omega)) (fun v1_4 W20 hE21 hP1_4 => ?_)
  have hlt22 := OwT.lt2 hP1_0
  have hlt23 := OwT.lt2 hP1_1
  have hlt24 := OwT.lt2 hP1_3
  have hsz25 := (Below.size hB)
  replace hB := below_ext hB hE21 (Nat.le_refl _)
  replace hP1_0 := hE21.ow hP1_0
  replace hP1_1 := hE21.ow hP1_1
  replace hP1_3 := hE21.ow hP1_3
  clear hE21
  have hap26 := Apart.new hlt22 hP1_4
  have hap27 := Apart.new hlt23 hP1_4
  have hap28 := Apart.new hlt24 hP1_4
  replace hP1_4 := OwT.mono hP1_4 hsz25
  clear hsz25
  refine WL_val (dd := some 10) rfl rfl rfl (r_move (v := xb) rfl) ?_
  refine WL_call (dd := some 11) rfl rfl rfl (r_call2 tb_c99 (v0 := v1_4) rfl (v1 := xb) rfl) (C_drawkniferef12_less _ _ _ _ _ hP1_4.sl (Below.slT hB hb)) (fun v1_6 W29 hE30 hP1_6 => ?_)
  have hlt31 := OwT.lt2 hP1_0
  have hlt32 := OwT.lt2 hP1_1
  have hlt33 := OwT.lt2 hP1_3
  have hlt34 := OwT.lt2 hP1_4
  have hsz35 := (Below.size hB)
  replace hB := below_ext hB hE30 (Nat.le_refl _)
  replace hP1_0 := hE30.ow hP1_0
  replace hP1_1 := hE30.ow hP1_1
  replace hP1_3 := hE30.ow hP1_3
  replace hP1_4 := hE30.ow hP1_4
  clear hE30
  have hap36 := Apart.new hlt31 hP1_6
  have hap37 := Apart.new hlt32 hP1_6
  have hap38 := Apart.new hlt33 hP1_6
  have hap39 := Apart.new hlt34 hP1_6
  replace hP1_6 := OwT.mono hP1_6 hsz35
  clear hsz35
  refine WL_call (dd := some 12) rfl rfl rfl (r_call2 tb_c103 (v0 := v1_3) rfl (v1 := v1_6) rfl) (C_drawkniferef12_both _ _ _ _ _ hP1_3.sl hP1_6.sl) (fun v1_7 W40 hE41 hP1_7 => ?_)
  have hlt42 := OwT.lt2 hP1_0
  have hlt43 := OwT.lt2 hP1_1
  have hlt44 := OwT.lt2 hP1_3
  have hlt45 := OwT.lt2 hP1_4
  have hlt46 := OwT.lt2 hP1_6
  have hsz47 := (Below.size hB)
  replace hB := below_ext hB hE41 (Nat.le_refl _)
  replace hP1_0 := hE41.ow hP1_0
  replace hP1_1 := hE41.ow hP1_1
  replace hP1_3 := hE41.ow hP1_3
  replace hP1_4 := hE41.ow hP1_4
  replace hP1_6 := hE41.ow hP1_6
  clear hE41
  have hap48 := Apart.new hlt42 hP1_7
  have hap49 := Apart.new hlt43 hP1_7
  have hap50 := Apart.new hlt44 hP1_7
  have hap51 := Apart.new hlt45 hP1_7
  have hap52 := Apart.new hlt46 hP1_7
  replace hP1_7 := OwT.mono hP1_7 hsz47
  clear hsz47
  refine WL_call (dd := some 13) rfl rfl rfl (r_call2 tb_c99 (v0 := v1_0) rfl (v1 := v1_7) rfl) (C_drawkniferef12_less _ _ _ _ _ hP1_0.sl hP1_7.sl) (fun v1_8 W53 hE54 hP1_8 => ?_)
  have hlt55 := OwT.lt2 hP1_0
  have hlt56 := OwT.lt2 hP1_1
  have hlt57 := OwT.lt2 hP1_3
  have hlt58 := OwT.lt2 hP1_4
  have hlt59 := OwT.lt2 hP1_6
  have hlt60 := OwT.lt2 hP1_7
  have hsz61 := (Below.size hB)
  replace hB := below_ext hB hE54 (Nat.le_refl _)
  replace hP1_0 := hE54.ow hP1_0
  replace hP1_1 := hE54.ow hP1_1
  replace hP1_3 := hE54.ow hP1_3
  replace hP1_4 := hE54.ow hP1_4
  replace hP1_6 := hE54.ow hP1_6
  replace hP1_7 := hE54.ow hP1_7
  clear hE54
  have hap62 := Apart.new hlt55 hP1_8
  have hap63 := Apart.new hlt56 hP1_8
  have hap64 := Apart.new hlt57 hP1_8
  have hap65 := Apart.new hlt58 hP1_8
  have hap66 := Apart.new hlt59 hP1_8
  have hap67 := Apart.new hlt60 hP1_8
  replace hP1_8 := OwT.mono hP1_8 hsz61
  clear hsz61
  refine WL_val (dd := some 4) rfl rfl rfl (r_assign (v := v1_8) rfl) ?_
  refine WL_nil ?_
  refine hK4 _ _ ?_
  clear hK4 K3
  refine WC_ret ?_
  repeat (first | refine thenQ_ret ?_ | refine blockQ_ret ?_)
  refine ret_t (v := v1_8) rfl ?_
  refine ⟨hB, ?_⟩
  rw [← either_flags]
  exact hP1_8

theorem C_drawkniferef12_held (xa : Value) (l : List Cb) (n : Nat) (w : World) (hl : SlT encC 2 w xa l) (h8 : n ≤ 8) (hr : ∀ c, c ∈ l → c.m < 2 ^ n ∧ c.v &&& c.m = c.v) (hlb : l.length ≤ 100000) :
    Fn Try.prog 102 #[xa, .int .i64 (n : Int)] w fun v w' => OwT encB 1 4 w' w.heap.size v (flagsS (ptsU l n l.length)) := by
  refine Fn_intro (n := 24) Try.func102 rfl rfl (Nat.le_of_ble_eq_true rfl) ?_
  have hB : Below w.heap.size w w := Below.refl _ _
  refine WC_seq (fun K1 hK2 => ?_)
  refine WC_region ?_
  refine WL_val (dd := some 4) rfl rfl rfl (r_assign (v := .slice none 0 0) rfl) ?_
  refine WL_nil ?_
  refine hK2 _ _ ?_
  clear hK2 K1
  refine WC_seq (fun K3 hK4 => ?_)
  refine WC_region ?_
  refine WL_step (dd := some 7) rfl rfl rfl (Y_make (n := 256) (N := w.heap.size) rfl rfl tb_el43 tb_z4 (by decide) (by decide) (Below.size hB) (fun v1_0 W5 hE6 ho1_0 => ?_))
  replace ho1_0 := OwT.made encB_len false rfl (by decide) ho1_0
  replace hB := below_ext hB hE6 (Nat.le_refl _)
  clear hE6
  rw [flags_zero (l := l) (n := n)] at ho1_0
  refine WL_val (dd := some 5) rfl rfl rfl (r_assign (v := v1_0) rfl) ?_
  refine WL_nil ?_
  refine hK4 _ _ ?_
  clear hK4 K3
  refine WC_seq (fun K7 hK8 => ?_)
  refine WC_seq (fun K9 hK10 => ?_)
  refine WC_region ?_
  refine WL_val (dd := some 6) rfl rfl rfl (r_assign (v := .int .i64 0) rfl) ?_
  refine WL_nil ?_
  refine hK10 _ _ ?_
  clear hK10 K9
  refine WC_block ?_
  refine WC_loop (σ := (Nat) × (Value)) [5, 6, 8, 9, 10, 11, 12, 13, 14, 15, 16, 17, 18, 19, 20, 21, 22] (fun (k, v0) => [(6, .int .i64 (k : Int)), (5, v0)]) (fun sg W => match sg with | (k, v0) => (Below w.heap.size w W) ∧ (OwT encB 1 4 W w.heap.size v0 (flagsS (ptsU l n k))) ∧ (k ≤ l.length) ∧ (True)) (fun (k, v0) => l.length - k) ((0, v1_0)) ⟨rfl, rfl, trivial⟩ ⟨hB, ho1_0, (Nat.zero_le _), trivial⟩ ?_
  clear hB ho1_0
  rintro ⟨k, v0⟩ g12 W11 ⟨hB, ho, hk, _⟩ J13 hJ14
  refine WC_seq (fun K15 hK16 => ?_)
  refine WC_seq (fun K17 hK18 => ?_)
  refine WC_region ?_
  refine WL_val (dd := some 8) rfl rfl rfl (r_move (v := .int .i64 _) rfl) ?_
  refine WL_val (dd := some 9) rfl rfl rfl (r_move (v := xa) rfl) ?_
  refine WL_val (dd := some 10) rfl rfl rfl (r_lenS (v := xa) rfl (Below.slT hB hl) tb_el27) ?_
  refine WL_val (dd := some 11) rfl rfl rfl (r_lss rfl rfl) ?_
  refine WL_nil ?_
  refine hK18 _ _ ?_
  clear hK18 K17
  refine WC_cond (b := _) rfl (fun hc0 => ?_) (fun hc0 => ?_)
  ·
    try with_reducible replace hc0 := of_decide_eq_true hc0
    refine WC_skip ?_
    refine hK16 _ _ ?_
    clear hK16 K15
    refine WC_seq (fun K19 hK20 => ?_)
    refine WC_block ?_
    obtain ⟨hr1, hr2⟩ := hr (l.getD k ⟨0, 0⟩) (getD_mem (by omega))
    have hle256 := pow_le256 h8
    have hr3 : (l.getD k ⟨0, 0⟩).v ≤ (l.getD k ⟨0, 0⟩).m := by rw [← hr2]; exact Nat.and_le_right
    refine WC_region ?_
    refine WL_val (dd := some 14) rfl rfl rfl (r_move (v := v0) rfl) ?_
    refine WL_val (dd := some 15) rfl rfl rfl (r_move (v := xa) rfl) ?_
    refine WL_val (dd := some 16) rfl rfl rfl (r_move (v := .int .i64 _) rfl) ?_
    refine WL_val (dd := some 17) rfl rfl rfl (r_idxS (v := xa) rfl (Below.slT hB hl) rfl tb_el27 (by omega) (by first | omega | (simp only [flagsTo_len, litsTo_len, firstF_len, ptF_len, setF_len]; omega))) ?_
    refine WL_val (dd := some 18) rfl rfl rfl (r_load2 rfl tb_ag34 (SlT.cell (Below.slT hB hl) encC_len ⟨0, 0⟩ (by omega) (by first | omega | (simp only [flagsTo_len, litsTo_len, firstF_len, ptF_len, setF_len]; omega)) 0 rfl) (SlT.cell (Below.slT hB hl) encC_len ⟨0, 0⟩ (by omega) (by first | omega | (simp only [flagsTo_len, litsTo_len, firstF_len, ptF_len, setF_len]; omega)) 1 rfl)) ?_
    refine WL_val (dd := some 19) rfl rfl rfl (r_move (v := .int .i64 _) rfl) ?_
    refine WL_call (dd := some 20) rfl rfl rfl (r_call2 tb_c93 (v0 := .agg #[_, _]) rfl (v1 := .int .i64 _) rfl) (C_drawkniferef02_Points _ _ (n : Int) _ (by show (l.getD k ⟨0, 0⟩).m < 256; omega) (by show (l.getD k ⟨0, 0⟩).v < 256; omega) (by omega) (by omega)) (fun v5_6 W21 hE22 hP5_6 => ?_)
    have hsz23 := (Below.size hB)
    replace hB := below_ext hB hE22 (Nat.le_refl _)
    replace ho := hE22.ow ho
    clear hE22
    clear hsz23
    obtain rfl := hP5_6
    refine WL_call (dd := some 21) rfl rfl rfl (r_call1 tb_c37 (v0 := .agg #[_, _, _, _]) rfl) (C_drawkniferef01_Flags _ _) (fun v5_7 W24 hE25 hP5_7 => ?_)
    have hlt26 := OwT.lt2 ho
    have hsz27 := (Below.size hB)
    replace hB := below_ext hB hE25 (Nat.le_refl _)
    replace ho := hE25.ow ho
    clear hE25
    have hap28 := Apart.new hlt26 hP5_7
    replace hP5_7 := OwT.mono hP5_7 hsz27
    clear hsz27
    refine WL_call (dd := some 22) rfl rfl rfl (r_call2 tb_c101 (v0 := v0) rfl (v1 := v5_7) rfl) (C_drawkniferef12_either _ _ _ _ _ ho.sl hP5_7.sl) (fun v5_8 W29 hE30 hP5_8 => ?_)
    have hlt31 := OwT.lt2 ho
    have hlt32 := OwT.lt2 hP5_7
    have hsz33 := (Below.size hB)
    replace hB := below_ext hB hE30 (Nat.le_refl _)
    replace ho := hE30.ow ho
    replace hP5_7 := hE30.ow hP5_7
    clear hE30
    have hap34 := Apart.new hlt31 hP5_8
    have hap35 := Apart.new hlt32 hP5_8
    replace hP5_8 := OwT.mono hP5_8 hsz33
    clear hsz33
    refine WL_val (dd := some 5) rfl rfl rfl (r_assign (v := v5_8) rfl) ?_
    refine WL_nil ?_
    refine hK20 _ _ ?_
    clear hK20 K19
    refine WC_region ?_
    refine WL_val (dd := some 12) rfl rfl rfl (r_move (v := .int .i64 _) rfl) ?_
    refine WL_val (dd := some 13) rfl rfl rfl (r_addI rfl rfl (by omega) (by omega)) ?_
    refine WL_val (dd := some 6) rfl rfl rfl (r_assign (v := .int .i64 _) rfl) ?_
    refine WL_nil ?_
    refine hJ14 _ _ ((k + 1, v5_8)) ?_ ?_ ?_ ?_
    · repeat (first | exact agree.mask _ _ _ | refine agree.updo ?_ rfl _ | refine agree.updL ?_ _ rfl | refine agree.maskS rfl ?_)
    · exact ⟨rfl, rfl, trivial⟩
    · exact ⟨hB, (by have hr4 : (l.getD ((k : Nat) : Int).toNat ⟨0, 0⟩).v &&& (l.getD ((k : Nat) : Int).toNat ⟨0, 0⟩).m = (l.getD ((k : Nat) : Int).toNat ⟨0, 0⟩).v := hr2; rw [hr4] at hP5_8; exact hP5_8), (by omega), trivial⟩
    · show l.length - (k + 1) < l.length - k; omega
  ·
    try with_reducible replace hc0 := of_decide_eq_false hc0
    refine WC_exit ?_
    refine hK8 _ _ ?_
    clear hK16 K15
    clear hJ14 J13
    clear hK8 K7
    refine WC_seq (fun K36 hK37 => ?_)
    refine WC_region ?_
    refine WL_val (dd := some 23) rfl rfl rfl (r_move (v := v0) rfl) ?_
    refine WL_val (dd := some 4) rfl rfl rfl (r_assign (v := v0) rfl) ?_
    refine WL_nil ?_
    refine hK37 _ _ ?_
    clear hK37 K36
    refine WC_ret ?_
    repeat (first | refine thenQ_ret ?_ | refine blockQ_ret ?_)
    refine ret_t (v := v0) rfl ?_
    refine ⟨hB, ?_⟩
    obtain rfl : k = l.length := by omega
    exact ho

theorem C_drawkniferef12_with (xa : Value) (l : List Cb) (i q : Nat) (w : World) (hl : SlT encC 2 w xa l) (hi : i < 8) (hq : q ≤ 1) (hr : ∀ c, c ∈ l → c.m < 256 ∧ c.v &&& c.m = c.v ∧ c.m.testBit i = false) (hlb : l.length ≤ 100000) :
    Fn Try.prog 104 #[xa, .int .i64 (i : Int), .int .i64 (q : Int)] w fun v w' => OwT encC 2 34 w' w.heap.size v (l.map (litC i q)) := by
  refine Fn_intro (n := 31) Try.func104 rfl rfl (Nat.le_of_ble_eq_true rfl) ?_
  have hB : Below w.heap.size w w := Below.refl _ _
  refine WC_seq (fun K1 hK2 => ?_)
  refine WC_region ?_
  refine WL_val (dd := some 6) rfl rfl rfl (r_assign (v := .slice none 0 0) rfl) ?_
  refine WL_nil ?_
  refine hK2 _ _ ?_
  clear hK2 K1
  refine WC_seq (fun K3 hK4 => ?_)
  refine WC_region ?_
  refine WL_val (dd := some 7) rfl rfl rfl (r_assign (v := .slice none 0 0) rfl) ?_
  refine WL_nil ?_
  refine hK4 _ _ ?_
  clear hK4 K3
  refine WC_seq (fun K5 hK6 => ?_)
  refine WC_seq (fun K7 hK8 => ?_)
  refine WC_region ?_
  refine WL_val (dd := some 8) rfl rfl rfl (r_assign (v := .int .i64 0) rfl) ?_
  refine WL_nil ?_
  refine hK8 _ _ ?_
  clear hK8 K7
  refine WC_block ?_
  refine WC_loop (σ := (Nat) × (Value)) [7, 8, 9, 10, 11, 12, 13, 14, 15, 16, 17, 18, 19, 20, 21, 22, 23, 24, 25, 26, 27, 28, 29] (fun (k, v0) => [(8, .int .i64 (k : Int)), (7, v0)]) (fun sg W => match sg with | (k, v0) => (Below w.heap.size w W) ∧ (OwT encC 2 34 W w.heap.size v0 ((l.take k).map (litC i q))) ∧ (k ≤ l.length) ∧ (True)) (fun (k, v0) => l.length - k) ((0, .slice none 0 0)) ⟨rfl, rfl, trivial⟩ ⟨hB, OwT.nil, (Nat.zero_le _), trivial⟩ ?_
  clear hB
  rintro ⟨k, v0⟩ g10 W9 ⟨hB, ho, hk, _⟩ J11 hJ12
  refine WC_seq (fun K13 hK14 => ?_)
  refine WC_seq (fun K15 hK16 => ?_)
  refine WC_region ?_
  refine WL_val (dd := some 10) rfl rfl rfl (r_move (v := .int .i64 _) rfl) ?_
  refine WL_val (dd := some 11) rfl rfl rfl (r_move (v := xa) rfl) ?_
  refine WL_val (dd := some 12) rfl rfl rfl (r_lenS (v := xa) rfl (Below.slT hB hl) tb_el27) ?_
  refine WL_val (dd := some 13) rfl rfl rfl (r_lss rfl rfl) ?_
  refine WL_nil ?_
  refine hK16 _ _ ?_
  clear hK16 K15
  refine WC_cond (b := _) rfl (fun hc0 => ?_) (fun hc0 => ?_)
  ·
    try with_reducible replace hc0 := of_decide_eq_true hc0
    refine WC_skip ?_
    refine hK14 _ _ ?_
    clear hK14 K13
    refine WC_seq (fun K17 hK18 => ?_)
    refine WC_block ?_
    refine WC_seq (fun K19 hK20 => ?_)
    obtain ⟨hr1, hr2, hr3⟩ := hr (l.getD k ⟨0, 0⟩) (getD_mem (by omega))
    have hr4 : (l.getD k ⟨0, 0⟩).v ≤ (l.getD k ⟨0, 0⟩).m := by rw [← hr2]; exact Nat.and_le_right
    obtain ⟨hw1, hw2⟩ := with_cube hi hq hr1 hr2 hr3
    have hw3 := with_lits hi hq hr2 hr3
    refine WC_region ?_
    refine WL_val (dd := some 16) rfl rfl rfl (r_move (v := xa) rfl) ?_
    refine WL_val (dd := some 17) rfl rfl rfl (r_move (v := .int .i64 _) rfl) ?_
    refine WL_val (dd := some 18) rfl rfl rfl (r_idxS (v := xa) rfl (Below.slT hB hl) rfl tb_el27 (by omega) (by first | omega | (simp only [flagsTo_len, litsTo_len, firstF_len, ptF_len, setF_len]; omega))) ?_
    refine WL_val (dd := some 19) rfl rfl rfl (r_load2 rfl tb_ag34 (SlT.cell (Below.slT hB hl) encC_len ⟨0, 0⟩ (by omega) (by first | omega | (simp only [flagsTo_len, litsTo_len, firstF_len, ptF_len, setF_len]; omega)) 0 rfl) (SlT.cell (Below.slT hB hl) encC_len ⟨0, 0⟩ (by omega) (by first | omega | (simp only [flagsTo_len, litsTo_len, firstF_len, ptF_len, setF_len]; omega)) 1 rfl)) ?_
    refine WL_call (dd := some 20) rfl rfl rfl (r_call1 tb_c86 (v0 := .agg #[_, _]) rfl) (C_drawkniferef02_Literals (l.getD k ⟨0, 0⟩).m (l.getD k ⟨0, 0⟩).v _ (by omega) (by omega)) (fun v5_4 W21 hE22 hP5_4 => ?_)
    have hsz23 := (Below.size hB)
    replace hB := below_ext hB hE22 (Nat.le_refl _)
    replace ho := hE22.ow ho
    clear hE22
    replace hP5_4 := OwT.mono hP5_4 hsz23
    clear hsz23
    refine WL_val (dd := some 9) rfl rfl rfl (r_assign (v := v5_4) rfl) ?_
    refine WL_nil ?_
    refine hK20 _ _ ?_
    clear hK20 K19
    refine WC_seq (fun K24 hK25 => ?_)
    refine WC_region ?_
    refine WL_val (dd := some 21) rfl rfl rfl (r_move (v := v5_4) rfl) ?_
    refine WL_val (dd := some 22) rfl rfl rfl (r_move (v := .int .i64 _) rfl) ?_
    refine WL_val (dd := some 23) rfl rfl rfl (r_move (v := .int .i64 _) rfl) ?_
    refine WL_val (dd := some 24) rfl rfl rfl (r_idxS (v := v5_4) rfl hP5_4.sl rfl tb_el57 (by omega) (by first | omega | (simp only [flagsTo_len, litsTo_len, firstF_len, ptF_len, setF_len]; omega))) ?_
    refine WL_step (dd := none) rfl rfl rfl (Y_storeE (v := v5_4) (u := .int .i64 _) (a := ((q : Nat) : Int)) (j := _) rfl rfl (.inl ⟨tb_sc3, rfl⟩) encI_len rfl rfl hP5_4 (by omega) (by first | omega | (simp only [flagsTo_len, litsTo_len, firstF_len, ptF_len, setF_len]; omega)) (fun W26 hG27 hm28 => ?_))
    replace hB := below_grown hB hG27 (Nat.le_refl _) (fun j hj => (OwT.lt hP5_4 j hj))
    replace ho := OwT.grownOw ho hP5_4 hG27 (by decide)
    clear hG27 hP5_4
    have hP5_4 := hm28
    clear hm28
    refine WL_nil ?_
    refine hK25 _ _ ?_
    clear hK25 K24
    refine WC_region ?_
    refine WL_val (dd := some 25) rfl rfl rfl (r_move (v := v0) rfl) ?_
    refine WL_val (dd := some 26) rfl rfl rfl (r_move (v := v5_4) rfl) ?_
    refine WL_call (dd := some 27) rfl rfl rfl (r_call1 tb_c127 (v0 := v5_4) rfl) (C_drawkniferef02_Cube _ _ _ hP5_4.sl hw3) (fun v7_2 W29 hE30 hP7_2 => ?_)
    have hsz31 := (Below.size hB)
    replace hB := below_ext hB hE30 (Nat.le_refl _)
    replace ho := hE30.ow ho
    replace hP5_4 := hE30.ow hP5_4
    clear hE30
    rw [hw1, hw2] at hP7_2
    obtain rfl := hP7_2
    clear hsz31
    refine WL_step (dd := some 28) rfl rfl rfl (Y_lit1 (u := .agg #[_, _]) rfl tb_el27 tb_zs34 rfl (by decide) (by decide) (fun b7_3 W32 hb33 hE34 hm7_3 => ?_))
    have lo_b7_3 : w.heap.size ≤ b7_3 := hb33 ▸ (Below.size hB)
    have no_v0_b7_3 := OwT.neB (b := b7_3) ho (Nat.le_of_eq hb33.symm)
    clear hb33
    replace hB := below_ext hB hE34 (Nat.le_refl _)
    replace ho := hE34.ow ho
    replace hP5_4 := hE34.ow hP5_4
    clear hE34
    refine WL_step (dd := some 29) rfl rfl rfl (Y_append (v := v0) (v2 := .slice (some ⟨b7_3, 0, none⟩) 1 1) rfl rfl tb_el27 tb_zs34 (by decide) ho (sl_lit1 hm7_3 rfl) rfl (by have := Below.size hB; omega) (by first | omega | (simp; omega) | (simp only [flagsTo_len, litsTo_len, firstF_len, ptF_len, setF_len]; omega)) (by first | omega | (simp; omega) | (simp only [flagsTo_len, litsTo_len, firstF_len, ptF_len, setF_len]; omega)) (fun v7_4 W35 hG36 ho7_4 => ?_))
    replace ho7_4 := OwT.snoc (enc := encC) (x := (litC i q (l.getD k ⟨0, 0⟩))) rfl rfl rfl rfl ho7_4
    clear hm7_3
    replace hB := below_grown hB hG36 (Nat.le_refl _) (fun j hj => (OwT.lt ho j hj))
    replace hP5_4 := OwT.grownOw hP5_4 ho hG36 (by decide)
    clear hG36
    clear ho
    refine WL_val (dd := some 7) rfl rfl rfl (r_assign (v := v7_4) rfl) ?_
    refine WL_nil ?_
    refine hK18 _ _ ?_
    clear hK18 K17
    refine WC_region ?_
    refine WL_val (dd := some 14) rfl rfl rfl (r_move (v := .int .i64 _) rfl) ?_
    refine WL_val (dd := some 15) rfl rfl rfl (r_addI rfl rfl (by omega) (by omega)) ?_
    refine WL_val (dd := some 8) rfl rfl rfl (r_assign (v := .int .i64 _) rfl) ?_
    refine WL_nil ?_
    refine hJ12 _ _ ((k + 1, v7_4)) ?_ ?_ ?_ ?_
    · repeat (first | exact agree.mask _ _ _ | refine agree.updo ?_ rfl _ | refine agree.updL ?_ _ rfl | refine agree.maskS rfl ?_)
    · exact ⟨rfl, rfl, trivial⟩
    · exact ⟨hB, (by rw [take_lit (by omega)]; exact ho7_4), (by omega), trivial⟩
    · show l.length - (k + 1) < l.length - k; omega
  ·
    try with_reducible replace hc0 := of_decide_eq_false hc0
    refine WC_exit ?_
    refine hK6 _ _ ?_
    clear hK14 K13
    clear hJ12 J11
    clear hK6 K5
    refine WC_seq (fun K38 hK39 => ?_)
    refine WC_region ?_
    refine WL_val (dd := some 30) rfl rfl rfl (r_move (v := v0) rfl) ?_
    refine WL_val (dd := some 6) rfl rfl rfl (r_assign (v := v0) rfl) ?_
    refine WL_nil ?_
    refine hK39 _ _ ?_
    clear hK39 K38
    refine WC_ret ?_
    repeat (first | refine thenQ_ret ?_ | refine blockQ_ret ?_)
    refine ret_t (v := v0) rfl ?_
    refine ⟨hB, ?_⟩
    obtain rfl : k = l.length := by omega
    rw [List.take_length] at ho
    exact ho

theorem C_drawkniferef12_Side (xa : Value) (s i : Nat) (one : Bool) (w : World) (ha : SlT encB 1 w xa (flagsS s)) (hi : i < 8) :
    Fn Try.prog 36 #[xa, .int .i64 (i : Int), .bool one] w fun v w' => OwT encB 1 4 w' w.heap.size v (flagsS (sideS s i one)) := by
  refine Fn_intro (n := 54) Try.func36 rfl rfl (Nat.le_of_ble_eq_true rfl) ?_
  have hB : Below w.heap.size w w := Below.refl _ _
  refine WC_seq (fun K1 hK2 => ?_)
  refine WC_region ?_
  refine WL_val (dd := some 6) rfl rfl rfl (r_assign (v := .slice none 0 0) rfl) ?_
  refine WL_nil ?_
  refine hK2 _ _ ?_
  clear hK2 K1
  refine WC_seq (fun K3 hK4 => ?_)
  refine WC_region ?_
  refine WL_val (dd := some 7) rfl rfl rfl (r_assign (v := .int .i64 1) rfl) ?_
  refine WL_nil ?_
  refine hK4 _ _ ?_
  clear hK4 K3
  refine WC_seq (fun K5 hK6 => ?_)
  refine WC_seq (fun K7 hK8 => ?_)
  refine WC_region ?_
  refine WL_val (dd := some 8) rfl rfl rfl (r_assign (v := .int .i64 0) rfl) ?_
  refine WL_nil ?_
  refine hK8 _ _ ?_
  clear hK8 K7
  refine WC_block ?_
  refine WC_loop (σ := (Nat)) [7, 8, 12, 13, 14, 15, 16, 17, 18] (fun k => [(8, .int .i64 (k : Int)), (7, .int .i64 ((2 ^ k : Nat) : Int))]) (fun k W => (Below w.heap.size w W) ∧ (k ≤ i) ∧ (True)) (fun k => i - k) (0) ⟨rfl, rfl, trivial⟩ ⟨hB, (Nat.zero_le _), trivial⟩ ?_
  clear hB
  rintro k g10 W9 ⟨hB, hk, _⟩ J11 hJ12
  refine WC_seq (fun K13 hK14 => ?_)
  refine WC_seq (fun K15 hK16 => ?_)
  refine WC_region ?_
  refine WL_val (dd := some 12) rfl rfl rfl (r_move (v := .int .i64 _) rfl) ?_
  refine WL_val (dd := some 13) rfl rfl rfl (r_move (v := .int .i64 _) rfl) ?_
  refine WL_val (dd := some 14) rfl rfl rfl (r_lss rfl rfl) ?_
  refine WL_nil ?_
  refine hK16 _ _ ?_
  clear hK16 K15
  refine WC_cond (b := _) rfl (fun hc0 => ?_) (fun hc0 => ?_)
  ·
    try with_reducible replace hc0 := of_decide_eq_true hc0
    refine WC_skip ?_
    refine hK14 _ _ ?_
    clear hK14 K13
    refine WC_seq (fun K17 hK18 => ?_)
    refine WC_block ?_
    have h7 : 2 ^ k ≤ 128 := pow7 (by omega)
    have h6 := Nat.two_pow_pos k
    refine WC_region ?_
    refine WL_val (dd := some 17) rfl rfl rfl (r_move (v := .int .i64 _) rfl) ?_
    refine WL_val (dd := some 18) rfl rfl rfl (r_mulI rfl rfl (by omega) (by omega)) ?_
    refine WL_val (dd := some 7) rfl rfl rfl (r_assign (v := .int .i64 _) rfl) ?_
    refine WL_nil ?_
    refine hK18 _ _ ?_
    clear hK18 K17
    refine WC_region ?_
    refine WL_val (dd := some 15) rfl rfl rfl (r_move (v := .int .i64 _) rfl) ?_
    refine WL_val (dd := some 16) rfl rfl rfl (r_addI rfl rfl (by omega) (by omega)) ?_
    refine WL_val (dd := some 8) rfl rfl rfl (r_assign (v := .int .i64 _) rfl) ?_
    refine WL_nil ?_
    refine hJ12 _ _ (k + 1) ?_ ?_ ?_ ?_
    · repeat (first | exact agree.mask _ _ _ | refine agree.updo ?_ rfl _ | refine agree.updL ?_ _ rfl | refine agree.maskS rfl ?_)
    · exact ⟨rfl, congrArg (Value.int .i64) (two_step k), trivial⟩
    · exact ⟨hB, (by omega), trivial⟩
    · first | omega | (dsimp only; omega)
  ·
    try with_reducible replace hc0 := of_decide_eq_false hc0
    refine WC_exit ?_
    refine hK6 _ _ ?_
    clear hK14 K13
    clear hJ12 J11
    clear hK6 K5
    refine WC_seq (fun K19 hK20 => ?_)
    obtain rfl : i = k := by omega
    have h7 : 2 ^ i ≤ 128 := pow7 (by omega)
    have h6 := Nat.two_pow_pos i
    refine WC_region ?_
    refine WL_step (dd := some 19) rfl rfl rfl (Y_make (n := 256) (N := w.heap.size) rfl rfl tb_el43 tb_z4 (by decide) (by decide) (Below.size hB) (fun v6_0 W21 hE22 ho6_0 => ?_))
    replace ho6_0 := OwT.made encB_len false rfl (by decide) ho6_0
    replace hB := below_ext hB hE22 (Nat.le_refl _)
    clear hE22
    rw [setF_zero (fun p => (sideS s i one).testBit p)] at ho6_0
    refine WL_val (dd := some 9) rfl rfl rfl (r_assign (v := v6_0) rfl) ?_
    refine WL_nil ?_
    refine hK20 _ _ ?_
    clear hK20 K19
    refine WC_seq (fun K23 hK24 => ?_)
    refine WC_seq (fun K25 hK26 => ?_)
    refine WC_region ?_
    refine WL_val (dd := some 10) rfl rfl rfl (r_assign (v := .int .i64 0) rfl) ?_
    refine WL_nil ?_
    refine hK26 _ _ ?_
    clear hK26 K25
    refine WC_block ?_
    refine WC_loop (σ := (Nat)) [10, 11, 20, 21, 22, 23, 24, 25, 26, 27, 28, 29, 30, 31, 32, 33, 34, 35, 36, 37, 38, 39, 40, 41, 42, 43, 44, 45, 46, 47, 48, 49, 50, 51, 52] (fun p => [(10, .int .i64 (p : Int))]) (fun p W => (Below w.heap.size w W) ∧ (OwT encB 1 4 W w.heap.size v6_0 (setF (fun p => (sideS s i one).testBit p) p)) ∧ (p ≤ 256) ∧ (True)) (fun p => 256 - p) (0) ⟨rfl, trivial⟩ ⟨hB, ho6_0, (by omega), trivial⟩ ?_
    clear hB ho6_0
    rintro p g28 W27 ⟨hB, ho, hp, _⟩ J29 hJ30
    refine WC_seq (fun K31 hK32 => ?_)
    refine WC_seq (fun K33 hK34 => ?_)
    refine WC_region ?_
    refine WL_val (dd := some 20) rfl rfl rfl (r_move (v := .int .i64 _) rfl) ?_
    refine WL_val (dd := some 21) rfl rfl rfl (r_lss rfl rfl) ?_
    refine WL_nil ?_
    refine hK34 _ _ ?_
    clear hK34 K33
    refine WC_cond (b := _) rfl (fun hc1 => ?_) (fun hc1 => ?_)
    ·
      try with_reducible replace hc1 := of_decide_eq_true hc1
      refine WC_skip ?_
      refine hK32 _ _ ?_
      clear hK32 K31
      refine WC_seq (fun K35 hK36 => ?_)
      refine WC_block ?_
      refine WC_seq (fun K37 hK38 => ?_)
      refine WC_region ?_
      refine WL_val (dd := some 24) rfl rfl rfl (r_move (v := .int .i64 _) rfl) ?_
      refine WL_val (dd := some 11) rfl rfl rfl (r_assign (v := .int .i64 _) rfl) ?_
      refine WL_nil ?_
      refine hK38 _ _ ?_
      clear hK38 K37
      refine WC_seq (fun K39 hK40 => ?_)
      refine WC_seq (fun K41 hK42 => ?_)
      refine WC_region ?_
      refine WL_val (dd := some 25) rfl rfl rfl (r_move (v := .int .i64 _) rfl) ?_
      refine WL_val (dd := some 26) rfl rfl rfl (r_move (v := .int .i64 _) rfl) ?_
      refine WL_call (dd := some 27) rfl rfl rfl (r_call2 tb_c96 (v0 := .int .i64 _) rfl (v1 := .int .i64 _) rfl) (C_drawkniferef01_Bit _ _ _ (by first | assumption | omega) (by first | assumption | omega)) (fun v11_2 W43 hE44 hP11_2 => ?_)
      have hsz45 := (Below.size hB)
      replace hB := below_ext hB hE44 (Nat.le_refl _)
      replace ho := hE44.ow ho
      clear hE44
      clear hsz45
      obtain rfl := hP11_2
      refine WL_val (dd := some 28) rfl rfl rfl (r_eql rfl rfl) ?_
      refine WL_split (dd := some 29) rfl rfl rfl (r_move (v := .bool _) rfl) (fun hs11_4 => ?_) (fun hs11_4 => ?_)
      ·
        try with_reducible replace hs11_4 := of_decide_eq_true hs11_4
        refine WL_val (dd := some 30) rfl rfl rfl (r_move (v := .bool _) rfl) ?_
        refine WL_val (dd := some 31) rfl rfl rfl (r_not rfl) ?_
        refine WL_val (dd := some 32) rfl rfl rfl (r_pick_t rfl (v := .bool _) rfl) ?_
        refine WL_nil ?_
        refine hK42 _ _ ?_
        clear hK42 K41
        refine WC_cond (b := _) rfl (fun hc2 => ?_) (fun hc2 => ?_)
        ·
          try with_reducible replace hc2 := of_decide_eq_true hc2
          refine WC_region ?_
          refine WL_val (dd := some 33) rfl rfl rfl (r_move (v := .int .i64 _) rfl) ?_
          refine WL_val (dd := some 34) rfl rfl rfl (r_move (v := .int .i64 _) rfl) ?_
          refine WL_val (dd := some 35) rfl rfl rfl (r_subI rfl rfl (by omega) (by omega)) ?_
          refine WL_val (dd := some 11) rfl rfl rfl (r_assign (v := .int .i64 ((putP p i one : Nat) : Int)) (congrArg (Value.int .i64) (side_q1 (by omega) hi hs11_4 hc2))) ?_
          refine WL_nil ?_
          refine hK40 _ _ ?_
          clear hK40 K39
          refine WC_seq (fun K46 hK47 => ?_)
          refine WC_seq (fun K48 hK49 => ?_)
          refine WC_region ?_
          refine WL_val (dd := some 36) rfl rfl rfl (r_move (v := .int .i64 _) rfl) ?_
          refine WL_val (dd := some 37) rfl rfl rfl (r_move (v := .int .i64 _) rfl) ?_
          refine WL_call (dd := some 38) rfl rfl rfl (r_call2 tb_c96 (v0 := .int .i64 _) rfl (v1 := .int .i64 _) rfl) (C_drawkniferef01_Bit _ _ _ (by first | assumption | omega) (by first | assumption | omega)) (fun v13_2 W50 hE51 hP13_2 => ?_)
          have hsz52 := (Below.size hB)
          replace hB := below_ext hB hE51 (Nat.le_refl _)
          replace ho := hE51.ow ho
          clear hE51
          clear hsz52
          obtain rfl := hP13_2
          refine WL_val (dd := some 39) rfl rfl rfl (r_eql rfl rfl) ?_
          refine WL_split (dd := some 40) rfl rfl rfl (r_move (v := .bool _) rfl) (fun hs13_4 => ?_) (fun hs13_4 => ?_)
          ·
            try with_reducible replace hs13_4 := of_decide_eq_true hs13_4
            omega
          ·
            try with_reducible replace hs13_4 := of_decide_eq_false hs13_4
            refine WL_skip (dd := some 41) rfl rfl rfl ?_
            refine WL_val (dd := some 42) rfl rfl rfl (r_pick_f rfl (v := .bool false) rfl) ?_
            refine WL_nil ?_
            refine hK49 _ _ ?_
            clear hK49 K48
            refine WC_cond_false rfl ?_
            refine WC_skip ?_
            refine hK47 _ _ ?_
            clear hK47 K46
            have hput := putP_256 (p := p) (i := i) (one := one) (by omega) hi
            refine WC_region ?_
            refine WL_val (dd := some 46) rfl rfl rfl (r_move (v := v6_0) rfl) ?_
            refine WL_val (dd := some 47) rfl rfl rfl (r_move (v := .int .i64 _) rfl) ?_
            refine WL_val (dd := some 48) rfl rfl rfl (r_move (v := xa) rfl) ?_
            refine WL_val (dd := some 49) rfl rfl rfl (r_move (v := .int .i64 ((putP p i one : Nat) : Int)) (by first | rfl | exact congrArg (Value.int .i64) (side_q3 (by first | exact side_b1 hs11_4 hc2 | exact side_b0 hs13_4 hc3)))) ?_
            refine WL_val (dd := some 50) rfl rfl rfl (r_idxS (v := xa) rfl (Below.slT hB ha) rfl tb_el43 (by omega) (by first | omega | (simp only [flagsTo_len, litsTo_len, firstF_len, ptF_len, setF_len]; omega))) ?_
            refine WL_val (dd := some 51) rfl rfl rfl (r_load1 (v := .bool _) rfl tb_sc4 (SlT.cell (Below.slT hB ha) encB_len false (by omega) (by first | omega | (simp only [flagsTo_len, litsTo_len, firstF_len, ptF_len, setF_len]; omega)) 0 rfl)) ?_
            refine WL_val (dd := some 52) rfl rfl rfl (r_idxS (v := v6_0) rfl ho.sl rfl tb_el43 (by omega) (by first | omega | (simp only [flagsTo_len, litsTo_len, firstF_len, ptF_len, setF_len]; omega))) ?_
            refine WL_step (dd := none) rfl rfl rfl (Y_storeE (v := v6_0) (u := .bool _) (a := _) (j := _) rfl rfl (.inl ⟨tb_sc4, rfl⟩) encB_len rfl rfl ho (by omega) (by first | omega | (simp only [flagsTo_len, litsTo_len, firstF_len, ptF_len, setF_len]; omega)) (fun W53 hG54 hm55 => ?_))
            replace hB := below_grown hB hG54 (Nat.le_refl _) (fun j hj => (OwT.lt ho j hj))
            clear hG54 ho
            have ho := hm55
            clear hm55
            rw [setF_put (f := fun p => (sideS s i one).testBit p) (side_f (by omega) hi)] at ho
            refine WL_nil ?_
            refine hK36 _ _ ?_
            clear hK36 K35
            refine WC_region ?_
            refine WL_val (dd := some 22) rfl rfl rfl (r_move (v := .int .i64 _) rfl) ?_
            refine WL_val (dd := some 23) rfl rfl rfl (r_addI rfl rfl (by omega) (by omega)) ?_
            refine WL_val (dd := some 10) rfl rfl rfl (r_assign (v := .int .i64 _) rfl) ?_
            refine WL_nil ?_
            refine hJ30 _ _ (p + 1) ?_ ?_ ?_ ?_
            · repeat (first | exact agree.mask _ _ _ | refine agree.updo ?_ rfl _ | refine agree.updL ?_ _ rfl | refine agree.maskS rfl ?_)
            · exact ⟨rfl, trivial⟩
            · exact ⟨hB, (by exact ho), (by omega), trivial⟩
            · first | omega | (dsimp only; omega)
        ·
          try with_reducible replace hc2 := of_decide_eq_false hc2
          refine WC_skip ?_
          refine hK40 _ _ ?_
          clear hK40 K39
          refine WC_seq (fun K56 hK57 => ?_)
          refine WC_seq (fun K58 hK59 => ?_)
          refine WC_region ?_
          refine WL_val (dd := some 36) rfl rfl rfl (r_move (v := .int .i64 _) rfl) ?_
          refine WL_val (dd := some 37) rfl rfl rfl (r_move (v := .int .i64 _) rfl) ?_
          refine WL_call (dd := some 38) rfl rfl rfl (r_call2 tb_c96 (v0 := .int .i64 _) rfl (v1 := .int .i64 _) rfl) (C_drawkniferef01_Bit _ _ _ (by first | assumption | omega) (by first | assumption | omega)) (fun v13_2 W60 hE61 hP13_2 => ?_)
          have hsz62 := (Below.size hB)
          replace hB := below_ext hB hE61 (Nat.le_refl _)
          replace ho := hE61.ow ho
          clear hE61
          clear hsz62
          obtain rfl := hP13_2
          refine WL_val (dd := some 39) rfl rfl rfl (r_eql rfl rfl) ?_
          refine WL_split (dd := some 40) rfl rfl rfl (r_move (v := .bool _) rfl) (fun hs13_4 => ?_) (fun hs13_4 => ?_)
          ·
            try with_reducible replace hs13_4 := of_decide_eq_true hs13_4
            omega
          ·
            try with_reducible replace hs13_4 := of_decide_eq_false hs13_4
            refine WL_skip (dd := some 41) rfl rfl rfl ?_
            refine WL_val (dd := some 42) rfl rfl rfl (r_pick_f rfl (v := .bool false) rfl) ?_
            refine WL_nil ?_
            refine hK59 _ _ ?_
            clear hK59 K58
            refine WC_cond_false rfl ?_
            refine WC_skip ?_
            refine hK57 _ _ ?_
            clear hK57 K56
            have hput := putP_256 (p := p) (i := i) (one := one) (by omega) hi
            refine WC_region ?_
            refine WL_val (dd := some 46) rfl rfl rfl (r_move (v := v6_0) rfl) ?_
            refine WL_val (dd := some 47) rfl rfl rfl (r_move (v := .int .i64 _) rfl) ?_
            refine WL_val (dd := some 48) rfl rfl rfl (r_move (v := xa) rfl) ?_
            refine WL_val (dd := some 49) rfl rfl rfl (r_move (v := .int .i64 ((putP p i one : Nat) : Int)) (by first | rfl | exact congrArg (Value.int .i64) (side_q3 (by first | exact side_b1 hs11_4 hc2 | exact side_b0 hs13_4 hc3)))) ?_
            refine WL_val (dd := some 50) rfl rfl rfl (r_idxS (v := xa) rfl (Below.slT hB ha) rfl tb_el43 (by omega) (by first | omega | (simp only [flagsTo_len, litsTo_len, firstF_len, ptF_len, setF_len]; omega))) ?_
            refine WL_val (dd := some 51) rfl rfl rfl (r_load1 (v := .bool _) rfl tb_sc4 (SlT.cell (Below.slT hB ha) encB_len false (by omega) (by first | omega | (simp only [flagsTo_len, litsTo_len, firstF_len, ptF_len, setF_len]; omega)) 0 rfl)) ?_
            refine WL_val (dd := some 52) rfl rfl rfl (r_idxS (v := v6_0) rfl ho.sl rfl tb_el43 (by omega) (by first | omega | (simp only [flagsTo_len, litsTo_len, firstF_len, ptF_len, setF_len]; omega))) ?_
            refine WL_step (dd := none) rfl rfl rfl (Y_storeE (v := v6_0) (u := .bool _) (a := _) (j := _) rfl rfl (.inl ⟨tb_sc4, rfl⟩) encB_len rfl rfl ho (by omega) (by first | omega | (simp only [flagsTo_len, litsTo_len, firstF_len, ptF_len, setF_len]; omega)) (fun W63 hG64 hm65 => ?_))
            replace hB := below_grown hB hG64 (Nat.le_refl _) (fun j hj => (OwT.lt ho j hj))
            clear hG64 ho
            have ho := hm65
            clear hm65
            rw [setF_put (f := fun p => (sideS s i one).testBit p) (side_f (by omega) hi)] at ho
            refine WL_nil ?_
            refine hK36 _ _ ?_
            clear hK36 K35
            refine WC_region ?_
            refine WL_val (dd := some 22) rfl rfl rfl (r_move (v := .int .i64 _) rfl) ?_
            refine WL_val (dd := some 23) rfl rfl rfl (r_addI rfl rfl (by omega) (by omega)) ?_
            refine WL_val (dd := some 10) rfl rfl rfl (r_assign (v := .int .i64 _) rfl) ?_
            refine WL_nil ?_
            refine hJ30 _ _ (p + 1) ?_ ?_ ?_ ?_
            · repeat (first | exact agree.mask _ _ _ | refine agree.updo ?_ rfl _ | refine agree.updL ?_ _ rfl | refine agree.maskS rfl ?_)
            · exact ⟨rfl, trivial⟩
            · exact ⟨hB, (by exact ho), (by omega), trivial⟩
            · first | omega | (dsimp only; omega)
      ·
        try with_reducible replace hs11_4 := of_decide_eq_false hs11_4
        refine WL_skip (dd := some 30) rfl rfl rfl ?_
        refine WL_skip (dd := some 31) rfl rfl rfl ?_
        refine WL_val (dd := some 32) rfl rfl rfl (r_pick_f rfl (v := .bool false) rfl) ?_
        refine WL_nil ?_
        refine hK42 _ _ ?_
        clear hK42 K41
        refine WC_cond_false rfl ?_
        refine WC_skip ?_
        refine hK40 _ _ ?_
        clear hK40 K39
        refine WC_seq (fun K66 hK67 => ?_)
        refine WC_seq (fun K68 hK69 => ?_)
        refine WC_region ?_
        refine WL_val (dd := some 36) rfl rfl rfl (r_move (v := .int .i64 _) rfl) ?_
        refine WL_val (dd := some 37) rfl rfl rfl (r_move (v := .int .i64 _) rfl) ?_
        refine WL_call (dd := some 38) rfl rfl rfl (r_call2 tb_c96 (v0 := .int .i64 _) rfl (v1 := .int .i64 _) rfl) (C_drawkniferef01_Bit _ _ _ (by first | assumption | omega) (by first | assumption | omega)) (fun v13_2 W70 hE71 hP13_2 => ?_)
        have hsz72 := (Below.size hB)
        replace hB := below_ext hB hE71 (Nat.le_refl _)
        replace ho := hE71.ow ho
        clear hE71
        clear hsz72
        obtain rfl := hP13_2
        refine WL_val (dd := some 39) rfl rfl rfl (r_eql rfl rfl) ?_
        refine WL_split (dd := some 40) rfl rfl rfl (r_move (v := .bool _) rfl) (fun hs13_4 => ?_) (fun hs13_4 => ?_)
        ·
          try with_reducible replace hs13_4 := of_decide_eq_true hs13_4
          refine WL_val (dd := some 41) rfl rfl rfl (r_move (v := .bool _) rfl) ?_
          refine WL_val (dd := some 42) rfl rfl rfl (r_pick_t rfl (v := .bool _) rfl) ?_
          refine WL_nil ?_
          refine hK69 _ _ ?_
          clear hK69 K68
          refine WC_cond (b := _) rfl (fun hc3 => ?_) (fun hc3 => ?_)
          ·
            try with_reducible replace hc3 := of_decide_eq_true hc3
            refine WC_region ?_
            refine WL_val (dd := some 43) rfl rfl rfl (r_move (v := .int .i64 _) rfl) ?_
            refine WL_val (dd := some 44) rfl rfl rfl (r_move (v := .int .i64 _) rfl) ?_
            refine WL_val (dd := some 45) rfl rfl rfl (r_addI rfl rfl (by omega) (by omega)) ?_
            refine WL_val (dd := some 11) rfl rfl rfl (r_assign (v := .int .i64 ((putP p i one : Nat) : Int)) (congrArg (Value.int .i64) (side_q2 (by omega) hi hs13_4 hc3))) ?_
            refine WL_nil ?_
            refine hK67 _ _ ?_
            clear hK67 K66
            have hput := putP_256 (p := p) (i := i) (one := one) (by omega) hi
            refine WC_region ?_
            refine WL_val (dd := some 46) rfl rfl rfl (r_move (v := v6_0) rfl) ?_
            refine WL_val (dd := some 47) rfl rfl rfl (r_move (v := .int .i64 _) rfl) ?_
            refine WL_val (dd := some 48) rfl rfl rfl (r_move (v := xa) rfl) ?_
            refine WL_val (dd := some 49) rfl rfl rfl (r_move (v := .int .i64 ((putP p i one : Nat) : Int)) (by first | rfl | exact congrArg (Value.int .i64) (side_q3 (by first | exact side_b1 hs11_4 hc2 | exact side_b0 hs13_4 hc3)))) ?_
            refine WL_val (dd := some 50) rfl rfl rfl (r_idxS (v := xa) rfl (Below.slT hB ha) rfl tb_el43 (by omega) (by first | omega | (simp only [flagsTo_len, litsTo_len, firstF_len, ptF_len, setF_len]; omega))) ?_
            refine WL_val (dd := some 51) rfl rfl rfl (r_load1 (v := .bool _) rfl tb_sc4 (SlT.cell (Below.slT hB ha) encB_len false (by omega) (by first | omega | (simp only [flagsTo_len, litsTo_len, firstF_len, ptF_len, setF_len]; omega)) 0 rfl)) ?_
            refine WL_val (dd := some 52) rfl rfl rfl (r_idxS (v := v6_0) rfl ho.sl rfl tb_el43 (by omega) (by first | omega | (simp only [flagsTo_len, litsTo_len, firstF_len, ptF_len, setF_len]; omega))) ?_
            refine WL_step (dd := none) rfl rfl rfl (Y_storeE (v := v6_0) (u := .bool _) (a := _) (j := _) rfl rfl (.inl ⟨tb_sc4, rfl⟩) encB_len rfl rfl ho (by omega) (by first | omega | (simp only [flagsTo_len, litsTo_len, firstF_len, ptF_len, setF_len]; omega)) (fun W73 hG74 hm75 => ?_))
            replace hB := below_grown hB hG74 (Nat.le_refl _) (fun j hj => (OwT.lt ho j hj))
            clear hG74 ho
            have ho := hm75
            clear hm75
            rw [setF_put (f := fun p => (sideS s i one).testBit p) (side_f (by omega) hi)] at ho
            refine WL_nil ?_
            refine hK36 _ _ ?_
            clear hK36 K35
            refine WC_region ?_
            refine WL_val (dd := some 22) rfl rfl rfl (r_move (v := .int .i64 _) rfl) ?_
            refine WL_val (dd := some 23) rfl rfl rfl (r_addI rfl rfl (by omega) (by omega)) ?_
            refine WL_val (dd := some 10) rfl rfl rfl (r_assign (v := .int .i64 _) rfl) ?_
            refine WL_nil ?_
            refine hJ30 _ _ (p + 1) ?_ ?_ ?_ ?_
            · repeat (first | exact agree.mask _ _ _ | refine agree.updo ?_ rfl _ | refine agree.updL ?_ _ rfl | refine agree.maskS rfl ?_)
            · exact ⟨rfl, trivial⟩
            · exact ⟨hB, (by exact ho), (by omega), trivial⟩
            · first | omega | (dsimp only; omega)
          ·
            try with_reducible replace hc3 := of_decide_eq_false hc3
            refine WC_skip ?_
            refine hK67 _ _ ?_
            clear hK67 K66
            have hput := putP_256 (p := p) (i := i) (one := one) (by omega) hi
            refine WC_region ?_
            refine WL_val (dd := some 46) rfl rfl rfl (r_move (v := v6_0) rfl) ?_
            refine WL_val (dd := some 47) rfl rfl rfl (r_move (v := .int .i64 _) rfl) ?_
            refine WL_val (dd := some 48) rfl rfl rfl (r_move (v := xa) rfl) ?_
            refine WL_val (dd := some 49) rfl rfl rfl (r_move (v := .int .i64 ((putP p i one : Nat) : Int)) (by first | rfl | exact congrArg (Value.int .i64) (side_q3 (by first | exact side_b1 hs11_4 hc2 | exact side_b0 hs13_4 hc3)))) ?_
            refine WL_val (dd := some 50) rfl rfl rfl (r_idxS (v := xa) rfl (Below.slT hB ha) rfl tb_el43 (by omega) (by first | omega | (simp only [flagsTo_len, litsTo_len, firstF_len, ptF_len, setF_len]; omega))) ?_
            refine WL_val (dd := some 51) rfl rfl rfl (r_load1 (v := .bool _) rfl tb_sc4 (SlT.cell (Below.slT hB ha) encB_len false (by omega) (by first | omega | (simp only [flagsTo_len, litsTo_len, firstF_len, ptF_len, setF_len]; omega)) 0 rfl)) ?_
            refine WL_val (dd := some 52) rfl rfl rfl (r_idxS (v := v6_0) rfl ho.sl rfl tb_el43 (by omega) (by first | omega | (simp only [flagsTo_len, litsTo_len, firstF_len, ptF_len, setF_len]; omega))) ?_
            refine WL_step (dd := none) rfl rfl rfl (Y_storeE (v := v6_0) (u := .bool _) (a := _) (j := _) rfl rfl (.inl ⟨tb_sc4, rfl⟩) encB_len rfl rfl ho (by omega) (by first | omega | (simp only [flagsTo_len, litsTo_len, firstF_len, ptF_len, setF_len]; omega)) (fun W76 hG77 hm78 => ?_))
            replace hB := below_grown hB hG77 (Nat.le_refl _) (fun j hj => (OwT.lt ho j hj))
            clear hG77 ho
            have ho := hm78
            clear hm78
            rw [setF_put (f := fun p => (sideS s i one).testBit p) (side_f (by omega) hi)] at ho
            refine WL_nil ?_
            refine hK36 _ _ ?_
            clear hK36 K35
            refine WC_region ?_
            refine WL_val (dd := some 22) rfl rfl rfl (r_move (v := .int .i64 _) rfl) ?_
            refine WL_val (dd := some 23) rfl rfl rfl (r_addI rfl rfl (by omega) (by omega)) ?_
            refine WL_val (dd := some 10) rfl rfl rfl (r_assign (v := .int .i64 _) rfl) ?_
            refine WL_nil ?_
            refine hJ30 _ _ (p + 1) ?_ ?_ ?_ ?_
            · repeat (first | exact agree.mask _ _ _ | refine agree.updo ?_ rfl _ | refine agree.updL ?_ _ rfl | refine agree.maskS rfl ?_)
            · exact ⟨rfl, trivial⟩
            · exact ⟨hB, (by exact ho), (by omega), trivial⟩
            · first | omega | (dsimp only; omega)
        ·
          try with_reducible replace hs13_4 := of_decide_eq_false hs13_4
          have h2 : p / 2 ^ i % 2 < 2 := Nat.mod_lt _ (by decide)
          omega
    ·
      try with_reducible replace hc1 := of_decide_eq_false hc1
      refine WC_exit ?_
      refine hK24 _ _ ?_
      clear hK32 K31
      clear hJ30 J29
      clear hK24 K23
      refine WC_seq (fun K79 hK80 => ?_)
      refine WC_region ?_
      refine WL_val (dd := some 53) rfl rfl rfl (r_move (v := v6_0) rfl) ?_
      refine WL_val (dd := some 6) rfl rfl rfl (r_assign (v := v6_0) rfl) ?_
      refine WL_nil ?_
      refine hK80 _ _ ?_
      clear hK80 K79
      refine WC_ret ?_
      repeat (first | refine thenQ_ret ?_ | refine blockQ_ret ?_)
      refine ret_t (v := v6_0) rfl ?_
      refine ⟨hB, ?_⟩
      obtain rfl : p = 256 := by omega
      rw [setF_all (fun p _ => rfl)] at ho
      exact ho

theorem CS_coverR (n f : Nat) (xa xb : Value) (on may i : Nat) (w : World) (hih : ∀ (xa xb : Value) (on may i : Nat) (w : World), SlT encB 1 w xa (flagsS on) → SlT encB 1 w xb (flagsS may) → n ≤ 8 → Good n on may i → n + 1 - i ≤ f → f ≤ 9 → Fn Try.prog 40 #[xa, xb, .int .i64 (n : Int), .int .i64 (i : Int)] w fun v w' => OwT encC 2 34 w' w.heap.size v (coverL n f on may i)) (ha : SlT encB 1 w xa (flagsS on)) (hb : SlT encB 1 w xb (flagsS may)) (h8 : n ≤ 8) (hg : Good n on may i) (hf : n + 1 - i ≤ f + 1) (hf9 : f + 1 ≤ 9) :
    Fn Try.prog 40 #[xa, xb, .int .i64 (n : Int), .int .i64 (i : Int)] w fun v w' => OwT encC 2 34 w' w.heap.size v (coverL n (f + 1) on may i) := by
  refine Fn_intro (n := 80) Try.func40 rfl rfl (Nat.le_of_ble_eq_true rfl) ?_
  have hB : Below w.heap.size w w := Below.refl _ _
  refine WC_seq (fun K1 hK2 => ?_)
  refine WC_region ?_
  refine WL_val (dd := some 8) rfl rfl rfl (r_assign (v := .slice none 0 0) rfl) ?_
  refine WL_nil ?_
  refine hK2 _ _ ?_
  clear hK2 K1
  refine WC_seq (fun K3 hK4 => ?_)
  refine WC_seq (fun K5 hK6 => ?_)
  refine WC_region ?_
  refine WL_val (dd := some 16) rfl rfl rfl (r_move (v := xa) rfl) ?_
  refine WL_call (dd := some 17) rfl rfl rfl (r_call1 tb_c98 (v0 := xa) rfl) (C_drawkniferef12_empty _ _ _ (Below.slT hB ha)) (fun v1_1 W7 hE8 hP1_1 => ?_)
  have hsz9 := (Below.size hB)
  replace hB := below_ext hB hE8 (Nat.le_refl _)
  clear hE8
  clear hsz9
  obtain rfl := hP1_1
  refine WL_nil ?_
  refine hK6 _ _ ?_
  clear hK6 K5
  refine WC_cond (b := _) rfl (fun hc0 => ?_) (fun hc0 => ?_)
  ·
    try with_reducible replace hc0 := of_decide_eq_true hc0
    refine WC_seq (fun K10 hK11 => ?_)
    refine WC_region ?_
    refine WL_val (dd := some 8) rfl rfl rfl (r_assign (v := .slice none 0 0) rfl) ?_
    refine WL_nil ?_
    refine hK11 _ _ ?_
    clear hK11 K10
    refine WC_ret ?_
    repeat (first | refine thenQ_ret ?_ | refine blockQ_ret ?_)
    try clear hK4 K3
    refine ret_t (v := .slice none 0 0) rfl ?_
    refine ⟨hB, ?_⟩
    rw [coverL, if_pos hc0]
    exact OwT.nil
  ·
    try with_reducible replace hc0 := of_decide_eq_false hc0
    refine WC_skip ?_
    refine hK4 _ _ ?_
    clear hK4 K3
    refine WC_seq (fun K12 hK13 => ?_)
    refine WC_seq (fun K14 hK15 => ?_)
    refine WC_region ?_
    refine WL_val (dd := some 18) rfl rfl rfl (r_move (v := .int .i64 _) rfl) ?_
    refine WL_call (dd := some 19) rfl rfl rfl (r_call1 tb_c100 (v0 := .int .i64 _) rfl) (C_drawkniferef12_all _ _ (by first | assumption | omega) (by first | assumption | omega)) (fun v3_1 W16 hE17 hP3_1 => ?_)
    have hsz18 := (Below.size hB)
    replace hB := below_ext hB hE17 (Nat.le_refl _)
    clear hE17
    replace hP3_1 := OwT.mono hP3_1 hsz18
    clear hsz18
    refine WL_val (dd := some 20) rfl rfl rfl (r_move (v := xb) rfl) ?_
    refine WL_call (dd := some 21) rfl rfl rfl (r_call2 tb_c99 (v0 := v3_1) rfl (v1 := xb) rfl) (C_drawkniferef12_less _ _ _ _ _ hP3_1.sl (Below.slT hB hb)) (fun v3_3 W19 hE20 hP3_3 => ?_)
    have hlt21 := OwT.lt2 hP3_1
    have hsz22 := (Below.size hB)
    replace hB := below_ext hB hE20 (Nat.le_refl _)
    replace hP3_1 := hE20.ow hP3_1
    clear hE20
    have hap23 := Apart.new hlt21 hP3_3
    replace hP3_3 := OwT.mono hP3_3 hsz22
    clear hsz22
    refine WL_call (dd := some 22) rfl rfl rfl (r_call1 tb_c98 (v0 := v3_3) rfl) (C_drawkniferef12_empty _ _ _ hP3_3.sl) (fun v3_4 W24 hE25 hP3_4 => ?_)
    have hsz26 := (Below.size hB)
    replace hB := below_ext hB hE25 (Nat.le_refl _)
    replace hP3_1 := hE25.ow hP3_1
    replace hP3_3 := hE25.ow hP3_3
    clear hE25
    clear hsz26
    obtain rfl := hP3_4
    refine WL_nil ?_
    refine hK15 _ _ ?_
    clear hK15 K14
    refine WC_cond (b := _) rfl (fun hc1 => ?_) (fun hc1 => ?_)
    ·
      try with_reducible replace hc1 := of_decide_eq_true hc1
      refine WC_seq (fun K27 hK28 => ?_)
      refine WC_region ?_
      refine WL_val (dd := some 23) rfl rfl rfl (tb_build34_ ) ?_
      refine WL_step (dd := some 24) rfl rfl rfl (Y_lit1 (u := .agg #[_, _]) rfl tb_el27 tb_zs34 rfl (by decide) (by decide) (fun b4_1 W29 hb30 hE31 hm4_1 => ?_))
      have lo_b4_1 : w.heap.size ≤ b4_1 := hb30 ▸ (Below.size hB)
      clear hb30
      replace hB := below_ext hB hE31 (Nat.le_refl _)
      replace hP3_1 := hE31.ow hP3_1
      replace hP3_3 := hE31.ow hP3_3
      clear hE31
      refine WL_val (dd := some 8) rfl rfl rfl (r_assign (v := .slice (some ⟨b4_1, 0, none⟩) 1 1) rfl) ?_
      refine WL_nil ?_
      refine hK28 _ _ ?_
      clear hK28 K27
      refine WC_ret ?_
      repeat (first | refine thenQ_ret ?_ | refine blockQ_ret ?_)
      try clear hK13 K12
      refine ret_t (v := .slice (some ⟨b4_1, 0, none⟩) 1 1) rfl ?_
      refine ⟨hB, ?_⟩
      rw [Int.toNat_natCast, may_all hg.out] at hc1
      rw [coverL, if_neg (by rw [hc0]; decide), if_pos hc1]
      exact own_lit1 (enc := encC) (a := ⟨0, 0⟩) hm4_1 rfl rfl lo_b4_1
    ·
      try with_reducible replace hc1 := of_decide_eq_false hc1
      refine WC_skip ?_
      refine hK13 _ _ ?_
      clear hK13 K12
      refine WC_seq (fun K32 hK33 => ?_)
      rw [Int.toNat_natCast, may_all hg.out] at hc1
      have h0 : ¬ eqS on 0 = true := by rw [hc0]; decide
      have h1 : ¬ eqS may (allS n) = true := by first | (rw [hc1]; decide) | simpa using hc1
      have hi : i < n := good_lt h8 hg h0 h1
      have hf1 : n + 1 - (i + 1) ≤ f := by omega
      have hi8 : i < 8 := by omega
      have hca := (cover_ok h8 f _ _ _ (hg.side h8 hi false) hf1)
      have hcb := (cover_ok h8 f _ _ _ (hg.side h8 hi true) hf1)
      simp only [Bool.not_false, Bool.not_true] at hca hcb
      have hgr := hg.rest h8 hi hca.1 hcb.1 hca.2 hcb.2
      have hla := coverL_len (n := n) f (andNot (sideS on i false) (sideS may i true)) (sideS may i false) (i + 1)
      have hlb := coverL_len (n := n) f (andNot (sideS on i true) (sideS may i false)) (sideS may i true) (i + 1)
      have hlc := coverL_len (n := n) f (restS n (sideS on i false) (sideS on i true) (coverL n f (andNot (sideS on i false) (sideS may i true)) (sideS may i false) (i + 1)) (coverL n f (andNot (sideS on i true) (sideS may i false)) (sideS may i true) (i + 1))) (sideS may i false &&& sideS may i true) (i + 1)
      have h3f : 3 ^ f ≤ 3 ^ 8 := Nat.pow_le_pow_right (by decide) (by omega)
      have hle256 := pow_le256 h8
      have hgr2 : Good n (andNot (sideS on i false) (ptsU (coverL n f (andNot (sideS on i false) (sideS may i true)) (sideS may i false) (i + 1)) n (coverL n f (andNot (sideS on i false) (sideS may i true)) (sideS may i false) (i + 1)).length) ||| andNot (sideS on i true) (ptsU (coverL n f (andNot (sideS on i true) (sideS may i false)) (sideS may i true) (i + 1)) n (coverL n f (andNot (sideS on i true) (sideS may i false)) (sideS may i true) (i + 1)).length)) (sideS may i false &&& sideS may i true) (i + 1) := by have h := hgr; unfold restS at h; rw [Nat.zero_or] at h; exact h
      refine WC_region ?_
      refine WL_val (dd := some 25) rfl rfl rfl (r_move (v := xa) rfl) ?_
      refine WL_val (dd := some 26) rfl rfl rfl (r_move (v := .int .i64 _) rfl) ?_
      refine WL_call (dd := some 27) rfl rfl rfl (r_call3 tb_c36 (v0 := xa) rfl (v1 := .int .i64 _) rfl (v2 := .bool false) rfl) (C_drawkniferef12_Side _ _ _ _ _ (Below.slT hB ha) (by omega)) (fun v5_2 W34 hE35 hP5_2 => ?_)
      have hlt36 := OwT.lt2 hP3_1
      have hlt37 := OwT.lt2 hP3_3
      have hsz38 := (Below.size hB)
      replace hB := below_ext hB hE35 (Nat.le_refl _)
      replace hP3_1 := hE35.ow hP3_1
      replace hP3_3 := hE35.ow hP3_3
      clear hE35
      have hap39 := Apart.new hlt36 hP5_2
      have hap40 := Apart.new hlt37 hP5_2
      replace hP5_2 := OwT.mono hP5_2 hsz38
      clear hsz38
      refine WL_val (dd := some 28) rfl rfl rfl (r_move (v := xa) rfl) ?_
      refine WL_val (dd := some 29) rfl rfl rfl (r_move (v := .int .i64 _) rfl) ?_
      refine WL_call (dd := some 30) rfl rfl rfl (r_call3 tb_c36 (v0 := xa) rfl (v1 := .int .i64 _) rfl (v2 := .bool true) rfl) (C_drawkniferef12_Side _ _ _ _ _ (Below.slT hB ha) (by omega)) (fun v5_5 W41 hE42 hP5_5 => ?_)
      have hlt43 := OwT.lt2 hP3_1
      have hlt44 := OwT.lt2 hP3_3
      have hlt45 := OwT.lt2 hP5_2
      have hsz46 := (Below.size hB)
      replace hB := below_ext hB hE42 (Nat.le_refl _)
      replace hP3_1 := hE42.ow hP3_1
      replace hP3_3 := hE42.ow hP3_3
      replace hP5_2 := hE42.ow hP5_2
      clear hE42
      have hap47 := Apart.new hlt43 hP5_5
      have hap48 := Apart.new hlt44 hP5_5
      have hap49 := Apart.new hlt45 hP5_5
      replace hP5_5 := OwT.mono hP5_5 hsz46
      clear hsz46
      refine WL_val (dd := some 31) rfl rfl rfl (r_move (v := xb) rfl) ?_
      refine WL_val (dd := some 32) rfl rfl rfl (r_move (v := .int .i64 _) rfl) ?_
      refine WL_call (dd := some 33) rfl rfl rfl (r_call3 tb_c36 (v0 := xb) rfl (v1 := .int .i64 _) rfl (v2 := .bool false) rfl) (C_drawkniferef12_Side _ _ _ _ _ (Below.slT hB hb) (by omega)) (fun v5_8 W50 hE51 hP5_8 => ?_)
      have hlt52 := OwT.lt2 hP3_1
      have hlt53 := OwT.lt2 hP3_3
      have hlt54 := OwT.lt2 hP5_2
      have hlt55 := OwT.lt2 hP5_5
      have hsz56 := (Below.size hB)
      replace hB := below_ext hB hE51 (Nat.le_refl _)
      replace hP3_1 := hE51.ow hP3_1
      replace hP3_3 := hE51.ow hP3_3
      replace hP5_2 := hE51.ow hP5_2
      replace hP5_5 := hE51.ow hP5_5
      clear hE51
      have hap57 := Apart.new hlt52 hP5_8
      have hap58 := Apart.new hlt53 hP5_8
      have hap59 := Apart.new hlt54 hP5_8
      have hap60 := Apart.new hlt55 hP5_8
      replace hP5_8 := OwT.mono hP5_8 hsz56
      clear hsz56
      refine WL_val (dd := some 34) rfl rfl rfl (r_move (v := xb) rfl) ?_
      refine WL_val (dd := some 35) rfl rfl rfl (r_move (v := .int .i64 _) rfl) ?_
      refine WL_call (dd := some 36) rfl rfl rfl (r_call3 tb_c36 (v0 := xb) rfl (v1 := .int .i64 _) rfl (v2 := .bool true) rfl) (C_drawkniferef12_Side _ _ _ _ _ (Below.slT hB hb) (by omega)) (fun v5_11 W61 hE62 hP5_11 => ?_)
      have hlt63 := OwT.lt2 hP3_1
      have hlt64 := OwT.lt2 hP3_3
      have hlt65 := OwT.lt2 hP5_2
      have hlt66 := OwT.lt2 hP5_5
      have hlt67 := OwT.lt2 hP5_8
      have hsz68 := (Below.size hB)
      replace hB := below_ext hB hE62 (Nat.le_refl _)
      replace hP3_1 := hE62.ow hP3_1
      replace hP3_3 := hE62.ow hP3_3
      replace hP5_2 := hE62.ow hP5_2
      replace hP5_5 := hE62.ow hP5_5
      replace hP5_8 := hE62.ow hP5_8
      clear hE62
      have hap69 := Apart.new hlt63 hP5_11
      have hap70 := Apart.new hlt64 hP5_11
      have hap71 := Apart.new hlt65 hP5_11
      have hap72 := Apart.new hlt66 hP5_11
      have hap73 := Apart.new hlt67 hP5_11
      replace hP5_11 := OwT.mono hP5_11 hsz68
      clear hsz68
      refine WL_val (dd := some 9) rfl rfl rfl (r_assign (v := v5_2) rfl) ?_
      refine WL_val (dd := some 10) rfl rfl rfl (r_assign (v := v5_5) rfl) ?_
      refine WL_val (dd := some 11) rfl rfl rfl (r_assign (v := v5_8) rfl) ?_
      refine WL_val (dd := some 12) rfl rfl rfl (r_assign (v := v5_11) rfl) ?_
      refine WL_nil ?_
      refine hK33 _ _ ?_
      clear hK33 K32
      refine WC_seq (fun K74 hK75 => ?_)
      refine WC_region ?_
      refine WL_val (dd := some 37) rfl rfl rfl (r_move (v := v5_2) rfl) ?_
      refine WL_val (dd := some 38) rfl rfl rfl (r_move (v := v5_11) rfl) ?_
      refine WL_call (dd := some 39) rfl rfl rfl (r_call2 tb_c99 (v0 := v5_2) rfl (v1 := v5_11) rfl) (C_drawkniferef12_less _ _ _ _ _ hP5_2.sl hP5_11.sl) (fun v6_2 W76 hE77 hP6_2 => ?_)
      have hlt78 := OwT.lt2 hP3_1
      have hlt79 := OwT.lt2 hP3_3
      have hlt80 := OwT.lt2 hP5_2
      have hlt81 := OwT.lt2 hP5_5
      have hlt82 := OwT.lt2 hP5_8
      have hlt83 := OwT.lt2 hP5_11
      have hsz84 := (Below.size hB)
      replace hB := below_ext hB hE77 (Nat.le_refl _)
      replace hP3_1 := hE77.ow hP3_1
      replace hP3_3 := hE77.ow hP3_3
      replace hP5_2 := hE77.ow hP5_2
      replace hP5_5 := hE77.ow hP5_5
      replace hP5_8 := hE77.ow hP5_8
      replace hP5_11 := hE77.ow hP5_11
      clear hE77
      have hap85 := Apart.new hlt78 hP6_2
      have hap86 := Apart.new hlt79 hP6_2
      have hap87 := Apart.new hlt80 hP6_2
      have hap88 := Apart.new hlt81 hP6_2
      have hap89 := Apart.new hlt82 hP6_2
      have hap90 := Apart.new hlt83 hP6_2
      replace hP6_2 := OwT.mono hP6_2 hsz84
      clear hsz84
      refine WL_val (dd := some 40) rfl rfl rfl (r_move (v := v5_8) rfl) ?_
      refine WL_val (dd := some 41) rfl rfl rfl (r_move (v := .int .i64 _) rfl) ?_
      refine WL_val (dd := some 42) rfl rfl rfl (r_move (v := .int .i64 _) rfl) ?_
      refine WL_val (dd := some 43) rfl rfl rfl (r_addI rfl rfl (by omega) (by omega)) ?_
      refine WL_call (dd := some 44) rfl rfl rfl (r_call4 tb_c40 (v0 := v6_2) rfl (v1 := v5_8) rfl (v2 := .int .i64 _) rfl (v3 := .int .i64 _) rfl) (hih _ _ _ _ (i + 1) _ hP6_2.sl hP5_8.sl h8 (hg.side h8 hi false) hf1 (Nat.le_trans (Nat.le_succ f) hf9)) (fun v6_7 W91 hE92 hP6_7 => ?_)
      have hsz93 := (Below.size hB)
      replace hB := below_ext hB hE92 (Nat.le_refl _)
      replace hP3_1 := hE92.ow hP3_1
      replace hP3_3 := hE92.ow hP3_3
      replace hP5_2 := hE92.ow hP5_2
      replace hP5_5 := hE92.ow hP5_5
      replace hP5_8 := hE92.ow hP5_8
      replace hP5_11 := hE92.ow hP5_11
      replace hP6_2 := hE92.ow hP6_2
      clear hE92
      replace hP6_7 := OwT.mono hP6_7 hsz93
      clear hsz93
      refine WL_val (dd := some 13) rfl rfl rfl (r_assign (v := v6_7) rfl) ?_
      refine WL_nil ?_
      refine hK75 _ _ ?_
      clear hK75 K74
      refine WC_seq (fun K94 hK95 => ?_)
      refine WC_region ?_
      refine WL_val (dd := some 45) rfl rfl rfl (r_move (v := v5_5) rfl) ?_
      refine WL_val (dd := some 46) rfl rfl rfl (r_move (v := v5_8) rfl) ?_
      refine WL_call (dd := some 47) rfl rfl rfl (r_call2 tb_c99 (v0 := v5_5) rfl (v1 := v5_8) rfl) (C_drawkniferef12_less _ _ _ _ _ hP5_5.sl hP5_8.sl) (fun v7_2 W96 hE97 hP7_2 => ?_)
      have hlt98 := OwT.lt2 hP3_1
      have hlt99 := OwT.lt2 hP3_3
      have hlt100 := OwT.lt2 hP5_2
      have hlt101 := OwT.lt2 hP5_5
      have hlt102 := OwT.lt2 hP5_8
      have hlt103 := OwT.lt2 hP5_11
      have hlt104 := OwT.lt2 hP6_2
      have hsz105 := (Below.size hB)
      replace hB := below_ext hB hE97 (Nat.le_refl _)
      replace hP3_1 := hE97.ow hP3_1
      replace hP3_3 := hE97.ow hP3_3
      replace hP5_2 := hE97.ow hP5_2
      replace hP5_5 := hE97.ow hP5_5
      replace hP5_8 := hE97.ow hP5_8
      replace hP5_11 := hE97.ow hP5_11
      replace hP6_2 := hE97.ow hP6_2
      replace hP6_7 := hE97.ow hP6_7
      clear hE97
      have hap106 := Apart.new hlt98 hP7_2
      have hap107 := Apart.new hlt99 hP7_2
      have hap108 := Apart.new hlt100 hP7_2
      have hap109 := Apart.new hlt101 hP7_2
      have hap110 := Apart.new hlt102 hP7_2
      have hap111 := Apart.new hlt103 hP7_2
      have hap112 := Apart.new hlt104 hP7_2
      replace hP7_2 := OwT.mono hP7_2 hsz105
      clear hsz105
      refine WL_val (dd := some 48) rfl rfl rfl (r_move (v := v5_11) rfl) ?_
      refine WL_val (dd := some 49) rfl rfl rfl (r_move (v := .int .i64 _) rfl) ?_
      refine WL_val (dd := some 50) rfl rfl rfl (r_move (v := .int .i64 _) rfl) ?_
      refine WL_val (dd := some 51) rfl rfl rfl (r_addI rfl rfl (by omega) (by omega)) ?_
      refine WL_call (dd := some 52) rfl rfl rfl (r_call4 tb_c40 (v0 := v7_2) rfl (v1 := v5_11) rfl (v2 := .int .i64 _) rfl (v3 := .int .i64 _) rfl) (hih _ _ _ _ (i + 1) _ hP7_2.sl hP5_11.sl h8 (hg.side h8 hi true) hf1 (Nat.le_trans (Nat.le_succ f) hf9)) (fun v7_7 W113 hE114 hP7_7 => ?_)
      have hlt115 := OwT.lt2 hP6_7
      have hsz116 := (Below.size hB)
      replace hB := below_ext hB hE114 (Nat.le_refl _)
      replace hP3_1 := hE114.ow hP3_1
      replace hP3_3 := hE114.ow hP3_3
      replace hP5_2 := hE114.ow hP5_2
      replace hP5_5 := hE114.ow hP5_5
      replace hP5_8 := hE114.ow hP5_8
      replace hP5_11 := hE114.ow hP5_11
      replace hP6_2 := hE114.ow hP6_2
      replace hP6_7 := hE114.ow hP6_7
      replace hP7_2 := hE114.ow hP7_2
      clear hE114
      have hap117 := Apart.new hlt115 hP7_7
      replace hP7_7 := OwT.mono hP7_7 hsz116
      clear hsz116
      refine WL_val (dd := some 14) rfl rfl rfl (r_assign (v := v7_7) rfl) ?_
      refine WL_nil ?_
      refine hK95 _ _ ?_
      clear hK95 K94
      refine WC_seq (fun K118 hK119 => ?_)
      refine WC_region ?_
      refine WL_val (dd := some 53) rfl rfl rfl (r_move (v := v5_2) rfl) ?_
      refine WL_val (dd := some 54) rfl rfl rfl (r_move (v := v6_7) rfl) ?_
      refine WL_val (dd := some 55) rfl rfl rfl (r_move (v := .int .i64 _) rfl) ?_
      refine WL_call (dd := some 56) rfl rfl rfl (r_call2 tb_c102 (v0 := v6_7) rfl (v1 := .int .i64 _) rfl) (C_drawkniferef12_held _ _ n _ hP6_7.sl h8 (fun c hc => ⟨(hca.1 c hc).1, (hca.1 c hc).2.1⟩) (by omega)) (fun v8_3 W120 hE121 hP8_3 => ?_)
      have hlt122 := OwT.lt2 hP3_1
      have hlt123 := OwT.lt2 hP3_3
      have hlt124 := OwT.lt2 hP5_2
      have hlt125 := OwT.lt2 hP5_5
      have hlt126 := OwT.lt2 hP5_8
      have hlt127 := OwT.lt2 hP5_11
      have hlt128 := OwT.lt2 hP6_2
      have hlt129 := OwT.lt2 hP7_2
      have hsz130 := (Below.size hB)
      replace hB := below_ext hB hE121 (Nat.le_refl _)
      replace hP3_1 := hE121.ow hP3_1
      replace hP3_3 := hE121.ow hP3_3
      replace hP5_2 := hE121.ow hP5_2
      replace hP5_5 := hE121.ow hP5_5
      replace hP5_8 := hE121.ow hP5_8
      replace hP5_11 := hE121.ow hP5_11
      replace hP6_2 := hE121.ow hP6_2
      replace hP6_7 := hE121.ow hP6_7
      replace hP7_2 := hE121.ow hP7_2
      replace hP7_7 := hE121.ow hP7_7
      clear hE121
      have hap131 := Apart.new hlt122 hP8_3
      have hap132 := Apart.new hlt123 hP8_3
      have hap133 := Apart.new hlt124 hP8_3
      have hap134 := Apart.new hlt125 hP8_3
      have hap135 := Apart.new hlt126 hP8_3
      have hap136 := Apart.new hlt127 hP8_3
      have hap137 := Apart.new hlt128 hP8_3
      have hap138 := Apart.new hlt129 hP8_3
      replace hP8_3 := OwT.mono hP8_3 hsz130
      clear hsz130
      refine WL_call (dd := some 57) rfl rfl rfl (r_call2 tb_c99 (v0 := v5_2) rfl (v1 := v8_3) rfl) (C_drawkniferef12_less _ _ _ _ _ hP5_2.sl hP8_3.sl) (fun v8_4 W139 hE140 hP8_4 => ?_)
      have hlt141 := OwT.lt2 hP3_1
      have hlt142 := OwT.lt2 hP3_3
      have hlt143 := OwT.lt2 hP5_2
      have hlt144 := OwT.lt2 hP5_5
      have hlt145 := OwT.lt2 hP5_8
      have hlt146 := OwT.lt2 hP5_11
      have hlt147 := OwT.lt2 hP6_2
      have hlt148 := OwT.lt2 hP7_2
      have hlt149 := OwT.lt2 hP8_3
      have hsz150 := (Below.size hB)
      replace hB := below_ext hB hE140 (Nat.le_refl _)
      replace hP3_1 := hE140.ow hP3_1
      replace hP3_3 := hE140.ow hP3_3
      replace hP5_2 := hE140.ow hP5_2
      replace hP5_5 := hE140.ow hP5_5
      replace hP5_8 := hE140.ow hP5_8
      replace hP5_11 := hE140.ow hP5_11
      replace hP6_2 := hE140.ow hP6_2
      replace hP6_7 := hE140.ow hP6_7
      replace hP7_2 := hE140.ow hP7_2
      replace hP7_7 := hE140.ow hP7_7
      replace hP8_3 := hE140.ow hP8_3
      clear hE140
      have hap151 := Apart.new hlt141 hP8_4
      have hap152 := Apart.new hlt142 hP8_4
      have hap153 := Apart.new hlt143 hP8_4
      have hap154 := Apart.new hlt144 hP8_4
      have hap155 := Apart.new hlt145 hP8_4
      have hap156 := Apart.new hlt146 hP8_4
      have hap157 := Apart.new hlt147 hP8_4
      have hap158 := Apart.new hlt148 hP8_4
      have hap159 := Apart.new hlt149 hP8_4
      replace hP8_4 := OwT.mono hP8_4 hsz150
      clear hsz150
      refine WL_val (dd := some 58) rfl rfl rfl (r_move (v := v5_5) rfl) ?_
      refine WL_val (dd := some 59) rfl rfl rfl (r_move (v := v7_7) rfl) ?_
      refine WL_val (dd := some 60) rfl rfl rfl (r_move (v := .int .i64 _) rfl) ?_
      refine WL_call (dd := some 61) rfl rfl rfl (r_call2 tb_c102 (v0 := v7_7) rfl (v1 := .int .i64 _) rfl) (C_drawkniferef12_held _ _ n _ hP7_7.sl h8 (fun c hc => ⟨(hcb.1 c hc).1, (hcb.1 c hc).2.1⟩) (by omega)) (fun v8_8 W160 hE161 hP8_8 => ?_)
      have hlt162 := OwT.lt2 hP3_1
      have hlt163 := OwT.lt2 hP3_3
      have hlt164 := OwT.lt2 hP5_2
      have hlt165 := OwT.lt2 hP5_5
      have hlt166 := OwT.lt2 hP5_8
      have hlt167 := OwT.lt2 hP5_11
      have hlt168 := OwT.lt2 hP6_2
      have hlt169 := OwT.lt2 hP7_2
      have hlt170 := OwT.lt2 hP8_3
      have hlt171 := OwT.lt2 hP8_4
      have hsz172 := (Below.size hB)
      replace hB := below_ext hB hE161 (Nat.le_refl _)
      replace hP3_1 := hE161.ow hP3_1
      replace hP3_3 := hE161.ow hP3_3
      replace hP5_2 := hE161.ow hP5_2
      replace hP5_5 := hE161.ow hP5_5
      replace hP5_8 := hE161.ow hP5_8
      replace hP5_11 := hE161.ow hP5_11
      replace hP6_2 := hE161.ow hP6_2
      replace hP6_7 := hE161.ow hP6_7
      replace hP7_2 := hE161.ow hP7_2
      replace hP7_7 := hE161.ow hP7_7
      replace hP8_3 := hE161.ow hP8_3
      replace hP8_4 := hE161.ow hP8_4
      clear hE161
      have hap173 := Apart.new hlt162 hP8_8
      have hap174 := Apart.new hlt163 hP8_8
      have hap175 := Apart.new hlt164 hP8_8
      have hap176 := Apart.new hlt165 hP8_8
      have hap177 := Apart.new hlt166 hP8_8
      have hap178 := Apart.new hlt167 hP8_8
      have hap179 := Apart.new hlt168 hP8_8
      have hap180 := Apart.new hlt169 hP8_8
      have hap181 := Apart.new hlt170 hP8_8
      have hap182 := Apart.new hlt171 hP8_8
      replace hP8_8 := OwT.mono hP8_8 hsz172
      clear hsz172
      refine WL_call (dd := some 62) rfl rfl rfl (r_call2 tb_c99 (v0 := v5_5) rfl (v1 := v8_8) rfl) (C_drawkniferef12_less _ _ _ _ _ hP5_5.sl hP8_8.sl) (fun v8_9 W183 hE184 hP8_9 => ?_)
      have hlt185 := OwT.lt2 hP3_1
      have hlt186 := OwT.lt2 hP3_3
      have hlt187 := OwT.lt2 hP5_2
      have hlt188 := OwT.lt2 hP5_5
      have hlt189 := OwT.lt2 hP5_8
      have hlt190 := OwT.lt2 hP5_11
      have hlt191 := OwT.lt2 hP6_2
      have hlt192 := OwT.lt2 hP7_2
      have hlt193 := OwT.lt2 hP8_3
      have hlt194 := OwT.lt2 hP8_4
      have hlt195 := OwT.lt2 hP8_8
      have hsz196 := (Below.size hB)
      replace hB := below_ext hB hE184 (Nat.le_refl _)
      replace hP3_1 := hE184.ow hP3_1
      replace hP3_3 := hE184.ow hP3_3
      replace hP5_2 := hE184.ow hP5_2
      replace hP5_5 := hE184.ow hP5_5
      replace hP5_8 := hE184.ow hP5_8
      replace hP5_11 := hE184.ow hP5_11
      replace hP6_2 := hE184.ow hP6_2
      replace hP6_7 := hE184.ow hP6_7
      replace hP7_2 := hE184.ow hP7_2
      replace hP7_7 := hE184.ow hP7_7
      replace hP8_3 := hE184.ow hP8_3
      replace hP8_4 := hE184.ow hP8_4
      replace hP8_8 := hE184.ow hP8_8
      clear hE184
      have hap197 := Apart.new hlt185 hP8_9
      have hap198 := Apart.new hlt186 hP8_9
      have hap199 := Apart.new hlt187 hP8_9
      have hap200 := Apart.new hlt188 hP8_9
      have hap201 := Apart.new hlt189 hP8_9
      have hap202 := Apart.new hlt190 hP8_9
      have hap203 := Apart.new hlt191 hP8_9
      have hap204 := Apart.new hlt192 hP8_9
      have hap205 := Apart.new hlt193 hP8_9
      have hap206 := Apart.new hlt194 hP8_9
      have hap207 := Apart.new hlt195 hP8_9
      replace hP8_9 := OwT.mono hP8_9 hsz196
      clear hsz196
      refine WL_call (dd := some 63) rfl rfl rfl (r_call2 tb_c101 (v0 := v8_4) rfl (v1 := v8_9) rfl) (C_drawkniferef12_either _ _ _ _ _ hP8_4.sl hP8_9.sl) (fun v8_10 W208 hE209 hP8_10 => ?_)
      have hlt210 := OwT.lt2 hP3_1
      have hlt211 := OwT.lt2 hP3_3
      have hlt212 := OwT.lt2 hP5_2
      have hlt213 := OwT.lt2 hP5_5
      have hlt214 := OwT.lt2 hP5_8
      have hlt215 := OwT.lt2 hP5_11
      have hlt216 := OwT.lt2 hP6_2
      have hlt217 := OwT.lt2 hP7_2
      have hlt218 := OwT.lt2 hP8_3
      have hlt219 := OwT.lt2 hP8_4
      have hlt220 := OwT.lt2 hP8_8
      have hlt221 := OwT.lt2 hP8_9
      have hsz222 := (Below.size hB)
      replace hB := below_ext hB hE209 (Nat.le_refl _)
      replace hP3_1 := hE209.ow hP3_1
      replace hP3_3 := hE209.ow hP3_3
      replace hP5_2 := hE209.ow hP5_2
      replace hP5_5 := hE209.ow hP5_5
      replace hP5_8 := hE209.ow hP5_8
      replace hP5_11 := hE209.ow hP5_11
      replace hP6_2 := hE209.ow hP6_2
      replace hP6_7 := hE209.ow hP6_7
      replace hP7_2 := hE209.ow hP7_2
      replace hP7_7 := hE209.ow hP7_7
      replace hP8_3 := hE209.ow hP8_3
      replace hP8_4 := hE209.ow hP8_4
      replace hP8_8 := hE209.ow hP8_8
      replace hP8_9 := hE209.ow hP8_9
      clear hE209
      have hap223 := Apart.new hlt210 hP8_10
      have hap224 := Apart.new hlt211 hP8_10
      have hap225 := Apart.new hlt212 hP8_10
      have hap226 := Apart.new hlt213 hP8_10
      have hap227 := Apart.new hlt214 hP8_10
      have hap228 := Apart.new hlt215 hP8_10
      have hap229 := Apart.new hlt216 hP8_10
      have hap230 := Apart.new hlt217 hP8_10
      have hap231 := Apart.new hlt218 hP8_10
      have hap232 := Apart.new hlt219 hP8_10
      have hap233 := Apart.new hlt220 hP8_10
      have hap234 := Apart.new hlt221 hP8_10
      replace hP8_10 := OwT.mono hP8_10 hsz222
      clear hsz222
      refine WL_val (dd := some 64) rfl rfl rfl (r_move (v := v5_8) rfl) ?_
      refine WL_val (dd := some 65) rfl rfl rfl (r_move (v := v5_11) rfl) ?_
      refine WL_call (dd := some 66) rfl rfl rfl (r_call2 tb_c103 (v0 := v5_8) rfl (v1 := v5_11) rfl) (C_drawkniferef12_both _ _ _ _ _ hP5_8.sl hP5_11.sl) (fun v8_13 W235 hE236 hP8_13 => ?_)
      have hlt237 := OwT.lt2 hP3_1
      have hlt238 := OwT.lt2 hP3_3
      have hlt239 := OwT.lt2 hP5_2
      have hlt240 := OwT.lt2 hP5_5
      have hlt241 := OwT.lt2 hP5_8
      have hlt242 := OwT.lt2 hP5_11
      have hlt243 := OwT.lt2 hP6_2
      have hlt244 := OwT.lt2 hP7_2
      have hlt245 := OwT.lt2 hP8_3
      have hlt246 := OwT.lt2 hP8_4
      have hlt247 := OwT.lt2 hP8_8
      have hlt248 := OwT.lt2 hP8_9
      have hlt249 := OwT.lt2 hP8_10
      have hsz250 := (Below.size hB)
      replace hB := below_ext hB hE236 (Nat.le_refl _)
      replace hP3_1 := hE236.ow hP3_1
      replace hP3_3 := hE236.ow hP3_3
      replace hP5_2 := hE236.ow hP5_2
      replace hP5_5 := hE236.ow hP5_5
      replace hP5_8 := hE236.ow hP5_8
      replace hP5_11 := hE236.ow hP5_11
      replace hP6_2 := hE236.ow hP6_2
      replace hP6_7 := hE236.ow hP6_7
      replace hP7_2 := hE236.ow hP7_2
      replace hP7_7 := hE236.ow hP7_7
      replace hP8_3 := hE236.ow hP8_3
      replace hP8_4 := hE236.ow hP8_4
      replace hP8_8 := hE236.ow hP8_8
      replace hP8_9 := hE236.ow hP8_9
      replace hP8_10 := hE236.ow hP8_10
      clear hE236
      have hap251 := Apart.new hlt237 hP8_13
      have hap252 := Apart.new hlt238 hP8_13
      have hap253 := Apart.new hlt239 hP8_13
      have hap254 := Apart.new hlt240 hP8_13
      have hap255 := Apart.new hlt241 hP8_13
      have hap256 := Apart.new hlt242 hP8_13
      have hap257 := Apart.new hlt243 hP8_13
      have hap258 := Apart.new hlt244 hP8_13
      have hap259 := Apart.new hlt245 hP8_13
      have hap260 := Apart.new hlt246 hP8_13
      have hap261 := Apart.new hlt247 hP8_13
      have hap262 := Apart.new hlt248 hP8_13
      have hap263 := Apart.new hlt249 hP8_13
      replace hP8_13 := OwT.mono hP8_13 hsz250
      clear hsz250
      refine WL_val (dd := some 67) rfl rfl rfl (r_move (v := .int .i64 _) rfl) ?_
      refine WL_val (dd := some 68) rfl rfl rfl (r_move (v := .int .i64 _) rfl) ?_
      refine WL_val (dd := some 69) rfl rfl rfl (r_addI rfl rfl (by omega) (by omega)) ?_
      refine WL_call (dd := some 70) rfl rfl rfl (r_call4 tb_c40 (v0 := v8_10) rfl (v1 := v8_13) rfl (v2 := .int .i64 _) rfl (v3 := .int .i64 _) rfl) (hih _ _ _ _ (i + 1) _ hP8_10.sl hP8_13.sl h8 hgr2 hf1 (Nat.le_trans (Nat.le_succ f) hf9)) (fun v8_17 W264 hE265 hP8_17 => ?_)
      have hlt266 := OwT.lt2 hP6_7
      have hlt267 := OwT.lt2 hP7_7
      have hsz268 := (Below.size hB)
      replace hB := below_ext hB hE265 (Nat.le_refl _)
      replace hP3_1 := hE265.ow hP3_1
      replace hP3_3 := hE265.ow hP3_3
      replace hP5_2 := hE265.ow hP5_2
      replace hP5_5 := hE265.ow hP5_5
      replace hP5_8 := hE265.ow hP5_8
      replace hP5_11 := hE265.ow hP5_11
      replace hP6_2 := hE265.ow hP6_2
      replace hP6_7 := hE265.ow hP6_7
      replace hP7_2 := hE265.ow hP7_2
      replace hP7_7 := hE265.ow hP7_7
      replace hP8_3 := hE265.ow hP8_3
      replace hP8_4 := hE265.ow hP8_4
      replace hP8_8 := hE265.ow hP8_8
      replace hP8_9 := hE265.ow hP8_9
      replace hP8_10 := hE265.ow hP8_10
      replace hP8_13 := hE265.ow hP8_13
      clear hE265
      have hap269 := Apart.new hlt266 hP8_17
      have hap270 := Apart.new hlt267 hP8_17
      replace hP8_17 := OwT.mono hP8_17 hsz268
      clear hsz268
      refine WL_val (dd := some 15) rfl rfl rfl (r_assign (v := v8_17) rfl) ?_
      refine WL_nil ?_
      refine hK119 _ _ ?_
      clear hK119 K118
      refine WC_seq (fun K271 hK272 => ?_)
      refine WC_region ?_
      refine WL_val (dd := some 71) rfl rfl rfl (r_move (v := v6_7) rfl) ?_
      refine WL_val (dd := some 72) rfl rfl rfl (r_move (v := .int .i64 _) rfl) ?_
      refine WL_call (dd := some 73) rfl rfl rfl (r_call3 tb_c104 (v0 := v6_7) rfl (v1 := .int .i64 _) rfl (v2 := .int .i64 0) rfl) (C_drawkniferef12_with _ _ i 0 _ hP6_7.sl hi8 (by decide) (fun c hc => ⟨Nat.lt_of_lt_of_le (hca.1 c hc).1 hle256, (hca.1 c hc).2.1, (hca.1 c hc).2.2.1 i (Nat.lt_succ_self i)⟩) (by omega)) (fun v9_2 W273 hE274 hP9_2 => ?_)
      have hlt275 := OwT.lt2 hP6_7
      have hlt276 := OwT.lt2 hP7_7
      have hlt277 := OwT.lt2 hP8_17
      have hsz278 := (Below.size hB)
      replace hB := below_ext hB hE274 (Nat.le_refl _)
      replace hP3_1 := hE274.ow hP3_1
      replace hP3_3 := hE274.ow hP3_3
      replace hP5_2 := hE274.ow hP5_2
      replace hP5_5 := hE274.ow hP5_5
      replace hP5_8 := hE274.ow hP5_8
      replace hP5_11 := hE274.ow hP5_11
      replace hP6_2 := hE274.ow hP6_2
      replace hP6_7 := hE274.ow hP6_7
      replace hP7_2 := hE274.ow hP7_2
      replace hP7_7 := hE274.ow hP7_7
      replace hP8_3 := hE274.ow hP8_3
      replace hP8_4 := hE274.ow hP8_4
      replace hP8_8 := hE274.ow hP8_8
      replace hP8_9 := hE274.ow hP8_9
      replace hP8_10 := hE274.ow hP8_10
      replace hP8_13 := hE274.ow hP8_13
      replace hP8_17 := hE274.ow hP8_17
      clear hE274
      have hap279 := Apart.new hlt275 hP9_2
      have hap280 := Apart.new hlt276 hP9_2
      have hap281 := Apart.new hlt277 hP9_2
      replace hP9_2 := OwT.mono hP9_2 hsz278
      clear hsz278
      refine WL_val (dd := some 74) rfl rfl rfl (r_move (v := v7_7) rfl) ?_
      refine WL_val (dd := some 75) rfl rfl rfl (r_move (v := .int .i64 _) rfl) ?_
      refine WL_call (dd := some 76) rfl rfl rfl (r_call3 tb_c104 (v0 := v7_7) rfl (v1 := .int .i64 _) rfl (v2 := .int .i64 1) rfl) (C_drawkniferef12_with _ _ i 1 _ hP7_7.sl hi8 (by decide) (fun c hc => ⟨Nat.lt_of_lt_of_le (hcb.1 c hc).1 hle256, (hcb.1 c hc).2.1, (hcb.1 c hc).2.2.1 i (Nat.lt_succ_self i)⟩) (by omega)) (fun v9_5 W282 hE283 hP9_5 => ?_)
      have hlt284 := OwT.lt2 hP6_7
      have hlt285 := OwT.lt2 hP7_7
      have hlt286 := OwT.lt2 hP8_17
      have hlt287 := OwT.lt2 hP9_2
      have hsz288 := (Below.size hB)
      replace hB := below_ext hB hE283 (Nat.le_refl _)
      replace hP3_1 := hE283.ow hP3_1
      replace hP3_3 := hE283.ow hP3_3
      replace hP5_2 := hE283.ow hP5_2
      replace hP5_5 := hE283.ow hP5_5
      replace hP5_8 := hE283.ow hP5_8
      replace hP5_11 := hE283.ow hP5_11
      replace hP6_2 := hE283.ow hP6_2
      replace hP6_7 := hE283.ow hP6_7
      replace hP7_2 := hE283.ow hP7_2
      replace hP7_7 := hE283.ow hP7_7
      replace hP8_3 := hE283.ow hP8_3
      replace hP8_4 := hE283.ow hP8_4
      replace hP8_8 := hE283.ow hP8_8
      replace hP8_9 := hE283.ow hP8_9
      replace hP8_10 := hE283.ow hP8_10
      replace hP8_13 := hE283.ow hP8_13
      replace hP8_17 := hE283.ow hP8_17
      replace hP9_2 := hE283.ow hP9_2
      clear hE283
      have hap289 := Apart.new hlt284 hP9_5
      have hap290 := Apart.new hlt285 hP9_5
      have hap291 := Apart.new hlt286 hP9_5
      have hap292 := Apart.new hlt287 hP9_5
      replace hP9_5 := OwT.mono hP9_5 hsz288
      clear hsz288
      refine WL_step (dd := some 77) rfl rfl rfl (Y_appendA (v := v9_2) (v2 := v9_5) rfl rfl tb_el27 tb_zs34 (by decide) hP9_2 hP9_5.sl (enc_one_encC) (by have := Below.size hB; omega) (by simp only [List.length_map]; omega) (by simp only [List.length_map]; omega) (fun v9_6 W293 hG294 ho9_6 hob295 => ?_))
      have hap296 := Apart.app (Apart.symm hap279) hob295 hP6_7
      have hap297 := Apart.app (Apart.symm hap280) hob295 hP7_7
      have hap298 := Apart.app (Apart.symm hap281) hob295 hP8_17
      have hap299 := Apart.app hap292 hob295 hP9_5
      replace ho9_6 := OwT.app (enc := encC) rfl rfl rfl rfl ho9_6
      replace hB := below_grown hB hG294 (Nat.le_refl _) (fun j hj => (OwT.lt hP9_2 j hj))
      replace hP3_1 := OwT.grownOw hP3_1 hP9_2 hG294 (by decide)
      replace hP3_3 := OwT.grownOw hP3_3 hP9_2 hG294 (by decide)
      replace hP5_2 := OwT.grownOw hP5_2 hP9_2 hG294 (by decide)
      replace hP5_5 := OwT.grownOw hP5_5 hP9_2 hG294 (by decide)
      replace hP5_8 := OwT.grownOw hP5_8 hP9_2 hG294 (by decide)
      replace hP5_11 := OwT.grownOw hP5_11 hP9_2 hG294 (by decide)
      replace hP6_2 := OwT.grownOw hP6_2 hP9_2 hG294 (by decide)
      replace hP6_7 := OwT.grownAp hP6_7 (Apart.symm hap279) hG294
      replace hP7_2 := OwT.grownOw hP7_2 hP9_2 hG294 (by decide)
      replace hP7_7 := OwT.grownAp hP7_7 (Apart.symm hap280) hG294
      replace hP8_3 := OwT.grownOw hP8_3 hP9_2 hG294 (by decide)
      replace hP8_4 := OwT.grownOw hP8_4 hP9_2 hG294 (by decide)
      replace hP8_8 := OwT.grownOw hP8_8 hP9_2 hG294 (by decide)
      replace hP8_9 := OwT.grownOw hP8_9 hP9_2 hG294 (by decide)
      replace hP8_10 := OwT.grownOw hP8_10 hP9_2 hG294 (by decide)
      replace hP8_13 := OwT.grownOw hP8_13 hP9_2 hG294 (by decide)
      replace hP8_17 := OwT.grownAp hP8_17 (Apart.symm hap281) hG294
      replace hP9_5 := OwT.grownAp hP9_5 hap292 hG294
      clear hG294
      clear hP9_2
      refine WL_val (dd := some 78) rfl rfl rfl (r_move (v := v8_17) rfl) ?_
      refine WL_step (dd := some 79) rfl rfl rfl (Y_appendA (v := v9_6) (v2 := v8_17) rfl rfl tb_el27 tb_zs34 (by decide) ho9_6 hP8_17.sl (enc_one_encC) (by have := Below.size hB; omega) (by simp only [List.length_append, List.length_map]; unfold restS at hlc; rw [Nat.zero_or] at hlc; omega) (by simp only [List.length_append, List.length_map]; unfold restS at hlc; rw [Nat.zero_or] at hlc; omega) (fun v9_8 W300 hG301 ho9_8 hob302 => ?_))
      have hap303 := Apart.app hap296 hob302 hP6_7
      have hap304 := Apart.app hap297 hob302 hP7_7
      have hap305 := Apart.app hap298 hob302 hP8_17
      have hap306 := Apart.app hap299 hob302 hP9_5
      replace ho9_8 := OwT.app (enc := encC) rfl rfl rfl rfl ho9_8
      replace hB := below_grown hB hG301 (Nat.le_refl _) (fun j hj => (OwT.lt ho9_6 j hj))
      replace hP3_1 := OwT.grownOw hP3_1 ho9_6 hG301 (by decide)
      replace hP3_3 := OwT.grownOw hP3_3 ho9_6 hG301 (by decide)
      replace hP5_2 := OwT.grownOw hP5_2 ho9_6 hG301 (by decide)
      replace hP5_5 := OwT.grownOw hP5_5 ho9_6 hG301 (by decide)
      replace hP5_8 := OwT.grownOw hP5_8 ho9_6 hG301 (by decide)
      replace hP5_11 := OwT.grownOw hP5_11 ho9_6 hG301 (by decide)
      replace hP6_2 := OwT.grownOw hP6_2 ho9_6 hG301 (by decide)
      replace hP6_7 := OwT.grownAp hP6_7 hap296 hG301
      replace hP7_2 := OwT.grownOw hP7_2 ho9_6 hG301 (by decide)
      replace hP7_7 := OwT.grownAp hP7_7 hap297 hG301
      replace hP8_3 := OwT.grownOw hP8_3 ho9_6 hG301 (by decide)
      replace hP8_4 := OwT.grownOw hP8_4 ho9_6 hG301 (by decide)
      replace hP8_8 := OwT.grownOw hP8_8 ho9_6 hG301 (by decide)
      replace hP8_9 := OwT.grownOw hP8_9 ho9_6 hG301 (by decide)
      replace hP8_10 := OwT.grownOw hP8_10 ho9_6 hG301 (by decide)
      replace hP8_13 := OwT.grownOw hP8_13 ho9_6 hG301 (by decide)
      replace hP8_17 := OwT.grownAp hP8_17 hap298 hG301
      replace hP9_5 := OwT.grownAp hP9_5 hap299 hG301
      clear hG301
      clear ho9_6
      refine WL_val (dd := some 8) rfl rfl rfl (r_assign (v := v9_8) rfl) ?_
      refine WL_nil ?_
      refine hK272 _ _ ?_
      clear hK272 K271
      refine WC_ret ?_
      repeat (first | refine thenQ_ret ?_ | refine blockQ_ret ?_)
      refine ret_t (v := v9_8) rfl ?_
      refine ⟨hB, ?_⟩
      rw [coverL, if_neg h0, if_neg h1]
      dsimp only
      unfold restS
      rw [Nat.zero_or]
      exact ho9_8

end Go.Proofs.Ytdbcijijhhbkaaa
