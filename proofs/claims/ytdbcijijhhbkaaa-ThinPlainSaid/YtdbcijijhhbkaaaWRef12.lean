/-
  The walks of isop.Cover, isop.Grown, and of the document's cover.
-/
import Derived.Test.YtdbcijijhhbkaaaProg
import Derived.Test.YtdbcijijhhbkaaaWIsop
import Derived.Test.YtdbcijijhhbkaaaRef12
namespace Go.Proofs.Ytdbcijijhhbkaaa
set_option linter.unusedVariables false
set_option linter.unusedSimpArgs false
open Go Go.RowKit

theorem tb_c81 : callB Try.prog 81 = true := by kernel_rfl
theorem tb_z106 : zeroI Try.prog 106 = some (.agg #[.int .i64 0, .int .u64 0, .int .u64 0, .int .u64 0, .int .u64 0]) := by kernel_rfl
theorem tb_size3 : (Try.prog.info? 3).map (·.size) = some 1 := by kernel_rfl
theorem tb_size24 : (Try.prog.info? 24).map (·.size) = some 4 := by kernel_rfl
theorem tb_build106_0_1 {f : Nat → Value} {w : World} {d : Option Nat} {ty : TypeId} {ps : String} {af : Array Edge} {g : Option (Nat × Bool)} {x0 x1 : Operand} {c0_0 c1_0 c1_1 c1_2 c1_3 : Value} (h0 : evF f x0 = c0_0) (k0 : c0_0.cells = #[c0_0]) (h1 : evF f x1 = .agg #[c1_0, c1_1, c1_2, c1_3]) :
    (execOp (evF f) ⟨d, .build 106 #[(0, x0), (1, x1)], ty, ps, af, g⟩).run Try.prog w = .ok (.value (.agg #[c0_0, c1_0, c1_1, c1_2, c1_3])) w := by
  obtain ⟨i0, hi0, hz0⟩ := Option.bind_eq_some_iff.1 (show (Try.prog.info? 106).bind (·.zero) = _ from tb_z106)
  obtain ⟨j3, hj3, hs3⟩ := Option.map_eq_some_iff.1 tb_size3
  obtain ⟨j24, hj24, hs24⟩ := Option.map_eq_some_iff.1 tb_size24
  simp [execOp, h0, k0, h1, Instr.build, zeroValue, typeInfo, sizeOf, hi0, hz0, run_underlying Try.underlying106, Instr.fill, cells_agg, hj3, hs3, hj24, hs24]
theorem tb_c39 : callB Try.prog 39 = true := by kernel_rfl
theorem tb_c79 : callB Try.prog 79 = true := by kernel_rfl
theorem tb_mp93 : isMap Try.prog 93 = some (34, 4) := by kernel_rfl
theorem tb_key34 : KeyOk Try.prog 34 (fun v => ∃ a : Cb, v = keyC a) := by
  refine keyOk_of Try.underlying34 ?_ ?_ ?_ ?_
  · rintro w _ _ ⟨a, rfl⟩ ⟨c, rfl⟩
    have hg : Try.prog.eqGuardType Try.prog.depth 34 = false := by kernel_rfl
    exact ⟨_, equal_agg hg (tb_eq34 rfl rfl), by rw [decide_eq_true_eq]; constructor <;> intro h <;> simpa [keyC] using h⟩
  · rintro _ _ ⟨a, rfl⟩ ⟨c, rfl⟩
    exact .inl rfl
  · rintro w em _ ⟨a, rfl⟩
    have h2 : ∀ k, (Instr.checkKey em (k + 1 + 1 + 1) 34 (keyC a)).run Try.prog w = .ok () w := fun k => by
      simp [keyC, Instr.checkKey, part, isAgg, run_underlying Try.underlying34, run_underlying Try.underlying5]
    exact h2 9997
  · rintro _ ⟨a, rfl⟩
    simp [keyC, Instr.sameBits]

theorem C_cover (n : Nat) : ∀ (f : Nat), ∀ (on may i : Nat) (w : World), n ≤ 8 → Good n on may i → n + 1 - i ≤ f → f ≤ 9 → Fn Try.prog 97 #[.agg #[.int .i64 (n : Int), wv (allS n) 0, wv (allS n) 1, wv (allS n) 2, wv (allS n) 3], setV on, setV may, .int .i64 (i : Int)] w fun v w' => OwT encC 2 34 w' w.heap.size v (coverL n f on may i)
  | 0, on, may, i, w, _, hg, hf, _ => by have := hg.le; omega
  | f + 1, on, may, i, w, h8, hg, hf, hf9 => CS_cover n f i on may w (C_cover n f) h8 hg hf hf9

theorem C_isop_Cover (on may : Nat) (n : Int) (w : World) :
    Fn Try.prog 39 #[setV on, setV may, .int .i64 n] w fun v w' => if okB on may n = true then ∃ x, v = .tuple #[x, .int .i64 0] ∧ OwT encC 2 34 w' w.heap.size x (covL on may n) else v = .tuple #[.slice none 0 0, .int .i64 1] := by
 refine Fn_intro (n := 35) Try.func39 rfl rfl (Nat.le_of_ble_eq_true rfl) ?_
 have hB : Below w.heap.size w w := Below.refl _ _
 refine WC_seq (fun K1 hK2 => ?_)
 refine WC_region ?_
 refine WL_step (dd := some 3) rfl rfl rfl (Y_box (c := #[_, _, _, _]) rfl rfl (fun b0_0 W3 hb4 hE5 hm0_0 => ?_))
 have lo_b0_0 : w.heap.size ≤ b0_0 := hb4 ▸ (Below.size hB)
 clear hb4
 replace hB := below_ext hB hE5 (Nat.le_refl _)
 clear hE5
 refine WL_step (dd := some 4) rfl rfl rfl (Y_box (c := #[_, _, _, _]) rfl rfl (fun b0_1 W6 hb7 hE8 hm0_1 => ?_))
 have lo_b0_1 : w.heap.size ≤ b0_1 := hb7 ▸ (Below.size hB)
 have ne_b0_0_b0_1 : b0_0 ≠ b0_1 := Nat.ne_of_lt (hb7 ▸ hm0_0.lt)
 clear hb7
 replace hB := below_ext hB hE8 (Nat.le_refl _)
 replace hm0_0 := hE8.at hm0_0
 clear hE8
 refine WL_val (dd := some 6) rfl rfl rfl (r_assign (v := .slice none 0 0) rfl) ?_
 refine WL_val (dd := some 7) rfl rfl rfl (r_assign (v := .int .i64 0) rfl) ?_
 refine WL_nil ?_
 refine hK2 _ _ ?_
 clear hK2 K1
 refine WC_seq (fun K9 hK10 => ?_)
 refine WC_region ?_
 refine WL_val (dd := some 11) rfl rfl rfl (r_move (v := .int .i64 _) rfl) ?_
 refine WL_call (dd := some 12) rfl rfl rfl (r_call1 tb_c81 (v0 := .int .i64 _) rfl) (C_set_All _ _) (fun v1_1 W11 hE12 hP1_1 => ?_)
 have hsz13 := (Below.size hB)
 replace hB := below_ext hB hE12 (Nat.le_refl _)
 replace hm0_0 := hE12.at hm0_0
 replace hm0_1 := hE12.at hm0_1
 clear hE12
 obtain ⟨sa, er, rfl, hhP1_1⟩ := all_cases hP1_1
 clear hsz13
 refine WL_val (dd := some 10) rfl rfl rfl (r_move (v := .tuple #[.agg #[_, _, _, _], .int .i64 _]) rfl) ?_
 refine WL_val (dd := some 13) rfl rfl rfl (r_ext2_0 (h := rfl)) ?_
 refine WL_val (dd := some 14) rfl rfl rfl (r_ext2_1 (h := rfl)) ?_
 refine WL_step (dd := some 8) rfl rfl rfl (Y_alloc tb_z24 rfl (fun b1_5 W14 hb15 hE16 hm1_5 => ?_))
 have lo_b1_5 : w.heap.size ≤ b1_5 := hb15 ▸ (Below.size hB)
 have ne_b0_0_b1_5 : b0_0 ≠ b1_5 := Nat.ne_of_lt (hb15 ▸ hm0_0.lt)
 have ne_b0_1_b1_5 : b0_1 ≠ b1_5 := Nat.ne_of_lt (hb15 ▸ hm0_1.lt)
 clear hb15
 replace hB := below_ext hB hE16 (Nat.le_refl _)
 replace hm0_0 := hE16.at hm0_0
 replace hm0_1 := hE16.at hm0_1
 clear hE16
 replace hm1_5 : At W14 b1_5 #[wv 0 0, wv 0 1, wv 0 2, wv 0 3] 24 := hm1_5
 refine WL_step (dd := none) rfl rfl rfl (Y_storeW rfl rfl tb_ag24 rfl hm1_5 rfl (by rfl) (fun W17 hG18 hm19 => ?_))
 replace hB := below_grown hB hG18 (Nat.le_refl _) (fun j hj => by cases hj; exact lo_b1_5)
 replace hm0_0 := At.grownNe hm0_0 ne_b0_0_b1_5 hG18
 replace hm0_1 := At.grownNe hm0_1 ne_b0_1_b1_5 hG18
 clear hG18 hm1_5
 have hm1_5 := hm19
 clear hm19
 refine WL_val (dd := some 9) rfl rfl rfl (r_assign (v := .int .i64 _) rfl) ?_
 refine WL_nil ?_
 refine hK10 _ _ ?_
 clear hK10 K9
 refine WC_seq (fun K20 hK21 => ?_)
 refine WC_seq (fun K22 hK23 => ?_)
 refine WC_region ?_
 refine WL_val (dd := some 15) rfl rfl rfl (r_move (v := .int .i64 _) rfl) ?_
 refine WL_val (dd := some 16) rfl rfl rfl (r_neq rfl rfl) ?_
 refine WL_split (dd := some 17) rfl rfl rfl (r_move (v := .bool _) rfl) (fun hs2_2 => ?_) (fun hs2_2 => ?_)
 ·
  try with_reducible replace hs2_2 := of_decide_eq_true hs2_2
  refine WL_skip (dd := some 18) rfl rfl rfl ?_
  refine WL_skip (dd := some 19) rfl rfl rfl ?_
  refine WL_skip (dd := some 20) rfl rfl rfl ?_
  refine WL_skip (dd := some 21) rfl rfl rfl ?_
  refine WL_val (dd := some 22) rfl rfl rfl (r_pick_t rfl (v := .bool true) rfl) ?_
  refine WL_val (dd := some 23) rfl rfl rfl (r_move (v := .bool true) rfl) ?_
  refine WL_skip (dd := some 24) rfl rfl rfl ?_
  refine WL_skip (dd := some 25) rfl rfl rfl ?_
  refine WL_skip (dd := some 26) rfl rfl rfl ?_
  refine WL_skip (dd := some 27) rfl rfl rfl ?_
  refine WL_val (dd := some 28) rfl rfl rfl (r_pick_t rfl (v := .bool true) rfl) ?_
  refine WL_nil ?_
  refine hK23 _ _ ?_
  clear hK23 K22
  refine WC_cond_true rfl ?_
  refine WC_seq (fun K24 hK25 => ?_)
  refine WC_region ?_
  refine WL_val (dd := some 6) rfl rfl rfl (r_assign (v := .slice none 0 0) rfl) ?_
  refine WL_val (dd := some 7) rfl rfl rfl (r_assign (v := .int .i64 1) rfl) ?_
  refine WL_nil ?_
  refine hK25 _ _ ?_
  clear hK25 K24
  refine WC_ret ?_
  repeat (first | refine thenQ_ret ?_ | refine blockQ_ret ?_)
  try clear hK21 K20
  refine ret_tt (v := .slice none 0 0) rfl (v1 := .int .i64 1) rfl ?_
  refine ⟨hB, ?_⟩
  rw [if_neg (ok_not1 hhP1_1 hs2_2)]
 ·
  try with_reducible replace hs2_2 := of_decide_eq_false hs2_2
  refine WL_val (dd := some 18) rfl rfl rfl (r_loadW rfl tb_ag24 rfl hm0_0) ?_
  refine WL_val (dd := some 19) rfl rfl rfl (r_loadW rfl tb_ag24 rfl hm0_1) ?_
  refine WL_call (dd := some 20) rfl rfl rfl (r_call2 tb_c82 (v0 := .agg #[_, _, _, _]) rfl (v1 := .agg #[_, _, _, _]) rfl) (C_set_Within _ _ _) (fun v2_5 W26 hE27 hP2_5 => ?_)
  have hsz28 := (Below.size hB)
  replace hB := below_ext hB hE27 (Nat.le_refl _)
  replace hm0_0 := hE27.at hm0_0
  replace hm0_1 := hE27.at hm0_1
  replace hm1_5 := hE27.at hm1_5
  clear hE27
  clear hsz28
  obtain rfl := hP2_5
  refine WL_val (dd := some 21) rfl rfl rfl (r_not rfl) ?_
  refine WL_val (dd := some 22) rfl rfl rfl (r_pick_f rfl (v := .bool _) rfl) ?_
  refine WL_split (dd := some 23) rfl rfl rfl (r_move (v := .bool _) rfl) (fun hs2_8 => ?_) (fun hs2_8 => ?_)
  ·
   try with_reducible replace hs2_8 := of_decide_eq_true hs2_8
   refine WL_skip (dd := some 24) rfl rfl rfl ?_
   refine WL_skip (dd := some 25) rfl rfl rfl ?_
   refine WL_skip (dd := some 26) rfl rfl rfl ?_
   refine WL_skip (dd := some 27) rfl rfl rfl ?_
   refine WL_val (dd := some 28) rfl rfl rfl (r_pick_t rfl (v := .bool true) rfl) ?_
   refine WL_nil ?_
   refine hK23 _ _ ?_
   clear hK23 K22
   refine WC_cond_true rfl ?_
   refine WC_seq (fun K29 hK30 => ?_)
   refine WC_region ?_
   refine WL_val (dd := some 6) rfl rfl rfl (r_assign (v := .slice none 0 0) rfl) ?_
   refine WL_val (dd := some 7) rfl rfl rfl (r_assign (v := .int .i64 1) rfl) ?_
   refine WL_nil ?_
   refine hK30 _ _ ?_
   clear hK30 K29
   refine WC_ret ?_
   repeat (first | refine thenQ_ret ?_ | refine blockQ_ret ?_)
   try clear hK21 K20
   refine ret_tt (v := .slice none 0 0) rfl (v1 := .int .i64 1) rfl ?_
   refine ⟨hB, ?_⟩
   rw [if_neg (ok_not2 hs2_8)]
  ·
   try with_reducible replace hs2_8 := of_decide_eq_false hs2_8
   refine WL_val (dd := some 24) rfl rfl rfl (r_loadW rfl tb_ag24 rfl hm0_1) ?_
   refine WL_val (dd := some 25) rfl rfl rfl (r_loadW rfl tb_ag24 rfl hm1_5) ?_
   refine WL_call (dd := some 26) rfl rfl rfl (r_call2 tb_c82 (v0 := .agg #[_, _, _, _]) rfl (v1 := .agg #[_, _, _, _]) rfl) (C_set_Within _ _ _) (fun v2_11 W31 hE32 hP2_11 => ?_)
   have hsz33 := (Below.size hB)
   replace hB := below_ext hB hE32 (Nat.le_refl _)
   replace hm0_0 := hE32.at hm0_0
   replace hm0_1 := hE32.at hm0_1
   replace hm1_5 := hE32.at hm1_5
   clear hE32
   clear hsz33
   obtain rfl := hP2_11
   refine WL_val (dd := some 27) rfl rfl rfl (r_not rfl) ?_
   refine WL_val (dd := some 28) rfl rfl rfl (r_pick_f rfl (v := .bool _) rfl) ?_
   refine WL_nil ?_
   refine hK23 _ _ ?_
   clear hK23 K22
   refine WC_cond (b := _) rfl (fun hc0 => ?_) (fun hc0 => ?_)
   ·
    try with_reducible replace hc0 := of_decide_eq_true hc0
    refine WC_seq (fun K34 hK35 => ?_)
    refine WC_region ?_
    refine WL_val (dd := some 6) rfl rfl rfl (r_assign (v := .slice none 0 0) rfl) ?_
    refine WL_val (dd := some 7) rfl rfl rfl (r_assign (v := .int .i64 1) rfl) ?_
    refine WL_nil ?_
    refine hK35 _ _ ?_
    clear hK35 K34
    refine WC_ret ?_
    repeat (first | refine thenQ_ret ?_ | refine blockQ_ret ?_)
    try clear hK21 K20
    refine ret_tt (v := .slice none 0 0) rfl (v1 := .int .i64 1) rfl ?_
    refine ⟨hB, ?_⟩
    rw [if_neg (ok_not3 hhP1_1 hs2_2 hc0)]
   ·
    try with_reducible replace hc0 := of_decide_eq_false hc0
    refine WC_skip ?_
    refine hK21 _ _ ?_
    clear hK21 K20
    refine WC_seq (fun K36 hK37 => ?_)
    have hok : okB on may n = true := ok_yes hhP1_1 hs2_2 hs2_8 hc0
    obtain ⟨h0, h8, rfl, rfl⟩ := hhP1_1.resolve_right (fun h => h.1 (of_bounds (okB_iff.1 hok).1))
    obtain ⟨n, rfl⟩ := Int.eq_ofNat_of_zero_le h0
    obtain ⟨hok8, hok9⟩ := ok_good hok
    refine WC_region ?_
    refine WL_val (dd := some 29) rfl rfl rfl (r_move (v := .int .i64 _) rfl) ?_
    refine WL_val (dd := some 30) rfl rfl rfl (r_loadW rfl tb_ag24 rfl hm1_5) ?_
    refine WL_val (dd := some 31) rfl rfl rfl (tb_build106_0_1 (h0 := rfl) (k0 := rfl) (h1 := rfl) (c0_0 := .int .i64 _)) ?_
    refine WL_val (dd := some 32) rfl rfl rfl (r_loadW rfl tb_ag24 rfl hm0_0) ?_
    refine WL_val (dd := some 33) rfl rfl rfl (r_loadW rfl tb_ag24 rfl hm0_1) ?_
    refine WL_call (dd := some 34) rfl rfl rfl (r_call4 tb_c97 (v0 := .agg #[_, _, _, _, _]) rfl (v1 := .agg #[_, _, _, _]) rfl (v2 := .agg #[_, _, _, _]) rfl (v3 := .int .i64 0) rfl) (C_cover n (n + 1) on may 0 _ hok8 hok9 (by omega) (by omega)) (fun v4_5 W38 hE39 hP4_5 => ?_)
    have hsz40 := (Below.size hB)
    replace hB := below_ext hB hE39 (Nat.le_refl _)
    replace hm0_0 := hE39.at hm0_0
    replace hm0_1 := hE39.at hm0_1
    replace hm1_5 := hE39.at hm1_5
    clear hE39
    replace hP4_5 := OwT.mono hP4_5 hsz40
    clear hsz40
    refine WL_val (dd := some 6) rfl rfl rfl (r_assign (v := v4_5) rfl) ?_
    refine WL_val (dd := some 7) rfl rfl rfl (r_assign (v := .int .i64 0) rfl) ?_
    refine WL_nil ?_
    refine hK37 _ _ ?_
    clear hK37 K36
    refine WC_ret ?_
    repeat (first | refine thenQ_ret ?_ | refine blockQ_ret ?_)
    refine ret_tt (v := v4_5) rfl (v1 := .int .i64 0) rfl ?_
    refine ⟨hB, ?_⟩
    rw [if_pos hok]
    exact ⟨_, rfl, hP4_5⟩

theorem C_isop_Grown (on may : Nat) (n : Int) (w : World) :
    Fn Try.prog 43 #[setV on, setV may, .int .i64 n] w fun v w' => if okB on may n = true then ∃ x, v = .tuple #[x, .int .i64 0] ∧ OwT encC 2 34 w' w.heap.size x (grownL may n (covL on may n)) else v = .tuple #[.slice none 0 0, .int .i64 1] := by
 refine Fn_intro (n := 52) Try.func43 rfl rfl (Nat.le_of_ble_eq_true rfl) ?_
 have hB : Below w.heap.size w w := Below.refl _ _
 refine WC_seq (fun K1 hK2 => ?_)
 refine WC_region ?_
 refine WL_step (dd := some 3) rfl rfl rfl (Y_box (c := #[_, _, _, _]) rfl rfl (fun b0_0 W3 hb4 hE5 hm0_0 => ?_))
 have lo_b0_0 : w.heap.size ≤ b0_0 := hb4 ▸ (Below.size hB)
 clear hb4
 replace hB := below_ext hB hE5 (Nat.le_refl _)
 clear hE5
 refine WL_step (dd := some 4) rfl rfl rfl (Y_box (c := #[_, _, _, _]) rfl rfl (fun b0_1 W6 hb7 hE8 hm0_1 => ?_))
 have lo_b0_1 : w.heap.size ≤ b0_1 := hb7 ▸ (Below.size hB)
 have ne_b0_0_b0_1 : b0_0 ≠ b0_1 := Nat.ne_of_lt (hb7 ▸ hm0_0.lt)
 clear hb7
 replace hB := below_ext hB hE8 (Nat.le_refl _)
 replace hm0_0 := hE8.at hm0_0
 clear hE8
 refine WL_val (dd := some 6) rfl rfl rfl (r_assign (v := .slice none 0 0) rfl) ?_
 refine WL_val (dd := some 7) rfl rfl rfl (r_assign (v := .int .i64 0) rfl) ?_
 refine WL_nil ?_
 refine hK2 _ _ ?_
 clear hK2 K1
 refine WC_seq (fun K9 hK10 => ?_)
 refine WC_region ?_
 refine WL_val (dd := some 17) rfl rfl rfl (r_loadW rfl tb_ag24 rfl hm0_0) ?_
 refine WL_val (dd := some 18) rfl rfl rfl (r_loadW rfl tb_ag24 rfl hm0_1) ?_
 refine WL_val (dd := some 19) rfl rfl rfl (r_move (v := .int .i64 _) rfl) ?_
 refine WL_call (dd := some 20) rfl rfl rfl (r_call3 tb_c39 (v0 := .agg #[_, _, _, _]) rfl (v1 := .agg #[_, _, _, _]) rfl (v2 := .int .i64 _) rfl) (C_isop_Cover _ _ _ _) (fun v1_3 W11 hE12 hP1_3 => ?_)
 have hsz13 := (Below.size hB)
 replace hB := below_ext hB hE12 (Nat.le_refl _)
 replace hm0_0 := hE12.at hm0_0
 replace hm0_1 := hE12.at hm0_1
 clear hE12
 obtain ⟨x_hP1_3, er_hP1_3, l_hP1_3, rfl, ho_hP1_3, hc_hP1_3⟩ := own_res hP1_3
 replace ho_hP1_3 := OwT.mono ho_hP1_3 hsz13
 clear hsz13
 refine WL_val (dd := some 16) rfl rfl rfl (r_move (v := .tuple #[x_hP1_3, .int .i64 _]) rfl) ?_
 refine WL_val (dd := some 21) rfl rfl rfl (r_ext2_0 (h := rfl)) ?_
 refine WL_val (dd := some 22) rfl rfl rfl (r_ext2_1 (h := rfl)) ?_
 refine WL_val (dd := some 8) rfl rfl rfl (r_assign (v := x_hP1_3) rfl) ?_
 refine WL_val (dd := some 9) rfl rfl rfl (r_assign (v := .int .i64 _) rfl) ?_
 refine WL_nil ?_
 refine hK10 _ _ ?_
 clear hK10 K9
 refine WC_seq (fun K14 hK15 => ?_)
 refine WC_seq (fun K16 hK17 => ?_)
 refine WC_region ?_
 refine WL_val (dd := some 23) rfl rfl rfl (r_move (v := .int .i64 _) rfl) ?_
 refine WL_val (dd := some 24) rfl rfl rfl (r_neq rfl rfl) ?_
 refine WL_nil ?_
 refine hK17 _ _ ?_
 clear hK17 K16
 refine WC_cond (b := _) rfl (fun hc0 => ?_) (fun hc0 => ?_)
 ·
  try with_reducible replace hc0 := of_decide_eq_true hc0
  refine WC_seq (fun K18 hK19 => ?_)
  refine WC_region ?_
  refine WL_val (dd := some 25) rfl rfl rfl (r_move (v := .int .i64 _) rfl) ?_
  refine WL_val (dd := some 6) rfl rfl rfl (r_assign (v := .slice none 0 0) rfl) ?_
  refine WL_val (dd := some 7) rfl rfl rfl (r_assign (v := .int .i64 _) rfl) ?_
  refine WL_nil ?_
  refine hK19 _ _ ?_
  clear hK19 K18
  refine WC_ret ?_
  repeat (first | refine thenQ_ret ?_ | refine blockQ_ret ?_)
  try clear hK15 K14
  refine ret_tt (v := .slice none 0 0) rfl (v1 := .int .i64 _) rfl ?_
  refine ⟨hB, ?_⟩
  obtain ⟨hno, hee⟩ := err_ne hc_hP1_3 hc0
  rw [if_neg hno, hee]
 ·
  try with_reducible replace hc0 := of_decide_eq_false hc0
  refine WC_skip ?_
  refine hK15 _ _ ?_
  clear hK15 K14
  refine WC_seq (fun K20 hK21 => ?_)
  obtain ⟨hok, hleq⟩ := err_eq hc_hP1_3 hc0
  subst hleq
  have hll := covL_len (on := on) (may := may) (of_bounds (okB_iff.1 hok).1).2
  refine WC_region ?_
  refine WL_step (dd := some 26) rfl rfl rfl (Y_makeMap (enc := keyC) (encV := Value.bool) (fun b4_0 W22 hb23 hE24 hm4_0 => ?_))
  have lo_b4_0 : w.heap.size ≤ b4_0 := hb23 ▸ (Below.size hB)
  clear hb23
  replace hB := below_ext hB hE24 (Nat.le_refl _)
  replace hm0_0 := hE24.at hm0_0
  replace hm0_1 := hE24.at hm0_1
  replace ho_hP1_3 := hE24.ow ho_hP1_3
  clear hE24
  replace hm4_0 : MapT keyC Value.bool _ _ (allT []) := hm4_0
  refine WL_val (dd := some 10) rfl rfl rfl (r_assign (v := .map (some b4_0)) rfl) ?_
  refine WL_nil ?_
  refine hK21 _ _ ?_
  clear hK21 K20
  refine WC_seq (fun K25 hK26 => ?_)
  refine WC_region ?_
  refine WL_val (dd := some 11) rfl rfl rfl (r_assign (v := .slice none 0 0) rfl) ?_
  refine WL_nil ?_
  refine hK26 _ _ ?_
  clear hK26 K25
  refine WC_seq (fun K27 hK28 => ?_)
  refine WC_seq (fun K29 hK30 => ?_)
  refine WC_region ?_
  refine WL_val (dd := some 27) rfl rfl rfl (r_move (v := x_hP1_3) rfl) ?_
  refine WL_val (dd := some 28) rfl rfl rfl (r_lenS (v := x_hP1_3) rfl ho_hP1_3.sl tb_el27) ?_
  refine WL_val (dd := some 29) rfl rfl rfl (r_move (v := .int .i64 0) rfl) ?_
  refine WL_nil ?_
  refine hK30 _ _ ?_
  clear hK30 K29
  refine WC_block ?_
  refine WC_loop (σ := (Nat) × (Value)) [11, 13, 14, 15, 29, 30, 31, 32, 33, 34, 35, 36, 37, 38, 39, 40, 41, 42, 43, 44, 45, 46, 47, 48, 49, 50] (fun (k, v0) => [(29, .int .i64 (k : Int)), (11, v0)]) (fun sg W => match sg with | (k, v0) => (Below w.heap.size w W) ∧ (At W b0_0 _ 24) ∧ (At W b0_1 _ 24) ∧ (OwT encC 2 34 W w.heap.size x_hP1_3 _) ∧ (MapT keyC Value.bool W b4_0 (allT (grownTo may n (covL on may n) k))) ∧ (Apart v0 x_hP1_3) ∧ (OwT encC 2 34 W w.heap.size v0 (grownTo may n (covL on may n) k)) ∧ (k ≤ (covL on may n).length) ∧ (True)) (fun (k, v0) => (covL on may n).length - k) ((0, .slice none 0 0)) ⟨rfl, rfl, trivial⟩ ⟨hB, hm0_0, hm0_1, ho_hP1_3, hm4_0, Apart.nilL, OwT.nil, (Nat.zero_le _), trivial⟩ ?_
  clear hB hm0_0 hm0_1 ho_hP1_3 hm4_0
  rintro ⟨k, v0⟩ g32 W31 ⟨hB, hm0_0, hm0_1, ho_hP1_3, hm4_0, hap, ho, hk, _⟩ J33 hJ34
  refine WC_seq (fun K35 hK36 => ?_)
  refine WC_region ?_
  refine WL_val (dd := some 30) rfl rfl rfl (r_lss rfl rfl) ?_
  refine WL_nil ?_
  refine hK36 _ _ ?_
  clear hK36 K35
  refine WC_seq (fun K37 hK38 => ?_)
  refine WC_cond (b := _) rfl (fun hc1 => ?_) (fun hc1 => ?_)
  ·
   try with_reducible replace hc1 := of_decide_eq_true hc1
   refine WC_skip ?_
   refine hK38 _ _ ?_
   clear hK38 K37
   refine WC_seq (fun K39 hK40 => ?_)
   refine WC_block ?_
   refine WC_seq (fun K41 hK42 => ?_)
   refine WC_region ?_
   refine WL_val (dd := some 31) rfl rfl rfl (r_idxS (v := x_hP1_3) rfl ho_hP1_3.sl rfl tb_el27 (by omega) (by first | omega | (simp only [flagsTo_len, litsTo_len, firstF_len, ptF_len, setF_len]; omega))) ?_
   refine WL_val (dd := some 32) rfl rfl rfl (r_load2 rfl tb_ag34 (SlT.cell ho_hP1_3.sl encC_len ⟨0, 0⟩ (by omega) (by first | omega | (simp only [flagsTo_len, litsTo_len, firstF_len, ptF_len, setF_len]; omega)) 0 rfl) (SlT.cell ho_hP1_3.sl encC_len ⟨0, 0⟩ (by omega) (by first | omega | (simp only [flagsTo_len, litsTo_len, firstF_len, ptF_len, setF_len]; omega)) 1 rfl)) ?_
   refine WL_step (dd := some 13) rfl rfl rfl (Y_alloc tb_z34 rfl (fun b8_2 W43 hb44 hE45 hm8_2 => ?_))
   have lo_b8_2 : w.heap.size ≤ b8_2 := hb44 ▸ (Below.size hB)
   have no_x_hP1_3_b8_2 := OwT.neB (b := b8_2) ho_hP1_3 (Nat.le_of_eq hb44.symm)
   have no_v0_b8_2 := OwT.neB (b := b8_2) ho (Nat.le_of_eq hb44.symm)
   clear hb44
   replace hB := below_ext hB hE45 (Nat.le_refl _)
   replace hm0_0 := hE45.at hm0_0
   replace hm0_1 := hE45.at hm0_1
   replace ho_hP1_3 := hE45.ow ho_hP1_3
   replace hm4_0 := hE45.mapT hm4_0
   replace ho := hE45.ow ho
   clear hE45
   refine WL_step (dd := none) rfl rfl rfl (Y_storeW rfl rfl tb_ag34 rfl hm8_2 rfl (by rfl) (fun W46 hG47 hm48 => ?_))
   replace hB := below_grown hB hG47 (Nat.le_refl _) (fun j hj => by cases hj; exact lo_b8_2)
   replace hm0_0 := At.grownAt hm0_0 hm8_2 hG47 (by decide)
   replace hm0_1 := At.grownAt hm0_1 hm8_2 hG47 (by decide)
   replace ho_hP1_3 := OwT.grownAtNe ho_hP1_3 no_x_hP1_3_b8_2 hG47
   replace hm4_0 := MapT.grownAt hm4_0 hm8_2 hG47
   replace ho := OwT.grownAtNe ho no_v0_b8_2 hG47
   clear hG47 hm8_2
   have hm8_2 := hm48
   clear hm48
   refine WL_nil ?_
   refine hK42 _ _ ?_
   clear hK42 K41
   refine WC_seq (fun K49 hK50 => ?_)
   obtain ⟨hi1, hi2, hi3, hi4⟩ := cov_imp hok (getD_mem (d := ⟨0, 0⟩) (show k < (covL on may n).length by omega))
   have hgl := grownTo_len may n (covL on may n) k
   refine WC_region ?_
   refine WL_val (dd := some 34) rfl rfl rfl (r_loadW rfl tb_ag34 rfl hm8_2) ?_
   refine WL_val (dd := some 35) rfl rfl rfl (r_loadW rfl tb_ag24 rfl hm0_1) ?_
   refine WL_val (dd := some 36) rfl rfl rfl (r_move (v := .int .i64 _) rfl) ?_
   refine WL_call (dd := some 37) rfl rfl rfl (r_call3 tb_c79 (v0 := .agg #[_, _]) rfl (v1 := .agg #[_, _, _, _]) rfl (v2 := .int .i64 _) rfl) (C_prime_Grow ((covL on may n).getD k ⟨0, 0⟩) may n _ ⟨hi2, hi3⟩) (fun v9_3 W51 hE52 hP9_3 => ?_)
   have hsz53 := (Below.size hB)
   replace hB := below_ext hB hE52 (Nat.le_refl _)
   replace hm0_0 := hE52.at hm0_0
   replace hm0_1 := hE52.at hm0_1
   replace ho_hP1_3 := hE52.ow ho_hP1_3
   replace hm4_0 := hE52.mapT hm4_0
   replace ho := hE52.ow ho
   replace hm8_2 := hE52.at hm8_2
   clear hE52
   rw [if_pos hi1] at hP9_3
   obtain rfl := hP9_3
   clear hsz53
   refine WL_val (dd := some 33) rfl rfl rfl (r_move (v := .tuple #[.agg #[_, _], .int .i64 _]) rfl) ?_
   refine WL_val (dd := some 38) rfl rfl rfl (r_ext2_0 (h := rfl)) ?_
   refine WL_val (dd := some 39) rfl rfl rfl (r_ext2_1 (h := rfl)) ?_
   refine WL_step (dd := some 14) rfl rfl rfl (Y_alloc tb_z34 rfl (fun b9_7 W54 hb55 hE56 hm9_7 => ?_))
   have lo_b9_7 : w.heap.size ≤ b9_7 := hb55 ▸ (Below.size hB)
   have no_x_hP1_3_b9_7 := OwT.neB (b := b9_7) ho_hP1_3 (Nat.le_of_eq hb55.symm)
   have no_v0_b9_7 := OwT.neB (b := b9_7) ho (Nat.le_of_eq hb55.symm)
   have ne_b8_2_b9_7 : b8_2 ≠ b9_7 := Nat.ne_of_lt (hb55 ▸ hm8_2.lt)
   clear hb55
   replace hB := below_ext hB hE56 (Nat.le_refl _)
   replace hm0_0 := hE56.at hm0_0
   replace hm0_1 := hE56.at hm0_1
   replace ho_hP1_3 := hE56.ow ho_hP1_3
   replace hm4_0 := hE56.mapT hm4_0
   replace ho := hE56.ow ho
   replace hm8_2 := hE56.at hm8_2
   clear hE56
   refine WL_step (dd := none) rfl rfl rfl (Y_storeW rfl rfl tb_ag34 rfl hm9_7 rfl (by rfl) (fun W57 hG58 hm59 => ?_))
   replace hB := below_grown hB hG58 (Nat.le_refl _) (fun j hj => by cases hj; exact lo_b9_7)
   replace hm0_0 := At.grownAt hm0_0 hm9_7 hG58 (by decide)
   replace hm0_1 := At.grownAt hm0_1 hm9_7 hG58 (by decide)
   replace ho_hP1_3 := OwT.grownAtNe ho_hP1_3 no_x_hP1_3_b9_7 hG58
   replace hm4_0 := MapT.grownAt hm4_0 hm9_7 hG58
   replace ho := OwT.grownAtNe ho no_v0_b9_7 hG58
   replace hm8_2 := At.grownNe hm8_2 ne_b8_2_b9_7 hG58
   clear hG58 hm9_7
   have hm9_7 := hm59
   clear hm59
   refine WL_val (dd := some 15) rfl rfl rfl (r_assign (v := .int .i64 _) rfl) ?_
   refine WL_nil ?_
   refine hK50 _ _ ?_
   clear hK50 K49
   refine WC_seq (fun K60 hK61 => ?_)
   refine WC_region ?_
   refine WL_val (dd := some 40) rfl rfl rfl (r_move (v := .map (some b4_0)) rfl) ?_
   refine WL_val (dd := some 41) rfl rfl rfl (r_loadW rfl tb_ag34 rfl hm9_7) ?_
   refine WL_val (dd := some 42) rfl rfl rfl (r_lookup (enc := keyC) (encV := Value.bool) (v0 := false) (k := (growS may n ((covL on may n).getD k ⟨0, 0⟩))) rfl rfl tb_mp93 tb_key34 (fun a => ⟨a, rfl⟩) keyC_inj tb_z4 rfl hm4_0) ?_
   refine WL_val (dd := some 43) rfl rfl rfl (r_not rfl) ?_
   refine WL_nil ?_
   refine hK61 _ _ ?_
   clear hK61 K60
   refine WC_cond (b := _) rfl (fun hc2 => ?_) (fun hc2 => ?_)
   ·
    try with_reducible replace hc2 := of_decide_eq_true hc2
    refine WC_seq (fun K62 hK63 => ?_)
    refine WC_region ?_
    refine WL_val (dd := some 44) rfl rfl rfl (r_move (v := .map (some b4_0)) rfl) ?_
    refine WL_val (dd := some 45) rfl rfl rfl (r_loadW rfl tb_ag34 rfl hm9_7) ?_
    refine WL_step (dd := none) rfl rfl rfl (Y_mapUpdate (enc := keyC) (encV := Value.bool) (k := (growS may n ((covL on may n).getD k ⟨0, 0⟩))) (v := true) rfl rfl rfl tb_mp93 tb_key34 (fun a => ⟨a, rfl⟩) keyC_inj hm4_0 (fun W64 hG65 hm66 => ?_))
    replace hB := below_grown hB hG65 (Nat.le_refl _) (fun j hj => by cases hj; exact lo_b4_0)
    replace hm0_0 := At.grownMap hm0_0 hm4_0 hG65
    replace hm0_1 := At.grownMap hm0_1 hm4_0 hG65
    replace ho_hP1_3 := OwT.grownMap ho_hP1_3 hm4_0 hG65
    replace ho := OwT.grownMap ho hm4_0 hG65
    replace hm8_2 := At.grownMap hm8_2 hm4_0 hG65
    replace hm9_7 := At.grownMap hm9_7 hm4_0 hG65
    clear hG65 hm4_0
    have hm4_0 := hm66
    clear hm66
    rw [allT_put] at hm4_0
    refine WL_nil ?_
    refine hK63 _ _ ?_
    clear hK63 K62
    refine WC_region ?_
    refine WL_val (dd := some 46) rfl rfl rfl (r_move (v := v0) rfl) ?_
    refine WL_val (dd := some 47) rfl rfl rfl (r_loadW rfl tb_ag34 rfl hm9_7) ?_
    refine WL_step (dd := some 48) rfl rfl rfl (Y_lit1 (u := .agg #[_, _]) rfl tb_el27 tb_zs34 rfl (by decide) (by decide) (fun b12_2 W67 hb68 hE69 hm12_2 => ?_))
    have lo_b12_2 : w.heap.size ≤ b12_2 := hb68 ▸ (Below.size hB)
    have no_x_hP1_3_b12_2 := OwT.neB (b := b12_2) ho_hP1_3 (Nat.le_of_eq hb68.symm)
    have no_v0_b12_2 := OwT.neB (b := b12_2) ho (Nat.le_of_eq hb68.symm)
    have ne_b8_2_b12_2 : b8_2 ≠ b12_2 := Nat.ne_of_lt (hb68 ▸ hm8_2.lt)
    have ne_b9_7_b12_2 : b9_7 ≠ b12_2 := Nat.ne_of_lt (hb68 ▸ hm9_7.lt)
    clear hb68
    replace hB := below_ext hB hE69 (Nat.le_refl _)
    replace hm0_0 := hE69.at hm0_0
    replace hm0_1 := hE69.at hm0_1
    replace ho_hP1_3 := hE69.ow ho_hP1_3
    replace hm4_0 := hE69.mapT hm4_0
    replace ho := hE69.ow ho
    replace hm8_2 := hE69.at hm8_2
    replace hm9_7 := hE69.at hm9_7
    clear hE69
    refine WL_step (dd := some 49) rfl rfl rfl (Y_appendA (v := v0) (v2 := .slice (some ⟨b12_2, 0, none⟩) 1 1) rfl rfl tb_el27 tb_zs34 (by decide) ho (sl_lit1 hm12_2 rfl) rfl (by have := Below.size hB; omega) (by first | omega | (simp; omega) | (simp only [flagsTo_len, litsTo_len, firstF_len, ptF_len, setF_len]; omega)) (by first | omega | (simp; omega) | (simp only [flagsTo_len, litsTo_len, firstF_len, ptF_len, setF_len]; omega)) (fun v12_3 W70 hG71 ho12_3 hob72 => ?_))
    have hap73 := Apart.app hap hob72 ho_hP1_3
    replace ho12_3 := OwT.snoc (enc := encC) (x := (growS may n ((covL on may n).getD k ⟨0, 0⟩))) rfl rfl rfl rfl ho12_3
    clear hm12_2
    replace hB := below_grown hB hG71 (Nat.le_refl _) (fun j hj => (OwT.lt ho j hj))
    replace hm0_0 := At.grownOw hm0_0 ho hG71 (by decide)
    replace hm0_1 := At.grownOw hm0_1 ho hG71 (by decide)
    replace ho_hP1_3 := OwT.grownAp ho_hP1_3 hap hG71
    replace hm4_0 := MapT.grownOw hm4_0 ho hG71
    replace hm8_2 := At.grownOwNe hm8_2 no_v0_b8_2 hG71
    replace hm9_7 := At.grownOwNe hm9_7 no_v0_b9_7 hG71
    clear hG71
    clear ho
    refine WL_val (dd := some 11) rfl rfl rfl (r_assign (v := v12_3) rfl) ?_
    refine WL_nil ?_
    refine hK40 _ _ ?_
    clear hK40 K39
    refine WC_region ?_
    refine WL_val (dd := some 50) rfl rfl rfl (r_addI rfl rfl (by omega) (by omega)) ?_
    refine WL_val (dd := some 29) rfl rfl rfl (r_move (v := .int .i64 _) rfl) ?_
    refine WL_nil ?_
    refine hJ34 _ _ ((k + 1, v12_3)) ?_ ?_ ?_ ?_
    · repeat (first | exact agree.mask _ _ _ | refine agree.updo ?_ rfl _ | refine agree.updL ?_ _ rfl | refine agree.maskS rfl ?_)
    · exact ⟨rfl, rfl, trivial⟩
    · exact ⟨hB, hm0_0, hm0_1, ho_hP1_3, (by first | exact hm4_0 | (rw [grownTo, insK_old (is_in (kk := growS may n ((covL on may n).getD k ⟨0, 0⟩)) hc2)]; exact hm4_0)), hap73, (by first | (rw [grownTo, insK_new (not_in (kk := growS may n ((covL on may n).getD k ⟨0, 0⟩)) hc2)]; exact ho12_3) | (rw [grownTo, insK_old (is_in (kk := growS may n ((covL on may n).getD k ⟨0, 0⟩)) hc2)]; exact ho12_3)), (by omega), trivial⟩
    · show (covL on may n).length - (k + 1) < (covL on may n).length - k; omega
   ·
    try with_reducible replace hc2 := of_decide_eq_false hc2
    refine WC_skip ?_
    refine hK40 _ _ ?_
    clear hK40 K39
    refine WC_region ?_
    refine WL_val (dd := some 50) rfl rfl rfl (r_addI rfl rfl (by omega) (by omega)) ?_
    refine WL_val (dd := some 29) rfl rfl rfl (r_move (v := .int .i64 _) rfl) ?_
    refine WL_nil ?_
    refine hJ34 _ _ ((k + 1, v0)) ?_ ?_ ?_ ?_
    · repeat (first | exact agree.mask _ _ _ | refine agree.updo ?_ rfl _ | refine agree.updL ?_ _ rfl | refine agree.maskS rfl ?_)
    · exact ⟨rfl, rfl, trivial⟩
    · exact ⟨hB, hm0_0, hm0_1, ho_hP1_3, (by first | exact hm4_0 | (rw [grownTo, insK_old (is_in (kk := growS may n ((covL on may n).getD k ⟨0, 0⟩)) hc2)]; exact hm4_0)), hap, (by first | (rw [grownTo, insK_new (not_in (kk := growS may n ((covL on may n).getD k ⟨0, 0⟩)) hc2)]; exact ho) | (rw [grownTo, insK_old (is_in (kk := growS may n ((covL on may n).getD k ⟨0, 0⟩)) hc2)]; exact ho)), (by omega), trivial⟩
    · show (covL on may n).length - (k + 1) < (covL on may n).length - k; omega
  ·
   try with_reducible replace hc1 := of_decide_eq_false hc1
   refine WC_exit ?_
   refine hK28 _ _ ?_
   clear hK38 K37
   clear hJ34 J33
   clear hK28 K27
   refine WC_seq (fun K74 hK75 => ?_)
   refine WC_region ?_
   refine WL_val (dd := some 51) rfl rfl rfl (r_move (v := v0) rfl) ?_
   refine WL_val (dd := some 6) rfl rfl rfl (r_assign (v := v0) rfl) ?_
   refine WL_val (dd := some 7) rfl rfl rfl (r_assign (v := .int .i64 0) rfl) ?_
   refine WL_nil ?_
   refine hK75 _ _ ?_
   clear hK75 K74
   refine WC_ret ?_
   repeat (first | refine thenQ_ret ?_ | refine blockQ_ret ?_)
   refine ret_tt (v := v0) rfl (v1 := .int .i64 0) rfl ?_
   refine ⟨hB, ?_⟩
   obtain rfl : k = (covL on may n).length := by omega
   rw [if_pos hok]
   exact ⟨_, rfl, ho⟩

end Go.Proofs.Ytdbcijijhhbkaaa
