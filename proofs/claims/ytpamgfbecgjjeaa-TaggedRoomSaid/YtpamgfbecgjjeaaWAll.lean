/-
  The walk of prime.All.
-/
import Derived.Test.YtpamgfbecgjjeaaProg
import Derived.Test.YtpamgfbecgjjeaaWPrime
namespace Go.Proofs.Ytpamgfbecgjjeaa
set_option linter.unusedVariables false
set_option linter.unusedSimpArgs false
open Go Go.RowKit

theorem tb_c105 : callB Try.prog 105 = true := by kernel_rfl
theorem tb_mp130 : isMap Try.prog 130 = some (55, 4) := by kernel_rfl
theorem tb_eq55 {f : Nat → Value} {w : World} {d : Option Nat} {ty t2 : TypeId} {ps : String} {af : Array Edge} {g : Option (Nat × Bool)} {x y : Operand} {a0 a1 b0 b1 : Int} (hx : evF f x = .agg #[.int .u8 a0, .int .u8 a1]) (hy : evF f y = .agg #[.int .u8 b0, .int .u8 b1]) :
    (execOp (evF f) ⟨d, .binOp .eql 55 x y t2, ty, ps, af, g⟩).run Try.prog w = .ok (.value (.bool (decide ((a0 = b0 ∧ a1 = b1))))) w := by
  have hg : Try.prog.eqGuardType Try.prog.depth 55 = false := by kernel_rfl
  have hp55 : Try.prog.stoodInHeld 55 = false := by kernel_rfl
  have hu55 : Try.prog.underlying 55 = some (.struct (Try.prog.fieldsOf 55)) := by kernel_rfl
  simp only [execOp, hx, hy, Sem.run_bind, run_eqGuard_agg _ _ _ _ _ _ _ hg, Result.andThen_ok, run_eql_struct, run_equalIn_agg _ 9999 55 _ _ hu55 hp55]
  simp only [Program.fieldsOf, Try.underlying55]
  simp [Op.eqFields, part, isAgg, run_equalIn_int _ 9998 5 _ _ _ _ Try.underlying5, run_underlying Try.underlying5]
  by_cases q0 : a0 = b0 <;> by_cases q1 : a1 = b1 <;> simp [q0, q1]
theorem tb_key55 : KeyOk Try.prog 55 (fun v => ∃ a : Cb, v = keyC a) := by
  refine keyOk_of Try.underlying55 ?_ ?_ ?_ ?_
  · rintro w _ _ ⟨a, rfl⟩ ⟨c, rfl⟩
    have hg : Try.prog.eqGuardType Try.prog.depth 55 = false := by kernel_rfl
    exact ⟨_, equal_agg hg (tb_eq55 rfl rfl), by rw [decide_eq_true_eq]; constructor <;> intro h <;> simpa [keyC] using h⟩
  · rintro _ _ ⟨a, rfl⟩ ⟨c, rfl⟩
    exact .inl rfl
  · rintro w em _ ⟨a, rfl⟩
    have h2 : ∀ k, (Instr.checkKey em (k + 1 + 1 + 1) 55 (keyC a)).run Try.prog w = .ok () w := fun k => by
      simp [keyC, Instr.checkKey, part, isAgg, run_underlying Try.underlying55, run_underlying Try.underlying5]
    exact h2 9997
  · rintro _ ⟨a, rfl⟩
    simp [keyC, Instr.sameBits]
theorem tb_c110 : callB Try.prog 110 = true := by kernel_rfl
theorem tb_c109 : callB Try.prog 109 = true := by kernel_rfl

theorem C_prime_All (s : Nat) (n : Int) (w : World) :
    Fn Try.prog 62 #[setV s, .int .i64 n] w fun v w' => if ofB s n = true then ∃ x, v = .tuple #[x, .int .i64 0] ∧ OwT encC 2 55 w' w.heap.size x (primesL s n) else v = .tuple #[.slice none 0 0, .int .i64 1] := by
 refine Fn_intro (n := 105) Try.func62 rfl rfl (Nat.le_of_ble_eq_true rfl) ?_
 have hB : Below w.heap.size w w := Below.refl _ _
 refine WC_seq (fun K1 hK2 => ?_)
 refine WC_region ?_
 refine WL_step (dd := some 2) rfl rfl rfl (Y_box (c := #[_, _, _, _]) rfl rfl (fun b0_0 W3 hb4 hE5 hm0_0 => ?_))
 have lo_b0_0 : w.heap.size ≤ b0_0 := hb4 ▸ (Below.size hB)
 clear hb4
 replace hB := below_ext hB hE5 (Nat.le_refl _)
 clear hE5
 refine WL_val (dd := some 4) rfl rfl rfl (r_assign (v := .slice none 0 0) rfl) ?_
 refine WL_val (dd := some 5) rfl rfl rfl (r_assign (v := .int .i64 0) rfl) ?_
 refine WL_nil ?_
 refine hK2 _ _ ?_
 clear hK2 K1
 refine WC_seq (fun K6 hK7 => ?_)
 refine WC_region ?_
 refine WL_val (dd := some 19) rfl rfl rfl (r_move (v := .int .i64 _) rfl) ?_
 refine WL_call (dd := some 20) rfl rfl rfl (r_call1 tb_c105 (v0 := .int .i64 _) rfl) (C_set_All _ _) (fun v1_1 W8 hE9 hP1_1 => ?_)
 have hsz10 := (Below.size hB)
 replace hB := below_ext hB hE9 (Nat.le_refl _)
 replace hm0_0 := hE9.at hm0_0
 clear hE9
 obtain ⟨sa, er, rfl, hhP1_1⟩ := all_cases hP1_1
 clear hsz10
 refine WL_val (dd := some 18) rfl rfl rfl (r_move (v := .tuple #[.agg #[_, _, _, _], .int .i64 _]) rfl) ?_
 refine WL_val (dd := some 21) rfl rfl rfl (r_ext2_0 (h := rfl)) ?_
 refine WL_val (dd := some 22) rfl rfl rfl (r_ext2_1 (h := rfl)) ?_
 refine WL_step (dd := some 6) rfl rfl rfl (Y_alloc tb_z69 rfl (fun b1_5 W11 hb12 hE13 hm1_5 => ?_))
 have lo_b1_5 : w.heap.size ≤ b1_5 := hb12 ▸ (Below.size hB)
 have ne_b0_0_b1_5 : b0_0 ≠ b1_5 := Nat.ne_of_lt (hb12 ▸ hm0_0.lt)
 clear hb12
 replace hB := below_ext hB hE13 (Nat.le_refl _)
 replace hm0_0 := hE13.at hm0_0
 clear hE13
 replace hm1_5 : At W11 b1_5 #[wv 0 0, wv 0 1, wv 0 2, wv 0 3] 69 := hm1_5
 refine WL_step (dd := none) rfl rfl rfl (Y_storeW rfl rfl tb_ag69 rfl hm1_5 rfl (by rfl) (fun W14 hG15 hm16 => ?_))
 replace hB := below_grown hB hG15 (Nat.le_refl _) (fun j hj => by cases hj; exact lo_b1_5)
 replace hm0_0 := At.grownNe hm0_0 ne_b0_0_b1_5 hG15
 clear hG15 hm1_5
 have hm1_5 := hm16
 clear hm16
 refine WL_val (dd := some 7) rfl rfl rfl (r_assign (v := .int .i64 _) rfl) ?_
 refine WL_nil ?_
 refine hK7 _ _ ?_
 clear hK7 K6
 refine WC_seq (fun K17 hK18 => ?_)
 refine WC_seq (fun K19 hK20 => ?_)
 refine WC_region ?_
 refine WL_val (dd := some 23) rfl rfl rfl (r_move (v := .int .i64 _) rfl) ?_
 refine WL_val (dd := some 24) rfl rfl rfl (r_neq rfl rfl) ?_
 refine WL_split (dd := some 25) rfl rfl rfl (r_move (v := .bool _) rfl) (fun hs2_2 => ?_) (fun hs2_2 => ?_)
 ·
  try with_reducible replace hs2_2 := of_decide_eq_true hs2_2
  refine WL_skip (dd := some 26) rfl rfl rfl ?_
  refine WL_skip (dd := some 27) rfl rfl rfl ?_
  refine WL_skip (dd := some 28) rfl rfl rfl ?_
  refine WL_skip (dd := some 29) rfl rfl rfl ?_
  refine WL_val (dd := some 30) rfl rfl rfl (r_pick_t rfl (v := .bool true) rfl) ?_
  refine WL_nil ?_
  refine hK20 _ _ ?_
  clear hK20 K19
  refine WC_cond_true rfl ?_
  refine WC_seq (fun K21 hK22 => ?_)
  refine WC_region ?_
  refine WL_val (dd := some 4) rfl rfl rfl (r_assign (v := .slice none 0 0) rfl) ?_
  refine WL_val (dd := some 5) rfl rfl rfl (r_assign (v := .int .i64 1) rfl) ?_
  refine WL_nil ?_
  refine hK22 _ _ ?_
  clear hK22 K21
  refine WC_ret ?_
  repeat (first | refine thenQ_ret ?_ | refine blockQ_ret ?_)
  try clear hK18 K17
  refine ret_tt (v := .slice none 0 0) rfl (v1 := .int .i64 1) rfl ?_
  refine ⟨hB, ?_⟩
  rw [if_neg (of_not1 hhP1_1 hs2_2)]
 ·
  try with_reducible replace hs2_2 := of_decide_eq_false hs2_2
  refine WL_val (dd := some 26) rfl rfl rfl (r_loadW rfl tb_ag69 rfl hm0_0) ?_
  refine WL_val (dd := some 27) rfl rfl rfl (r_loadW rfl tb_ag69 rfl hm1_5) ?_
  refine WL_call (dd := some 28) rfl rfl rfl (r_call2 tb_c106 (v0 := .agg #[_, _, _, _]) rfl (v1 := .agg #[_, _, _, _]) rfl) (C_set_Within _ _ _) (fun v2_5 W23 hE24 hP2_5 => ?_)
  have hsz25 := (Below.size hB)
  replace hB := below_ext hB hE24 (Nat.le_refl _)
  replace hm0_0 := hE24.at hm0_0
  replace hm1_5 := hE24.at hm1_5
  clear hE24
  clear hsz25
  obtain rfl := hP2_5
  refine WL_val (dd := some 29) rfl rfl rfl (r_not rfl) ?_
  refine WL_val (dd := some 30) rfl rfl rfl (r_pick_f rfl (v := .bool _) rfl) ?_
  refine WL_nil ?_
  refine hK20 _ _ ?_
  clear hK20 K19
  refine WC_cond (b := _) rfl (fun hc0 => ?_) (fun hc0 => ?_)
  ·
   try with_reducible replace hc0 := of_decide_eq_true hc0
   refine WC_seq (fun K26 hK27 => ?_)
   refine WC_region ?_
   refine WL_val (dd := some 4) rfl rfl rfl (r_assign (v := .slice none 0 0) rfl) ?_
   refine WL_val (dd := some 5) rfl rfl rfl (r_assign (v := .int .i64 1) rfl) ?_
   refine WL_nil ?_
   refine hK27 _ _ ?_
   clear hK27 K26
   refine WC_ret ?_
   repeat (first | refine thenQ_ret ?_ | refine blockQ_ret ?_)
   try clear hK18 K17
   refine ret_tt (v := .slice none 0 0) rfl (v1 := .int .i64 1) rfl ?_
   refine ⟨hB, ?_⟩
   rw [if_neg (of_not2 hhP1_1 hs2_2 hc0)]
  ·
   try with_reducible replace hc0 := of_decide_eq_false hc0
   refine WC_skip ?_
   refine hK18 _ _ ?_
   clear hK18 K17
   refine WC_seq (fun K28 hK29 => ?_)
   have hof : ofB s n = true := of_yes hhP1_1 hs2_2 hc0
   obtain ⟨hn0, hn8⟩ := of_bounds hof
   have hll := listS_len s
   refine WC_region ?_
   refine WL_step (dd := some 31) rfl rfl rfl (Y_makeMap (enc := keyC) (encV := Value.bool) (fun b4_0 W30 hb31 hE32 hm4_0 => ?_))
   have lo_b4_0 : w.heap.size ≤ b4_0 := hb31 ▸ (Below.size hB)
   clear hb31
   replace hB := below_ext hB hE32 (Nat.le_refl _)
   replace hm0_0 := hE32.at hm0_0
   replace hm1_5 := hE32.at hm1_5
   clear hE32
   replace hm4_0 : MapT keyC Value.bool _ _ (allT []) := hm4_0
   refine WL_val (dd := some 8) rfl rfl rfl (r_assign (v := .map (some b4_0)) rfl) ?_
   refine WL_nil ?_
   refine hK29 _ _ ?_
   clear hK29 K28
   refine WC_seq (fun K33 hK34 => ?_)
   refine WC_seq (fun K35 hK36 => ?_)
   refine WC_region ?_
   refine WL_val (dd := some 32) rfl rfl rfl (r_loadW rfl tb_ag69 rfl hm0_0) ?_
   refine WL_call (dd := some 33) rfl rfl rfl (r_call1 tb_c108 (v0 := .agg #[_, _, _, _]) rfl) (C_set_List _ _) (fun v5_1 W37 hE38 hP5_1 => ?_)
   have hsz39 := (Below.size hB)
   replace hB := below_ext hB hE38 (Nat.le_refl _)
   replace hm0_0 := hE38.at hm0_0
   replace hm1_5 := hE38.at hm1_5
   replace hm4_0 := hE38.mapT hm4_0
   clear hE38
   replace hP5_1 := OwT.mono hP5_1 hsz39
   clear hsz39
   refine WL_val (dd := some 34) rfl rfl rfl (r_lenS (v := v5_1) rfl hP5_1.sl tb_el22) ?_
   refine WL_val (dd := some 35) rfl rfl rfl (r_move (v := .int .i64 0) rfl) ?_
   refine WL_nil ?_
   refine hK36 _ _ ?_
   clear hK36 K35
   refine WC_block ?_
   refine WC_loop (σ := (Nat) × (List Cb)) [10, 35, 36, 37, 38, 39, 40, 41, 42, 43, 44, 45, 46] (fun (k, ks) => [(35, .int .i64 (k : Int))]) (fun sg W => match sg with | (k, ks) => (Below w.heap.size w W) ∧ (At W b0_0 _ 69) ∧ (At W b1_5 _ 69) ∧ (OwT encI 1 3 W w.heap.size v5_1 _) ∧ (MapT keyC Value.bool W b4_0 (allT ks)) ∧ (k ≤ (listS s).length) ∧ (∀ c, c ∈ ks ↔ ∃ j, j < k ∧ c = ⟨2 ^ n.toNat - 1, ((listS s).getD j 0).toNat⟩) ∧ (True)) (fun (k, ks) => (listS s).length - k) ((0, [])) ⟨rfl, trivial⟩ ⟨hB, hm0_0, hm1_5, hP5_1, hm4_0, (Nat.zero_le _), (fun c => by simp), trivial⟩ ?_
   clear hB hm0_0 hm1_5 hm4_0 hP5_1
   rintro ⟨k, ks⟩ g41 W40 ⟨hB, hm0_0, hm1_5, hP5_1, hm4_0, hk, hks, _⟩ J42 hJ43
   refine WC_seq (fun K44 hK45 => ?_)
   refine WC_region ?_
   refine WL_val (dd := some 36) rfl rfl rfl (r_lss rfl rfl) ?_
   refine WL_nil ?_
   refine hK45 _ _ ?_
   clear hK45 K44
   refine WC_seq (fun K46 hK47 => ?_)
   refine WC_cond (b := _) rfl (fun hc1 => ?_) (fun hc1 => ?_)
   ·
    try with_reducible replace hc1 := of_decide_eq_true hc1
    refine WC_skip ?_
    refine hK47 _ _ ?_
    clear hK47 K46
    refine WC_seq (fun K48 hK49 => ?_)
    refine WC_block ?_
    refine WC_seq (fun K50 hK51 => ?_)
    refine WC_region ?_
    refine WL_val (dd := some 37) rfl rfl rfl (r_idxS (v := v5_1) rfl hP5_1.sl rfl tb_el22 (by omega) (by first | omega | (simp only [flagsTo_len, litsTo_len, firstF_len, ptF_len]; omega))) ?_
    refine WL_val (dd := some 38) rfl rfl rfl (r_load1 (v := .int .i64 _) rfl tb_sc3 (SlT.cell hP5_1.sl encI_len 0 (by omega) (by first | omega | (simp only [flagsTo_len, litsTo_len, firstF_len, ptF_len]; omega)) 0 rfl)) ?_
    refine WL_val (dd := some 10) rfl rfl rfl (r_assign (v := .int .i64 _) rfl) ?_
    refine WL_nil ?_
    refine hK51 _ _ ?_
    clear hK51 K50
    obtain ⟨p, hp1, hp2, hp3⟩ := listS_get (s := s) (i := k) (by omega)
    refine WC_region ?_
    refine WL_val (dd := some 39) rfl rfl rfl (r_move (v := .map (some b4_0)) rfl) ?_
    refine WL_val (dd := some 40) rfl rfl rfl (r_move (v := .int .i64 _) rfl) ?_
    refine WL_val (dd := some 41) rfl rfl rfl (r_shlW rfl rfl hn0) ?_
    refine WL_val (dd := some 42) rfl rfl rfl (r_top8 rfl rfl hn0 hn8) ?_
    refine WL_val (dd := some 43) rfl rfl rfl (r_move (v := .int .i64 _) rfl) ?_
    refine WL_val (dd := some 44) rfl rfl rfl (r_convN (m := p) (congrArg (Value.int .i64) hp3) Try.underlying3 Try.underlying5 (by simp only [topN]; omega)) ?_
    refine WL_val (dd := some 45) rfl rfl rfl (tb_build55_0_1 (h0 := rfl) (k0 := rfl) (h1 := rfl) (k1 := rfl) (c0_0 := .int .u8 _) (c1_0 := .int .u8 _)) ?_
    refine WL_step (dd := none) rfl rfl rfl (Y_mapUpdate (enc := keyC) (encV := Value.bool) (k := ⟨_, _⟩) (v := true) rfl rfl rfl tb_mp130 tb_key55 (fun a => ⟨a, rfl⟩) keyC_inj hm4_0 (fun W52 hG53 hm54 => ?_))
    replace hB := below_grown hB hG53 (Nat.le_refl _) (fun j hj => by cases hj; exact lo_b4_0)
    replace hm0_0 := At.grownMap hm0_0 hm4_0 hG53
    replace hm1_5 := At.grownMap hm1_5 hm4_0 hG53
    replace hP5_1 := OwT.grownMap hP5_1 hm4_0 hG53
    clear hG53 hm4_0
    have hm4_0 := hm54
    clear hm54
    rw [allT_put] at hm4_0
    refine WL_nil ?_
    refine hK49 _ _ ?_
    clear hK49 K48
    refine WC_region ?_
    refine WL_val (dd := some 46) rfl rfl rfl (r_addI rfl rfl (by omega) (by omega)) ?_
    refine WL_val (dd := some 35) rfl rfl rfl (r_move (v := .int .i64 _) rfl) ?_
    refine WL_nil ?_
    refine hJ43 _ _ ((k + 1, insK ks ⟨2 ^ n.toNat - 1, p⟩)) ?_ ?_ ?_ ?_
    · repeat (first | exact agree.mask _ _ _ | refine agree.updo ?_ rfl _ | refine agree.updL ?_ _ rfl | refine agree.maskS rfl ?_)
    · exact ⟨rfl, trivial⟩
    · exact ⟨hB, hm0_0, hm1_5, hP5_1, hm4_0, (by omega), (keys_step hks hp3), trivial⟩
    · show (listS s).length - (k + 1) < (listS s).length - k; omega
   ·
    try with_reducible replace hc1 := of_decide_eq_false hc1
    refine WC_exit ?_
    refine hK34 _ _ ?_
    clear hK47 K46
    clear hJ43 J42
    clear hK34 K33
    refine WC_seq (fun K55 hK56 => ?_)
    refine WC_region ?_
    refine WL_val (dd := some 11) rfl rfl rfl (r_assign (v := .slice none 0 0) rfl) ?_
    refine WL_nil ?_
    refine hK56 _ _ ?_
    clear hK56 K55
    refine WC_seq (fun K57 hK58 => ?_)
    refine WC_block ?_
    refine WC_loop (σ := (Nat) × (List Cb) × (Value) × (List Cb) × (Nat)) [8, 11, 12, 13, 14, 15, 16, 17, 47, 48, 49, 50, 51, 52, 53, 54, 55, 56, 57, 58, 59, 60, 61, 62, 63, 64, 65, 66, 67, 68, 69, 70, 71, 72, 73, 74, 75, 76, 77, 78, 79, 80, 81, 82, 83, 84, 85, 86, 87, 88, 89, 90, 91, 92, 93, 94, 95, 96, 97, 98, 99, 100, 101, 102, 103] (fun (bn, now, v0, out, t) => [(8, .map (some bn)), (11, v0)]) (fun sg W => match sg with | (bn, now, v0, out, t) => (Below w.heap.size w W) ∧ (At W b0_0 _ 69) ∧ (At W b1_5 _ 69) ∧ (OwT encI 1 3 W w.heap.size v5_1 _) ∧ (MapT keyC Value.bool W bn (allT now)) ∧ (OwT encC 2 55 W w.heap.size v0 (out)) ∧ (Level s n t now) ∧ (OutOf s n t out) ∧ (Rising out) ∧ (t ≤ n.toNat + 1) ∧ (True)) (fun (bn, now, v0, out, t) => t) ((b4_0, ks, .slice none 0 0, [], n.toNat + 1)) ⟨rfl, rfl, trivial⟩ ⟨hB, hm0_0, hm1_5, hP5_1, hm4_0, OwT.nil, (first_level hof (keys_all hks (by omega))), out_none, List.Pairwise.nil, (Nat.le_refl _), trivial⟩ ?_
    clear hB hm0_0 hm1_5 hP5_1 hm4_0
    rintro ⟨bn, now, v0, out, t⟩ g60 W59 ⟨hB, hm0_0, hm1_5, hP5_1, hmN, ho, hLv, hOut, hRis, ht, _⟩ J61 hJ62
    refine WC_seq (fun K63 hK64 => ?_)
    refine WC_seq (fun K65 hK66 => ?_)
    refine WC_region ?_
    refine WL_val (dd := some 47) rfl rfl rfl (r_move (v := .map (some bn)) rfl) ?_
    refine WL_val (dd := some 48) rfl rfl rfl (r_lenM rfl tb_mp130 hmN) ?_
    refine WL_val (dd := some 49) rfl rfl rfl (r_gtr rfl rfl) ?_
    refine WL_nil ?_
    refine hK66 _ _ ?_
    clear hK66 K65
    refine WC_cond (b := _) rfl (fun hc2 => ?_) (fun hc2 => ?_)
    ·
     try with_reducible replace hc2 := of_decide_eq_true hc2
     refine WC_skip ?_
     refine hK64 _ _ ?_
     clear hK64 K63
     refine WC_block ?_
     refine WC_seq (fun K67 hK68 => ?_)
     obtain ⟨t', rfl⟩ := level_pos hLv hc2
     refine WC_region ?_
     refine WL_step (dd := some 50) rfl rfl rfl (Y_makeMap (enc := keyC) (encV := Value.bool) (fun b12_0 W69 hb70 hE71 hm12_0 => ?_))
     have lo_b12_0 : w.heap.size ≤ b12_0 := hb70 ▸ (Below.size hB)
     have ne_bn_b12_0 : bn ≠ b12_0 := Nat.ne_of_lt (hb70 ▸ hmN.lt)
     clear hb70
     replace hB := below_ext hB hE71 (Nat.le_refl _)
     replace hm0_0 := hE71.at hm0_0
     replace hm1_5 := hE71.at hm1_5
     replace hP5_1 := hE71.ow hP5_1
     replace hmN := hE71.mapT hmN
     replace ho := hE71.ow ho
     clear hE71
     replace hm12_0 : MapT keyC Value.bool _ _ (allT []) := hm12_0
     refine WL_step (dd := some 51) rfl rfl rfl (Y_makeMap (enc := keyC) (encV := Value.bool) (fun b12_1 W72 hb73 hE74 hm12_1 => ?_))
     have lo_b12_1 : w.heap.size ≤ b12_1 := hb73 ▸ (Below.size hB)
     have ne_bn_b12_1 : bn ≠ b12_1 := Nat.ne_of_lt (hb73 ▸ hmN.lt)
     have ne_b12_0_b12_1 : b12_0 ≠ b12_1 := Nat.ne_of_lt (hb73 ▸ hm12_0.lt)
     clear hb73
     replace hB := below_ext hB hE74 (Nat.le_refl _)
     replace hm0_0 := hE74.at hm0_0
     replace hm1_5 := hE74.at hm1_5
     replace hP5_1 := hE74.ow hP5_1
     replace hmN := hE74.mapT hmN
     replace ho := hE74.ow ho
     replace hm12_0 := hE74.mapT hm12_0
     clear hE74
     replace hm12_1 : MapT keyC Value.bool _ _ (allT []) := hm12_1
     refine WL_val (dd := some 12) rfl rfl rfl (r_assign (v := .map (some b12_0)) rfl) ?_
     refine WL_val (dd := some 13) rfl rfl rfl (r_assign (v := .map (some b12_1)) rfl) ?_
     refine WL_nil ?_
     refine hK68 _ _ ?_
     clear hK68 K67
     refine WC_seq (fun K75 hK76 => ?_)
     refine WC_seq (fun K77 hK78 => ?_)
     refine WC_region ?_
     refine WL_val (dd := some 52) rfl rfl rfl (r_move (v := .map (some bn)) rfl) ?_
     refine WL_step (dd := some 53) rfl rfl rfl (Y_range rfl tb_mp130 hmN (fun b13_1 W79 hb80 hE81 hm13_1 => ?_))
     have lo_b13_1 : w.heap.size ≤ b13_1 := hb80 ▸ (Below.size hB)
     clear hb80
     replace hB := below_ext hB hE81 (Nat.le_refl _)
     replace hm0_0 := hE81.at hm0_0
     replace hm1_5 := hE81.at hm1_5
     replace hP5_1 := hE81.ow hP5_1
     replace hmN := hE81.mapT hmN
     replace ho := hE81.ow ho
     replace hm12_0 := hE81.mapT hm12_0
     replace hm12_1 := hE81.mapT hm12_1
     clear hE81
     refine WL_nil ?_
     refine hK78 _ _ ?_
     clear hK78 K77
     refine WC_block ?_
     refine WC_loop (σ := (List Cb) × (List Cb) × (List Cb)) [14, 15, 16, 54, 55, 56, 57, 58, 59, 60, 61, 62, 63, 64, 65, 66, 67, 68, 69, 70, 71, 72, 73, 74, 75, 76, 77, 78, 79, 80, 81, 82, 83, 84, 85, 86, 87, 88, 89] (fun (seen, nl, ml) => []) (fun sg W => match sg with | (seen, nl, ml) => (Below w.heap.size w W) ∧ (At W b0_0 _ 69) ∧ (At W b1_5 _ 69) ∧ (OwT encI 1 3 W w.heap.size v5_1 _) ∧ (MapT keyC Value.bool W bn _) ∧ (OwT encC 2 55 W w.heap.size v0 _) ∧ (IterT keyC Value.bool W b13_1 bn (allT now) seen) ∧ (MapT keyC Value.bool W b12_0 (allT nl)) ∧ (MapT keyC Value.bool W b12_1 (allT ml)) ∧ (∀ d, d ∈ nl ↔ NextOf now n seen d) ∧ (∀ d, d ∈ ml ↔ MergedOf now n seen d) ∧ (True)) (fun (seen, nl, ml) => (allT now).length - seen.length) (([], [], [])) trivial ⟨hB, hm0_0, hm1_5, hP5_1, hmN, ho, hm13_1, hm12_0, hm12_1, nextOf_nil, mergedOf_nil, trivial⟩ ?_
     clear hB hm0_0 hm1_5 hP5_1 hmN ho hm12_0 hm12_1 hm13_1
     rintro ⟨seen, nl, ml⟩ g83 W82 ⟨hB, hm0_0, hm1_5, hP5_1, hmN, ho, hm13_1, hm12_0, hm12_1, hN, hM, _⟩ J84 hJ85
     refine WC_seq (fun K86 hK87 => ?_)
     refine WC_region ?_
     refine WL_step (dd := some 54) rfl rfl rfl (Y_next rfl hm13_1 (fun hnd14_0 => ?_) (fun kk14_0 vv14_0 W88 hin14_0 hni14_0 hG89 hm90 => ?_))
     ·
      refine WL_val (dd := some 55) rfl rfl rfl (r_ext1_0 (h := rfl)) ?_
      refine WL_nil ?_
      refine hK87 _ _ ?_
      clear hK87 K86
      refine WC_seq (fun K91 hK92 => ?_)
      refine WC_cond_false rfl ?_
      refine WC_exit ?_
      refine hK76 _ _ ?_
      clear hK92 K91
      clear hJ85 J84
      clear hK76 K75
      refine WC_seq (fun K93 hK94 => ?_)
      refine WC_seq (fun K95 hK96 => ?_)
      have hseen := seen_all hm13_1 hnd14_0
      have hN' := next_same hN hseen
      have hM' := merged_same hM hseen
      refine WC_region ?_
      refine WL_val (dd := some 90) rfl rfl rfl (r_move (v := .map (some bn)) rfl) ?_
      refine WL_step (dd := some 91) rfl rfl rfl (Y_range rfl tb_mp130 hmN (fun b23_1 W97 hb98 hE99 hm23_1 => ?_))
      have lo_b23_1 : w.heap.size ≤ b23_1 := hb98 ▸ (Below.size hB)
      clear hb98
      replace hB := below_ext hB hE99 (Nat.le_refl _)
      replace hm0_0 := hE99.at hm0_0
      replace hm1_5 := hE99.at hm1_5
      replace hP5_1 := hE99.ow hP5_1
      replace hmN := hE99.mapT hmN
      replace ho := hE99.ow ho
      replace hm13_1 := hE99.iterT hm13_1
      replace hm12_0 := hE99.mapT hm12_0
      replace hm12_1 := hE99.mapT hm12_1
      clear hE99
      refine WL_nil ?_
      refine hK96 _ _ ?_
      clear hK96 K95
      refine WC_block ?_
      refine WC_loop (σ := (List Cb) × (Value) × (List Cb)) [11, 17, 92, 93, 94, 95, 96, 97, 98, 99, 100, 101, 102] (fun (seen2, v2, out2) => [(11, v2)]) (fun sg W => match sg with | (seen2, v2, out2) => (Below w.heap.size w W) ∧ (At W b0_0 _ 69) ∧ (At W b1_5 _ 69) ∧ (OwT encI 1 3 W w.heap.size v5_1 _) ∧ (MapT keyC Value.bool W bn _) ∧ (MapT keyC Value.bool W b12_0 _) ∧ (MapT keyC Value.bool W b12_1 _) ∧ (IterT keyC Value.bool W b23_1 bn (allT now) seen2) ∧ (OwT encC 2 55 W w.heap.size v2 (out2)) ∧ (∀ c, c ∈ out2 ↔ c ∈ out ∨ (c ∈ seen2 ∧ c ∉ ml)) ∧ (Rising out2) ∧ (True)) (fun (seen2, v2, out2) => (allT now).length - seen2.length) (([], v0, out)) ⟨rfl, trivial⟩ ⟨hB, hm0_0, hm1_5, hP5_1, hmN, hm12_0, hm12_1, hm23_1, ho, o2_nil, hRis, trivial⟩ ?_
      clear hB hm0_0 hm1_5 hP5_1 hmN ho hm13_1 hm12_0 hm12_1 hm23_1
      rintro ⟨seen2, v2, out2⟩ g101 W100 ⟨hB, hm0_0, hm1_5, hP5_1, hmN, hm12_0, hm12_1, hm23_1, ho2, hO2, hR2, _⟩ J102 hJ103
      refine WC_seq (fun K104 hK105 => ?_)
      refine WC_region ?_
      refine WL_step (dd := some 92) rfl rfl rfl (Y_next rfl hm23_1 (fun hnd24_0 => ?_) (fun kk24_0 vv24_0 W106 hin24_0 hni24_0 hG107 hm108 => ?_))
      ·
       refine WL_val (dd := some 93) rfl rfl rfl (r_ext1_0 (h := rfl)) ?_
       refine WL_nil ?_
       refine hK105 _ _ ?_
       clear hK105 K104
       refine WC_seq (fun K109 hK110 => ?_)
       refine WC_cond_false rfl ?_
       refine WC_exit ?_
       refine hK94 _ _ ?_
       clear hK110 K109
       clear hJ103 J102
       clear hK94 K93
       have hseen2 := seen_all hm23_1 hnd24_0
       refine WC_region ?_
       refine WL_val (dd := some 103) rfl rfl rfl (r_move (v := .map (some b12_0)) rfl) ?_
       refine WL_val (dd := some 8) rfl rfl rfl (r_assign (v := .map (some b12_0)) rfl) ?_
       refine WL_nil ?_
       refine hJ62 _ _ ((b12_0, nl, v2, out2, t')) ?_ ?_ ?_ ?_
       · repeat (first | exact agree.mask _ _ _ | refine agree.updo ?_ rfl _ | refine agree.updL ?_ _ rfl | refine agree.maskS rfl ?_)
       · exact ⟨rfl, rfl, trivial⟩
       · exact ⟨hB, hm0_0, hm1_5, hP5_1, hm12_0, (by exact ho2), (next_level hn8 hLv (by omega) hN'), (out_step hLv hOut hM' (o2_done hO2 hseen2)), hR2, (by omega), trivial⟩
       · show t' < t' + 1; omega
      ·
       replace hB := below_grown hB hG107 (Nat.le_refl _) (fun j hj => by cases hj; exact lo_b23_1)
       replace hm0_0 := At.grownIter hm0_0 hm23_1 hG107
       replace hm1_5 := At.grownIter hm1_5 hm23_1 hG107
       replace hP5_1 := OwT.grownIter hP5_1 hm23_1 hG107
       replace hmN := MapT.grownIter hmN hm23_1 hG107
       replace hm12_0 := MapT.grownIter hm12_0 hm23_1 hG107
       replace hm12_1 := MapT.grownIter hm12_1 hm23_1 hG107
       replace ho2 := OwT.grownIter ho2 hm23_1 hG107
       clear hG107
       replace hm23_1 := hm108
       clear hm108
       refine WL_val (dd := some 93) rfl rfl rfl (r_ext3_0 (h := rfl)) ?_
       refine WL_nil ?_
       refine hK105 _ _ ?_
       clear hK105 K104
       refine WC_seq (fun K111 hK112 => ?_)
       refine WC_cond_true rfl ?_
       refine WC_skip ?_
       refine hK112 _ _ ?_
       clear hK112 K111
       refine WC_block ?_
       refine WC_seq (fun K113 hK114 => ?_)
       have hkn := (mem_allT hin24_0).1
       obtain ⟨hkm, hkv⟩ := level_lt hLv hn8 hkn
       refine WC_region ?_
       refine WL_val (dd := some 94) rfl rfl rfl (r_entry rfl hm23_1 hin24_0) ?_
       refine WL_val (dd := some 95) rfl rfl rfl (r_ext2_0 (h := rfl)) ?_
       refine WL_step (dd := some 17) rfl rfl rfl (Y_alloc tb_z55 rfl (fun b25_2 W115 hb116 hE117 hm25_2 => ?_))
       have lo_b25_2 : w.heap.size ≤ b25_2 := hb116 ▸ (Below.size hB)
       have no_v2_b25_2 := OwT.neB (b := b25_2) ho2 (Nat.le_of_eq hb116.symm)
       clear hb116
       replace hB := below_ext hB hE117 (Nat.le_refl _)
       replace hm0_0 := hE117.at hm0_0
       replace hm1_5 := hE117.at hm1_5
       replace hP5_1 := hE117.ow hP5_1
       replace hmN := hE117.mapT hmN
       replace hm12_0 := hE117.mapT hm12_0
       replace hm12_1 := hE117.mapT hm12_1
       replace hm23_1 := hE117.iterT hm23_1
       replace ho2 := hE117.ow ho2
       clear hE117
       refine WL_step (dd := none) rfl rfl rfl (Y_storeW rfl rfl tb_ag55 rfl hm25_2 rfl (by rfl) (fun W118 hG119 hm120 => ?_))
       replace hB := below_grown hB hG119 (Nat.le_refl _) (fun j hj => by cases hj; exact lo_b25_2)
       replace hm0_0 := At.grownAt hm0_0 hm25_2 hG119 (by decide)
       replace hm1_5 := At.grownAt hm1_5 hm25_2 hG119 (by decide)
       replace hP5_1 := OwT.grownAt hP5_1 hm25_2 hG119 (by decide)
       replace hmN := MapT.grownAt hmN hm25_2 hG119
       replace hm12_0 := MapT.grownAt hm12_0 hm25_2 hG119
       replace hm12_1 := MapT.grownAt hm12_1 hm25_2 hG119
       replace hm23_1 := IterT.grownAt hm23_1 hm25_2 hG119
       replace ho2 := OwT.grownAtNe ho2 no_v2_b25_2 hG119
       clear hG119 hm25_2
       have hm25_2 := hm120
       clear hm120
       refine WL_nil ?_
       refine hK114 _ _ ?_
       clear hK114 K113
       refine WC_seq (fun K121 hK122 => ?_)
       refine WC_region ?_
       refine WL_val (dd := some 96) rfl rfl rfl (r_move (v := .map (some b12_1)) rfl) ?_
       refine WL_val (dd := some 97) rfl rfl rfl (r_loadW rfl tb_ag55 rfl hm25_2) ?_
       refine WL_val (dd := some 98) rfl rfl rfl (r_lookup (enc := keyC) (encV := Value.bool) (v0 := false) (k := ⟨kk24_0.m, kk24_0.v⟩) rfl rfl tb_mp130 tb_key55 (fun a => ⟨a, rfl⟩) keyC_inj tb_z4 rfl hm12_1) ?_
       refine WL_val (dd := some 99) rfl rfl rfl (r_not rfl) ?_
       refine WL_nil ?_
       refine hK122 _ _ ?_
       clear hK122 K121
       refine WC_cond (b := _) rfl (fun hc7 => ?_) (fun hc7 => ?_)
       ·
        try with_reducible replace hc7 := of_decide_eq_true hc7
        have hsm := o2_small hLv hn8 hOut hO2 (fun c hc => iter_sub hm23_1 c (List.mem_cons_of_mem _ hc)) hR2
        refine WC_region ?_
        refine WL_val (dd := some 100) rfl rfl rfl (r_move (v := v2) rfl) ?_
        refine WL_val (dd := some 101) rfl rfl rfl (r_loadW rfl tb_ag55 rfl hm25_2) ?_
        refine WL_call (dd := some 102) rfl rfl rfl (r_call2 tb_c110 (v0 := v2) rfl (v1 := .agg #[_, _]) rfl) (C_prime_insert _ _ _ _ ho2.sl (by first | assumption | omega)) (fun v27_2 W123 hE124 hP27_2 => ?_)
        have hlt125 := OwT.lt2 ho2
        have hsz126 := (Below.size hB)
        replace hB := below_ext hB hE124 (Nat.le_refl _)
        replace hm0_0 := hE124.at hm0_0
        replace hm1_5 := hE124.at hm1_5
        replace hP5_1 := hE124.ow hP5_1
        replace hmN := hE124.mapT hmN
        replace hm12_0 := hE124.mapT hm12_0
        replace hm12_1 := hE124.mapT hm12_1
        replace hm23_1 := hE124.iterT hm23_1
        replace ho2 := hE124.ow ho2
        replace hm25_2 := hE124.at hm25_2
        clear hE124
        have hap127 := Apart.new hlt125 hP27_2
        replace hP27_2 := OwT.mono hP27_2 hsz126
        clear hsz126
        refine WL_val (dd := some 11) rfl rfl rfl (r_assign (v := v27_2) rfl) ?_
        refine WL_nil ?_
        refine hJ103 _ _ ((kk24_0 :: seen2, v27_2, insC out2 kk24_0)) ?_ ?_ ?_ ?_
        · repeat (first | exact agree.mask _ _ _ | refine agree.updo ?_ rfl _ | refine agree.updL ?_ _ rfl | refine agree.maskS rfl ?_)
        · exact ⟨rfl, trivial⟩
        · exact ⟨hB, hm0_0, hm1_5, hP5_1, hmN, hm12_0, hm12_1, hm23_1, (by exact hP27_2), (o2_take hO2 (not_in hc7)), (rising_insC hR2 (o2_new hLv hOut hO2 hkn hni24_0)), trivial⟩
        · have hle := IterT.len_le hm23_1; show (allT now).length - (kk24_0 :: seen2).length < (allT now).length - seen2.length; simp only [List.length_cons] at hle ⊢; omega
       ·
        try with_reducible replace hc7 := of_decide_eq_false hc7
        refine WC_skip ?_
        refine hJ103 _ _ ((kk24_0 :: seen2, v2, out2)) ?_ ?_ ?_ ?_
        · repeat (first | exact agree.mask _ _ _ | refine agree.updo ?_ rfl _ | refine agree.updL ?_ _ rfl | refine agree.maskS rfl ?_)
        · exact ⟨rfl, trivial⟩
        · exact ⟨hB, hm0_0, hm1_5, hP5_1, hmN, hm12_0, hm12_1, hm23_1, (by exact ho2), (o2_pass hO2 (is_in hc7)), hR2, trivial⟩
        · have hle := IterT.len_le hm23_1; show (allT now).length - (kk24_0 :: seen2).length < (allT now).length - seen2.length; simp only [List.length_cons] at hle ⊢; omega
     ·
      replace hB := below_grown hB hG89 (Nat.le_refl _) (fun j hj => by cases hj; exact lo_b13_1)
      replace hm0_0 := At.grownIter hm0_0 hm13_1 hG89
      replace hm1_5 := At.grownIter hm1_5 hm13_1 hG89
      replace hP5_1 := OwT.grownIter hP5_1 hm13_1 hG89
      replace hmN := MapT.grownIter hmN hm13_1 hG89
      replace ho := OwT.grownIter ho hm13_1 hG89
      replace hm12_0 := MapT.grownIter hm12_0 hm13_1 hG89
      replace hm12_1 := MapT.grownIter hm12_1 hm13_1 hG89
      clear hG89
      replace hm13_1 := hm90
      clear hm90
      refine WL_val (dd := some 55) rfl rfl rfl (r_ext3_0 (h := rfl)) ?_
      refine WL_nil ?_
      refine hK87 _ _ ?_
      clear hK87 K86
      refine WC_seq (fun K128 hK129 => ?_)
      refine WC_cond_true rfl ?_
      refine WC_skip ?_
      refine hK129 _ _ ?_
      clear hK129 K128
      refine WC_block ?_
      refine WC_seq (fun K130 hK131 => ?_)
      have hkn := (mem_allT hin14_0).1
      obtain ⟨hkm, hkv⟩ := level_lt hLv hn8 hkn
      refine WC_region ?_
      refine WL_val (dd := some 56) rfl rfl rfl (r_entry rfl hm13_1 hin14_0) ?_
      refine WL_val (dd := some 57) rfl rfl rfl (r_ext2_0 (h := rfl)) ?_
      refine WL_step (dd := some 14) rfl rfl rfl (Y_alloc tb_z55 rfl (fun b15_2 W132 hb133 hE134 hm15_2 => ?_))
      have lo_b15_2 : w.heap.size ≤ b15_2 := hb133 ▸ (Below.size hB)
      have no_v0_b15_2 := OwT.neB (b := b15_2) ho (Nat.le_of_eq hb133.symm)
      clear hb133
      replace hB := below_ext hB hE134 (Nat.le_refl _)
      replace hm0_0 := hE134.at hm0_0
      replace hm1_5 := hE134.at hm1_5
      replace hP5_1 := hE134.ow hP5_1
      replace hmN := hE134.mapT hmN
      replace ho := hE134.ow ho
      replace hm13_1 := hE134.iterT hm13_1
      replace hm12_0 := hE134.mapT hm12_0
      replace hm12_1 := hE134.mapT hm12_1
      clear hE134
      refine WL_step (dd := none) rfl rfl rfl (Y_storeW rfl rfl tb_ag55 rfl hm15_2 rfl (by rfl) (fun W135 hG136 hm137 => ?_))
      replace hB := below_grown hB hG136 (Nat.le_refl _) (fun j hj => by cases hj; exact lo_b15_2)
      replace hm0_0 := At.grownAt hm0_0 hm15_2 hG136 (by decide)
      replace hm1_5 := At.grownAt hm1_5 hm15_2 hG136 (by decide)
      replace hP5_1 := OwT.grownAt hP5_1 hm15_2 hG136 (by decide)
      replace hmN := MapT.grownAt hmN hm15_2 hG136
      replace ho := OwT.grownAtNe ho no_v0_b15_2 hG136
      replace hm13_1 := IterT.grownAt hm13_1 hm15_2 hG136
      replace hm12_0 := MapT.grownAt hm12_0 hm15_2 hG136
      replace hm12_1 := MapT.grownAt hm12_1 hm15_2 hG136
      clear hG136 hm15_2
      have hm15_2 := hm137
      clear hm137
      refine WL_nil ?_
      refine hK131 _ _ ?_
      clear hK131 K130
      refine WC_seq (fun K138 hK139 => ?_)
      refine WC_region ?_
      refine WL_val (dd := some 58) rfl rfl rfl (r_move (v := .int .i64 _) rfl) ?_
      refine WL_val (dd := some 59) rfl rfl rfl (r_move (v := .int .i64 0) rfl) ?_
      refine WL_nil ?_
      refine hK139 _ _ ?_
      clear hK139 K138
      refine WC_block ?_
      refine WC_loop (σ := (Nat) × (List Cb) × (List Cb)) [15, 16, 59, 60, 61, 62, 63, 64, 65, 66, 67, 68, 69, 70, 71, 72, 73, 74, 75, 76, 77, 78, 79, 80, 81, 82, 83, 84, 85, 86, 87, 88, 89] (fun (i, nl2, ml2) => [(59, .int .i64 (i : Int))]) (fun sg W => match sg with | (i, nl2, ml2) => (Below w.heap.size w W) ∧ (At W b0_0 _ 69) ∧ (At W b1_5 _ 69) ∧ (OwT encI 1 3 W w.heap.size v5_1 _) ∧ (MapT keyC Value.bool W bn _) ∧ (OwT encC 2 55 W w.heap.size v0 _) ∧ (IterT keyC Value.bool W b13_1 bn _ _) ∧ (At W b15_2 _ 55) ∧ (MapT keyC Value.bool W b12_0 (allT nl2)) ∧ (MapT keyC Value.bool W b12_1 (allT ml2)) ∧ ((i : Int) ≤ n) ∧ (∀ d, d ∈ nl2 ↔ NextOf now n seen d ∨ ∃ q, q < i ∧ pairs now kk14_0 q ∧ d = woC kk14_0 q) ∧ (∀ d, d ∈ ml2 ↔ MergedOf now n seen d ∨ (d = kk14_0 ∧ ∃ q, q < i ∧ pairs now kk14_0 q)) ∧ (True)) (fun (i, nl2, ml2) => n.toNat - i) ((0, nl, ml)) ⟨rfl, trivial⟩ ⟨hB, hm0_0, hm1_5, hP5_1, hmN, ho, hm13_1, hm15_2, hm12_0, hm12_1, (by omega), (next_zero hN), (merged_zero hM), trivial⟩ ?_
      clear hB hm0_0 hm1_5 hP5_1 hmN ho hm13_1 hm12_0 hm12_1 hm15_2
      rintro ⟨i, nl2, ml2⟩ g141 W140 ⟨hB, hm0_0, hm1_5, hP5_1, hmN, ho, hm13_1, hm15_2, hm12_0, hm12_1, hi, hN2, hM2, _⟩ J142 hJ143
      refine WC_seq (fun K144 hK145 => ?_)
      refine WC_region ?_
      refine WL_val (dd := some 60) rfl rfl rfl (r_lss rfl rfl) ?_
      refine WL_nil ?_
      refine hK145 _ _ ?_
      clear hK145 K144
      refine WC_seq (fun K146 hK147 => ?_)
      refine WC_cond (b := _) rfl (fun hc4 => ?_) (fun hc4 => ?_)
      ·
       try with_reducible replace hc4 := of_decide_eq_true hc4
       refine WC_skip ?_
       refine hK147 _ _ ?_
       clear hK147 K146
       refine WC_seq (fun K148 hK149 => ?_)
       refine WC_block ?_
       refine WC_seq (fun K150 hK151 => ?_)
       refine WC_region ?_
       refine WL_val (dd := some 61) rfl rfl rfl (r_move (v := .int .i64 _) rfl) ?_
       refine WL_val (dd := some 15) rfl rfl rfl (r_assign (v := .int .i64 _) rfl) ?_
       refine WL_nil ?_
       refine hK151 _ _ ?_
       clear hK151 K150
       refine WC_seq (fun K152 hK153 => ?_)
       have h7 := pow7 (show i < 8 by omega)
       have hd : kk14_0.m / 2 ^ i ≤ kk14_0.m := Nat.div_le_self _ _
       refine WC_draw Ext tb_mix (fun W154 hE155 => ?_)
       replace hB := below_ext hB hE155 (Nat.le_refl _)
       replace hm0_0 := hE155.at hm0_0
       replace hm1_5 := hE155.at hm1_5
       replace hP5_1 := hE155.ow hP5_1
       replace hmN := hE155.mapT hmN
       replace ho := hE155.ow ho
       replace hm13_1 := hE155.iterT hm13_1
       replace hm15_2 := hE155.at hm15_2
       replace hm12_0 := hE155.mapT hm12_0
       replace hm12_1 := hE155.mapT hm12_1
       have hS := Ext.refl W154
       refine WT_take (dd := some 62) 0 rfl (by kernel_rfl) (by kernel_rfl) (by kernel_rfl) rfl rfl rfl (fun _wq _hq => r_fieldAddr (b := _) (o := _) rfl tb_fo55_0) hS ?_
       refine WT_take (dd := some 63) 1 rfl (by kernel_rfl) (by kernel_rfl) (by kernel_rfl) rfl rfl rfl (fun _wq hq => r_load1 (v := .int .u8 _) rfl tb_sc5 (At.cell (hq.at hm15_2) rfl)) hS ?_
       refine WT_take (dd := some 64) 2 rfl (by kernel_rfl) (by kernel_rfl) (by kernel_rfl) rfl rfl rfl (fun _wq _hq => r_fieldAddr (b := _) (o := _) rfl tb_fo55_1) hS ?_
       refine WT_take (dd := some 65) 3 rfl (by kernel_rfl) (by kernel_rfl) (by kernel_rfl) rfl rfl rfl (fun _wq hq => r_load1 (v := .int .u8 _) rfl tb_sc5 (At.cell (hq.at hm15_2) rfl)) hS ?_
       refine WT_take (dd := some 66) 4 rfl (by kernel_rfl) (by kernel_rfl) (by kernel_rfl) rfl rfl rfl (fun _wq _hq => r_move (v := .int .i64 _) rfl) hS ?_
       refine WT_take (dd := some 67) 5 rfl (by kernel_rfl) (by kernel_rfl) (by kernel_rfl) rfl rfl rfl (fun _wq _hq => r_shl (m := 1) rfl rfl (by omega) (by simp only [IntKind.bits]; omega) (by simp only [topN, Int.toNat_natCast, Nat.one_mul]; omega)) hS ?_
       refine WT_take (dd := some 68) 6 rfl (by kernel_rfl) (by kernel_rfl) (by kernel_rfl) rfl rfl rfl (fun _wq _hq => r_xor (n := _) rfl rfl rfl (by first | assumption | (simp only [topN]; omega) | (simp only [topN]; decide)) (by simp only [topN, Int.toNat_natCast, Nat.one_mul]; omega)) hS ?_
       refine WT_take (dd := some 69) 7 rfl (by kernel_rfl) (by kernel_rfl) (by kernel_rfl) rfl rfl rfl (fun _wq _hq => tb_build55_0_1 (h0 := rfl) (k0 := rfl) (h1 := rfl) (k1 := rfl) (c0_0 := .int .u8 _) (c1_0 := .int .u8 _)) hS ?_
       refine WT_one (dd := some 16) 8 (by kernel_rfl) rfl rfl rfl rfl (Y_alloc tb_z55 rfl (fun b19_8 W156 hb157 hE158 hm19_8 => ⟨.inl (hS.trans hE158), ?_⟩))
       have lo_b19_8 : w.heap.size ≤ b19_8 := hb157 ▸ (Below.size hB)
       have no_v0_b19_8 := OwT.neB (b := b19_8) ho (Nat.le_of_eq hb157.symm)
       have ne_b15_2_b19_8 : b15_2 ≠ b19_8 := Nat.ne_of_lt (hb157 ▸ hm15_2.lt)
       clear hb157
       have sv159_hB := hB
       have sv159_hm0_0 := hm0_0
       have sv159_hm1_5 := hm1_5
       have sv159_hP5_1 := hP5_1
       have sv159_hmN := hmN
       have sv159_ho := ho
       have sv159_hm13_1 := hm13_1
       have sv159_hm15_2 := hm15_2
       have sv159_hm12_0 := hm12_0
       have sv159_hm12_1 := hm12_1
       replace hB := below_ext hB hE158 (Nat.le_refl _)
       replace hm0_0 := hE158.at hm0_0
       replace hm1_5 := hE158.at hm1_5
       replace hP5_1 := hE158.ow hP5_1
       replace hmN := hE158.mapT hmN
       replace ho := hE158.ow ho
       replace hm13_1 := hE158.iterT hm13_1
       replace hm15_2 := hE158.at hm15_2
       replace hm12_0 := hE158.mapT hm12_0
       replace hm12_1 := hE158.mapT hm12_1
       replace hS := hS.trans hE158
       clear hE158
       refine WT_one (dd := none) 9 (by kernel_rfl) rfl rfl rfl rfl (Y_storeW rfl rfl tb_ag55 rfl hm19_8 rfl (by rfl) (fun W160 hG161 hm162 => ⟨.inr (by kernel_rfl), ?_⟩))
       replace hB := below_grown hB hG161 (Nat.le_refl _) (fun j hj => by cases hj; exact lo_b19_8)
       replace hm0_0 := At.grownAt hm0_0 hm19_8 hG161 (by decide)
       replace hm1_5 := At.grownAt hm1_5 hm19_8 hG161 (by decide)
       replace hP5_1 := OwT.grownAt hP5_1 hm19_8 hG161 (by decide)
       replace hmN := MapT.grownAt hmN hm19_8 hG161
       replace ho := OwT.grownAtNe ho no_v0_b19_8 hG161
       replace hm13_1 := IterT.grownAt hm13_1 hm19_8 hG161
       replace hm15_2 := At.grownNe hm15_2 ne_b15_2_b19_8 hG161
       replace hm12_0 := MapT.grownAt hm12_0 hm19_8 hG161
       replace hm12_1 := MapT.grownAt hm12_1 hm19_8 hG161
       clear hG161 hm19_8
       have hm19_8 := hm162
       clear hm162
       refine WT_done (by kernel_rfl) ?_
       try clear sv159_hB sv159_hm0_0 sv159_hm1_5 sv159_hP5_1 sv159_hmN sv159_ho sv159_hm13_1 sv159_hm15_2 sv159_hm12_0 sv159_hm12_1
       refine hK153 _ _ ?_
       clear hK153 K152
       refine WC_seq (fun K163 hK164 => ?_)
       refine WC_region ?_
       refine WL_val (dd := some 70) rfl rfl rfl (r_fieldAddr (b := _) (o := _) rfl tb_fo55_0) ?_
       refine WL_val (dd := some 71) rfl rfl rfl (r_load1 (v := .int .u8 _) rfl tb_sc5 (At.cell hm15_2 rfl)) ?_
       refine WL_val (dd := some 72) rfl rfl rfl (r_move (v := .int .i64 _) rfl) ?_
       refine WL_val (dd := some 73) rfl rfl rfl (r_shr rfl rfl (by omega) (by simp only [IntKind.bits]; omega)) ?_
       refine WL_val (dd := some 74) rfl rfl rfl (r_and (n := 1) rfl rfl rfl (by simp only [topN, Int.toNat_natCast]; omega) (by first | assumption | (simp only [topN]; omega) | (simp only [topN]; decide))) ?_
       refine WL_val (dd := some 75) rfl rfl rfl (r_eql rfl rfl) ?_
       refine WL_split (dd := some 76) rfl rfl rfl (r_move (v := .bool _) rfl) (fun hs20_6 => ?_) (fun hs20_6 => ?_)
       ·
        try with_reducible replace hs20_6 := of_decide_eq_true hs20_6
        refine WL_val (dd := some 77) rfl rfl rfl (r_move (v := .map (some bn)) rfl) ?_
        refine WL_val (dd := some 78) rfl rfl rfl (r_loadW rfl tb_ag55 rfl hm19_8) ?_
        refine WL_val (dd := some 79) rfl rfl rfl (r_lookup (enc := keyC) (encV := Value.bool) (v0 := false) (k := ⟨kk14_0.m, kk14_0.v ^^^ 1 * 2 ^ ((i : Nat) : Int).toNat⟩) rfl rfl tb_mp130 tb_key55 (fun a => ⟨a, rfl⟩) keyC_inj tb_z4 rfl hmN) ?_
        refine WL_val (dd := some 80) rfl rfl rfl (r_pick_t rfl (v := .bool _) rfl) ?_
        refine WL_nil ?_
        refine hK164 _ _ ?_
        clear hK164 K163
        refine WC_cond (b := _) rfl (fun hc5 => ?_) (fun hc5 => ?_)
        ·
         try with_reducible replace hc5 := of_decide_eq_true hc5
         refine WC_draw (fun a b => a.grownBy b (some b12_0)) tb_mix (fun W165 hE166 => ?_)
         replace hB := below_ext hB hE166 (Nat.le_refl _)
         replace hm0_0 := hE166.at hm0_0
         replace hm1_5 := hE166.at hm1_5
         replace hP5_1 := hE166.ow hP5_1
         replace hmN := hE166.mapT hmN
         replace ho := hE166.ow ho
         replace hm13_1 := hE166.iterT hm13_1
         replace hm15_2 := hE166.at hm15_2
         replace hm12_0 := hE166.mapT hm12_0
         replace hm12_1 := hE166.mapT hm12_1
         replace hm19_8 := hE166.at hm19_8
         have hrow167 := hm12_0
         have hS := World.grownBy.refl W165 (some b12_0)
         refine WT_take (dd := some 81) 0 rfl (by kernel_rfl) (by kernel_rfl) (by kernel_rfl) rfl rfl rfl (fun _wq _hq => r_move (v := .map (some b12_0)) rfl) hS ?_
         refine WT_take (dd := some 82) 1 rfl (by kernel_rfl) (by kernel_rfl) (by kernel_rfl) rfl rfl rfl (fun _wq hq => r_loadW rfl tb_ag55 rfl (At.grownMap hm15_2 hrow167 hq)) hS ?_
         refine WT_take (dd := some 83) 2 rfl (by kernel_rfl) (by kernel_rfl) (by kernel_rfl) rfl rfl rfl (fun _wq _hq => r_move (v := .int .i64 _) rfl) hS ?_
         refine WT_take (dd := some 85) 4 rfl (by kernel_rfl) (by kernel_rfl) (by kernel_rfl) rfl rfl rfl (fun _wq _hq => r_move (v := .map (some b12_1)) rfl) hS ?_
         refine WT_take (dd := some 86) 5 rfl (by kernel_rfl) (by kernel_rfl) (by kernel_rfl) rfl rfl rfl (fun _wq hq => r_loadW rfl tb_ag55 rfl (At.grownMap hm15_2 hrow167 hq)) hS ?_
         refine WT_one (dd := some 84) 3 (by kernel_rfl) rfl rfl rfl rfl (Yd.call (r_call2 tb_c109 (v0 := .agg #[_, _]) rfl (v1 := .int .i64 _) rfl) (C_cube_Without _ _ _ _ (by first | assumption | omega) (by first | assumption | omega)) (fun v21_3 W168 hE169 hP21_3 => ⟨.inl (grownBy_trans hS (Ext.grown hE169 (some b12_0))), ?_⟩))
         have hsz170 := (Below.size hB)
         have sv171_hB := hB
         have sv171_hm0_0 := hm0_0
         have sv171_hm1_5 := hm1_5
         have sv171_hP5_1 := hP5_1
         have sv171_hmN := hmN
         have sv171_ho := ho
         have sv171_hm13_1 := hm13_1
         have sv171_hm15_2 := hm15_2
         have sv171_hm12_0 := hm12_0
         have sv171_hm12_1 := hm12_1
         have sv171_hm19_8 := hm19_8
         replace hB := below_ext hB hE169 (Nat.le_refl _)
         replace hm0_0 := hE169.at hm0_0
         replace hm1_5 := hE169.at hm1_5
         replace hP5_1 := hE169.ow hP5_1
         replace hmN := hE169.mapT hmN
         replace ho := hE169.ow ho
         replace hm13_1 := hE169.iterT hm13_1
         replace hm15_2 := hE169.at hm15_2
         replace hm12_0 := hE169.mapT hm12_0
         replace hm12_1 := hE169.mapT hm12_1
         replace hm19_8 := hE169.at hm19_8
         replace hS := grownBy_trans hS (Ext.grown hE169 (some b12_0))
         clear hE169
         clear hsz170
         obtain rfl := hP21_3
         refine WT_one (dd := some 87) 6 (by kernel_rfl) rfl rfl rfl rfl (Y_mapEntry (enc := keyC) (encV := Value.bool) (v0 := false) (k := (woC kk14_0 i)) rfl rfl tb_mp130 tb_key55 (fun a => ⟨a, rfl⟩) keyC_inj tb_z4 rfl hm12_0 (fun st21_6 W172 hG173 hm174 => ⟨.inl (grownBy_trans hS hG173), ?_⟩))
         replace hS := grownBy_trans hS hG173
         replace hB := below_grown hB hG173 (Nat.le_refl _) (fun j hj => by cases hj; exact lo_b12_0)
         replace hm0_0 := At.grownMap hm0_0 hm12_0 hG173
         replace hm1_5 := At.grownMap hm1_5 hm12_0 hG173
         replace hP5_1 := OwT.grownMap hP5_1 hm12_0 hG173
         replace hmN := MapT.grownNe hmN ne_bn_b12_0 hG173
         replace ho := OwT.grownMap ho hm12_0 hG173
         replace hm13_1 := IterT.grownMap hm13_1 hm12_0 ne_bn_b12_0 hG173
         replace hm15_2 := At.grownMap hm15_2 hm12_0 hG173
         replace hm12_1 := MapT.grownNe hm12_1 (Ne.symm ne_b12_0_b12_1) hG173
         replace hm19_8 := At.grownMap hm19_8 hm12_0 hG173
         clear hG173 hm12_0
         have hm12_0 := hm174
         clear hm174
         refine WT_take (dd := some 88) 7 rfl (by kernel_rfl) (by kernel_rfl) (by kernel_rfl) rfl rfl rfl (fun _wq _hq => r_ext2_1 (h := rfl)) hS ?_
         refine WT_one (dd := none) 8 (by kernel_rfl) rfl rfl rfl rfl (Y_entryStore (encV := Value.bool) (v := true) rfl rfl rfl hm12_0 (fun W175 hG176 hm177 => ⟨.inl (grownBy_trans hS hG176), ?_⟩))
         replace hS := grownBy_trans hS hG176
         replace hB := below_grown hB hG176 (Nat.le_refl _) (fun j hj => by cases hj; exact lo_b12_0)
         replace hm0_0 := At.grownMapP hm0_0 hm12_0 hG176
         replace hm1_5 := At.grownMapP hm1_5 hm12_0 hG176
         replace hP5_1 := OwT.grownMapP hP5_1 hm12_0 hG176
         replace hmN := MapT.grownNe hmN ne_bn_b12_0 hG176
         replace ho := OwT.grownMapP ho hm12_0 hG176
         replace hm13_1 := IterT.grownMapP hm13_1 hm12_0 ne_bn_b12_0 hG176
         replace hm15_2 := At.grownMapP hm15_2 hm12_0 hG176
         replace hm12_1 := MapT.grownNe hm12_1 (Ne.symm ne_b12_0_b12_1) hG176
         replace hm19_8 := At.grownMapP hm19_8 hm12_0 hG176
         clear hG176 hm12_0
         have hm12_0 := hm177
         clear hm177
         rw [allT_put] at hm12_0
         refine WT_one (dd := none) 9 (by kernel_rfl) rfl rfl rfl rfl (Y_mapUpdate (enc := keyC) (encV := Value.bool) (k := kk14_0) (v := true) rfl rfl rfl tb_mp130 tb_key55 (fun a => ⟨a, rfl⟩) keyC_inj hm12_1 (fun W178 hG179 hm180 => ⟨.inr (by kernel_rfl), ?_⟩))
         replace hB := below_grown hB hG179 (Nat.le_refl _) (fun j hj => by cases hj; exact lo_b12_1)
         replace hm0_0 := At.grownMap hm0_0 hm12_1 hG179
         replace hm1_5 := At.grownMap hm1_5 hm12_1 hG179
         replace hP5_1 := OwT.grownMap hP5_1 hm12_1 hG179
         replace hmN := MapT.grownNe hmN ne_bn_b12_1 hG179
         replace ho := OwT.grownMap ho hm12_1 hG179
         replace hm13_1 := IterT.grownMap hm13_1 hm12_1 ne_bn_b12_1 hG179
         replace hm15_2 := At.grownMap hm15_2 hm12_1 hG179
         replace hm12_0 := MapT.grownNe hm12_0 ne_b12_0_b12_1 hG179
         replace hm19_8 := At.grownMap hm19_8 hm12_1 hG179
         clear hG179 hm12_1
         have hm12_1 := hm180
         clear hm180
         rw [allT_put] at hm12_1
         refine WT_done (by kernel_rfl) ?_
         try clear sv171_hB sv171_hm0_0 sv171_hm1_5 sv171_hP5_1 sv171_hmN sv171_ho sv171_hm13_1 sv171_hm15_2 sv171_hm19_8
         try clear hrow167
         refine hK149 _ _ ?_
         clear hK149 K148
         refine WC_region ?_
         refine WL_val (dd := some 89) rfl rfl rfl (r_addI rfl rfl (by omega) (by omega)) ?_
         refine WL_val (dd := some 59) rfl rfl rfl (r_move (v := .int .i64 _) rfl) ?_
         refine WL_nil ?_
         refine hJ143 _ _ ((i + 1, insK nl2 (woC kk14_0 i), insK ml2 kk14_0)) ?_ ?_ ?_ ?_
         · repeat (first | exact agree.mask _ _ _ | refine agree.updo ?_ rfl _ | refine agree.updL ?_ _ rfl | refine agree.maskS rfl ?_)
         · exact ⟨rfl, trivial⟩
         · exact ⟨hB, hm0_0, hm1_5, hP5_1, hmN, ho, hm13_1, hm15_2, hm12_0, hm12_1, (by omega), (next_put hN2 (pairs_yes hs20_6 hc5)), (merged_put hM2 (pairs_yes hs20_6 hc5)), trivial⟩
         · show n.toNat - (i + 1) < n.toNat - i; omega
        ·
         try with_reducible replace hc5 := of_decide_eq_false hc5
         refine WC_skip ?_
         refine hK149 _ _ ?_
         clear hK149 K148
         refine WC_region ?_
         refine WL_val (dd := some 89) rfl rfl rfl (r_addI rfl rfl (by omega) (by omega)) ?_
         refine WL_val (dd := some 59) rfl rfl rfl (r_move (v := .int .i64 _) rfl) ?_
         refine WL_nil ?_
         refine hJ143 _ _ ((i + 1, nl2, ml2)) ?_ ?_ ?_ ?_
         · repeat (first | exact agree.mask _ _ _ | refine agree.updo ?_ rfl _ | refine agree.updL ?_ _ rfl | refine agree.maskS rfl ?_)
         · exact ⟨rfl, trivial⟩
         · exact ⟨hB, hm0_0, hm1_5, hP5_1, hmN, ho, hm13_1, hm15_2, hm12_0, hm12_1, (by omega), (next_pass hN2 (pairs_no2 hc5)), (merged_pass hM2 (pairs_no2 hc5)), trivial⟩
         · show n.toNat - (i + 1) < n.toNat - i; omega
       ·
        try with_reducible replace hs20_6 := of_decide_eq_false hs20_6
        refine WL_skip (dd := some 77) rfl rfl rfl ?_
        refine WL_skip (dd := some 78) rfl rfl rfl ?_
        refine WL_skip (dd := some 79) rfl rfl rfl ?_
        refine WL_val (dd := some 80) rfl rfl rfl (r_pick_f rfl (v := .bool false) rfl) ?_
        refine WL_nil ?_
        refine hK164 _ _ ?_
        clear hK164 K163
        refine WC_cond_false rfl ?_
        refine WC_skip ?_
        refine hK149 _ _ ?_
        clear hK149 K148
        refine WC_region ?_
        refine WL_val (dd := some 89) rfl rfl rfl (r_addI rfl rfl (by omega) (by omega)) ?_
        refine WL_val (dd := some 59) rfl rfl rfl (r_move (v := .int .i64 _) rfl) ?_
        refine WL_nil ?_
        refine hJ143 _ _ ((i + 1, nl2, ml2)) ?_ ?_ ?_ ?_
        · repeat (first | exact agree.mask _ _ _ | refine agree.updo ?_ rfl _ | refine agree.updL ?_ _ rfl | refine agree.maskS rfl ?_)
        · exact ⟨rfl, trivial⟩
        · exact ⟨hB, hm0_0, hm1_5, hP5_1, hmN, ho, hm13_1, hm15_2, hm12_0, hm12_1, (by omega), (next_pass hN2 (pairs_no1 hs20_6)), (merged_pass hM2 (pairs_no1 hs20_6)), trivial⟩
        · show n.toNat - (i + 1) < n.toNat - i; omega
      ·
       try with_reducible replace hc4 := of_decide_eq_false hc4
       refine WC_exit ?_
       refine hJ85 _ _ ((kk14_0 :: seen, nl2, ml2)) ?_ ?_ ?_ ?_
       · repeat (first | exact agree.mask _ _ _ | refine agree.updo ?_ rfl _ | refine agree.updL ?_ _ rfl | refine agree.maskS rfl ?_)
       · exact trivial
       · exact ⟨hB, hm0_0, hm1_5, hP5_1, hmN, ho, hm13_1, hm12_0, hm12_1, (next_end hN2 (by omega)), (merged_end hM2 (by omega)), trivial⟩
       · have hle := IterT.len_le hm13_1; show (allT now).length - (kk14_0 :: seen).length < (allT now).length - seen.length; simp only [List.length_cons] at hle ⊢; omega
    ·
     try with_reducible replace hc2 := of_decide_eq_false hc2
     refine WC_exit ?_
     refine hK58 _ _ ?_
     clear hK64 K63
     clear hJ62 J61
     clear hK58 K57
     refine WC_seq (fun K181 hK182 => ?_)
     refine WC_region ?_
     refine WL_val (dd := some 104) rfl rfl rfl (r_move (v := v0) rfl) ?_
     refine WL_val (dd := some 4) rfl rfl rfl (r_assign (v := v0) rfl) ?_
     refine WL_val (dd := some 5) rfl rfl rfl (r_assign (v := .int .i64 0) rfl) ?_
     refine WL_nil ?_
     refine hK182 _ _ ?_
     clear hK182 K181
     refine WC_ret ?_
     repeat (first | refine thenQ_ret ?_ | refine blockQ_ret ?_)
     refine ret_tt (v := v0) rfl (v1 := .int .i64 0) rfl ?_
     refine ⟨hB, ?_⟩
     obtain rfl : now = [] := level_none hc2
     rw [if_pos hof]
     exact ⟨_, rfl, by rw [← out_all ht hLv hOut hRis]; exact ho⟩

end Go.Proofs.Ytpamgfbecgjjeaa
