/-
  The walks of package prime, but for the function All.
-/
import Derived.Test.YtdbcijijhhbkaaaProg
import Derived.Test.YtdbcijijhhbkaaaWCube
import Derived.Test.YtdbcijijhhbkaaaQm
namespace Go.Proofs.Ytdbcijijhhbkaaa
set_option linter.unusedVariables false
set_option linter.unusedSimpArgs false
open Go Go.RowKit

theorem tb_c29 : callB Try.prog 29 = true := by kernel_rfl
theorem tb_c82 : callB Try.prog 82 = true := by kernel_rfl
theorem tb_c131 : callB Try.prog 131 = true := by kernel_rfl
theorem tb_build34_ {f : Nat → Value} {w : World} {d : Option Nat} {ty : TypeId} {ps : String} {af : Array Edge} {g : Option (Nat × Bool)}    :
    (execOp (evF f) ⟨d, .build 34 #[], ty, ps, af, g⟩).run Try.prog w = .ok (.value (.agg #[.int .u8 0, .int .u8 0])) w := by
  obtain ⟨i0, hi0, hz0⟩ := Option.bind_eq_some_iff.1 (show (Try.prog.info? 34).bind (·.zero) = _ from tb_z34)
  obtain ⟨j5, hj5, hs5⟩ := Option.map_eq_some_iff.1 tb_size5
  simp [execOp, Instr.build, zeroValue, typeInfo, sizeOf, hi0, hz0, run_underlying Try.underlying34, Instr.fill, cells_agg, hj5, hs5]
theorem tb_c84 : callB Try.prog 84 = true := by kernel_rfl

theorem C_prime_Within (m u s : Nat) (n : Int) (w : World) (hm : m < 256) (hv : u < 256) :
    Fn Try.prog 131 #[.agg #[.int .u8 (m : Int), .int .u8 (u : Int)], setV s, .int .i64 n] w fun v w' => v = .bool (wiB m u s n) := by
 refine Fn_intro (n := 22) Try.func131 rfl rfl (Nat.le_of_ble_eq_true rfl) ?_
 have hB : Below w.heap.size w w := Below.refl _ _
 refine WC_seq (fun K1 hK2 => ?_)
 refine WC_region ?_
 refine WL_step (dd := some 3) rfl rfl rfl (Y_box (c := #[_, _]) rfl rfl (fun b0_0 W3 hb4 hE5 hm0_0 => ?_))
 have lo_b0_0 : w.heap.size ≤ b0_0 := hb4 ▸ (Below.size hB)
 clear hb4
 replace hB := below_ext hB hE5 (Nat.le_refl _)
 clear hE5
 refine WL_step (dd := some 4) rfl rfl rfl (Y_box (c := #[_, _, _, _]) rfl rfl (fun b0_1 W6 hb7 hE8 hm0_1 => ?_))
 have lo_b0_1 : w.heap.size ≤ b0_1 := hb7 ▸ (Below.size hB)
 clear hb7
 replace hB := below_ext hB hE8 (Nat.le_refl _)
 replace hm0_0 := hE8.at hm0_0
 clear hE8
 refine WL_val (dd := some 6) rfl rfl rfl (r_assign (v := .bool false) rfl) ?_
 refine WL_nil ?_
 refine hK2 _ _ ?_
 clear hK2 K1
 refine WC_seq (fun K9 hK10 => ?_)
 refine WC_region ?_
 refine WL_val (dd := some 10) rfl rfl rfl (r_loadW rfl tb_ag34 rfl hm0_0) ?_
 refine WL_val (dd := some 11) rfl rfl rfl (r_move (v := .int .i64 _) rfl) ?_
 refine WL_call (dd := some 12) rfl rfl rfl (r_call2 tb_c29 (v0 := .agg #[_, _]) rfl (v1 := .int .i64 _) rfl) (C_cube_Points _ _ _ _ (by first | assumption | omega) (by first | assumption | omega)) (fun v1_2 W11 hE12 hP1_2 => ?_)
 have hsz13 := (Below.size hB)
 replace hB := below_ext hB hE12 (Nat.le_refl _)
 replace hm0_0 := hE12.at hm0_0
 replace hm0_1 := hE12.at hm0_1
 clear hE12
 obtain ⟨sa, er, rfl, hhP1_2⟩ := pts_cases hP1_2
 clear hsz13
 refine WL_val (dd := some 9) rfl rfl rfl (r_move (v := .tuple #[.agg #[_, _, _, _], .int .i64 _]) rfl) ?_
 refine WL_val (dd := some 13) rfl rfl rfl (r_ext2_0 (h := rfl)) ?_
 refine WL_val (dd := some 14) rfl rfl rfl (r_ext2_1 (h := rfl)) ?_
 refine WL_step (dd := some 7) rfl rfl rfl (Y_alloc tb_z24 rfl (fun b1_6 W14 hb15 hE16 hm1_6 => ?_))
 have lo_b1_6 : w.heap.size ≤ b1_6 := hb15 ▸ (Below.size hB)
 have ne_b0_1_b1_6 : b0_1 ≠ b1_6 := Nat.ne_of_lt (hb15 ▸ hm0_1.lt)
 clear hb15
 replace hB := below_ext hB hE16 (Nat.le_refl _)
 replace hm0_0 := hE16.at hm0_0
 replace hm0_1 := hE16.at hm0_1
 clear hE16
 replace hm1_6 : At W14 b1_6 #[wv 0 0, wv 0 1, wv 0 2, wv 0 3] 24 := hm1_6
 refine WL_step (dd := none) rfl rfl rfl (Y_storeW rfl rfl tb_ag24 rfl hm1_6 rfl (by rfl) (fun W17 hG18 hm19 => ?_))
 replace hB := below_grown hB hG18 (Nat.le_refl _) (fun j hj => by cases hj; exact lo_b1_6)
 replace hm0_0 := At.grownAt hm0_0 hm1_6 hG18 (by decide)
 replace hm0_1 := At.grownNe hm0_1 ne_b0_1_b1_6 hG18
 clear hG18 hm1_6
 have hm1_6 := hm19
 clear hm19
 refine WL_val (dd := some 8) rfl rfl rfl (r_assign (v := .int .i64 _) rfl) ?_
 refine WL_nil ?_
 refine hK10 _ _ ?_
 clear hK10 K9
 refine WC_seq (fun K20 hK21 => ?_)
 refine WC_region ?_
 refine WL_val (dd := some 15) rfl rfl rfl (r_move (v := .int .i64 _) rfl) ?_
 refine WL_val (dd := some 16) rfl rfl rfl (r_eql rfl rfl) ?_
 refine WL_split (dd := some 17) rfl rfl rfl (r_move (v := .bool _) rfl) (fun hs2_2 => ?_) (fun hs2_2 => ?_)
 ·
  try with_reducible replace hs2_2 := of_decide_eq_true hs2_2
  refine WL_val (dd := some 18) rfl rfl rfl (r_loadW rfl tb_ag24 rfl hm1_6) ?_
  refine WL_val (dd := some 19) rfl rfl rfl (r_loadW rfl tb_ag24 rfl hm0_1) ?_
  refine WL_call (dd := some 20) rfl rfl rfl (r_call2 tb_c82 (v0 := .agg #[_, _, _, _]) rfl (v1 := .agg #[_, _, _, _]) rfl) (C_set_Within _ _ _) (fun v2_5 W22 hE23 hP2_5 => ?_)
  have hsz24 := (Below.size hB)
  replace hB := below_ext hB hE23 (Nat.le_refl _)
  replace hm0_0 := hE23.at hm0_0
  replace hm0_1 := hE23.at hm0_1
  replace hm1_6 := hE23.at hm1_6
  clear hE23
  clear hsz24
  obtain rfl := hP2_5
  refine WL_val (dd := some 21) rfl rfl rfl (r_pick_t rfl (v := .bool _) rfl) ?_
  refine WL_val (dd := some 6) rfl rfl rfl (r_assign (v := .bool _) rfl) ?_
  refine WL_nil ?_
  refine hK21 _ _ ?_
  clear hK21 K20
  refine WC_ret ?_
  repeat (first | refine thenQ_ret ?_ | refine blockQ_ret ?_)
  refine ret_t (v := .bool _) rfl ?_
  refine ⟨hB, ?_⟩
  first | exact congrArg Value.bool (wi_one hhP1_2 hs2_2) | exact congrArg Value.bool (wi_none hhP1_2 hs2_2)
 ·
  try with_reducible replace hs2_2 := of_decide_eq_false hs2_2
  refine WL_skip (dd := some 18) rfl rfl rfl ?_
  refine WL_skip (dd := some 19) rfl rfl rfl ?_
  refine WL_skip (dd := some 20) rfl rfl rfl ?_
  refine WL_val (dd := some 21) rfl rfl rfl (r_pick_f rfl (v := .bool false) rfl) ?_
  refine WL_val (dd := some 6) rfl rfl rfl (r_assign (v := .bool false) rfl) ?_
  refine WL_nil ?_
  refine hK21 _ _ ?_
  clear hK21 K20
  refine WC_ret ?_
  repeat (first | refine thenQ_ret ?_ | refine blockQ_ret ?_)
  refine ret_t (v := .bool false) rfl ?_
  refine ⟨hB, ?_⟩
  first | exact congrArg Value.bool (wi_one hhP1_2 hs2_2) | exact congrArg Value.bool (wi_none hhP1_2 hs2_2)

theorem C_prime_Grow (c : Cb) (s : Nat) (n : Int) (w : World) (hm : c.m < 256 ∧ c.v < 256) :
    Fn Try.prog 79 #[.agg #[.int .u8 (c.m : Int), .int .u8 (c.v : Int)], setV s, .int .i64 n] w fun v w' => v = if wiB c.m c.v s n = true then .tuple #[.agg #[.int .u8 ((growS s n c).m : Int), .int .u8 ((growS s n c).v : Int)], .int .i64 0] else .tuple #[.agg #[.int .u8 0, .int .u8 0], .int .i64 1] := by
 refine Fn_intro (n := 30) Try.func79 rfl rfl (Nat.le_of_ble_eq_true rfl) ?_
 have hB : Below w.heap.size w w := Below.refl _ _
 refine WC_seq (fun K1 hK2 => ?_)
 refine WC_region ?_
 refine WL_step (dd := some 3) rfl rfl rfl (Y_box (c := #[_, _]) rfl rfl (fun b0_0 W3 hb4 hE5 hm0_0 => ?_))
 have lo_b0_0 : w.heap.size ≤ b0_0 := hb4 ▸ (Below.size hB)
 clear hb4
 replace hB := below_ext hB hE5 (Nat.le_refl _)
 clear hE5
 refine WL_step (dd := some 4) rfl rfl rfl (Y_box (c := #[_, _, _, _]) rfl rfl (fun b0_1 W6 hb7 hE8 hm0_1 => ?_))
 have lo_b0_1 : w.heap.size ≤ b0_1 := hb7 ▸ (Below.size hB)
 clear hb7
 replace hB := below_ext hB hE8 (Nat.le_refl _)
 replace hm0_0 := hE8.at hm0_0
 clear hE8
 refine WL_step (dd := some 6) rfl rfl rfl (Y_alloc tb_z34 rfl (fun b0_2 W9 hb10 hE11 hm0_2 => ?_))
 have lo_b0_2 : w.heap.size ≤ b0_2 := hb10 ▸ (Below.size hB)
 have ne_b0_0_b0_2 : b0_0 ≠ b0_2 := Nat.ne_of_lt (hb10 ▸ hm0_0.lt)
 clear hb10
 replace hB := below_ext hB hE11 (Nat.le_refl _)
 replace hm0_0 := hE11.at hm0_0
 replace hm0_1 := hE11.at hm0_1
 clear hE11
 refine WL_val (dd := some 7) rfl rfl rfl (r_assign (v := .int .i64 0) rfl) ?_
 refine WL_nil ?_
 refine hK2 _ _ ?_
 clear hK2 K1
 refine WC_seq (fun K12 hK13 => ?_)
 refine WC_seq (fun K14 hK15 => ?_)
 refine WC_region ?_
 refine WL_val (dd := some 10) rfl rfl rfl (r_loadW rfl tb_ag34 rfl hm0_0) ?_
 refine WL_val (dd := some 11) rfl rfl rfl (r_loadW rfl tb_ag24 rfl hm0_1) ?_
 refine WL_val (dd := some 12) rfl rfl rfl (r_move (v := .int .i64 _) rfl) ?_
 refine WL_call (dd := some 13) rfl rfl rfl (r_call3 tb_c131 (v0 := .agg #[_, _]) rfl (v1 := .agg #[_, _, _, _]) rfl (v2 := .int .i64 _) rfl) (C_prime_Within _ _ _ _ _ (by first | assumption | omega) (by first | assumption | omega)) (fun v1_3 W16 hE17 hP1_3 => ?_)
 have hsz18 := (Below.size hB)
 replace hB := below_ext hB hE17 (Nat.le_refl _)
 replace hm0_0 := hE17.at hm0_0
 replace hm0_1 := hE17.at hm0_1
 replace hm0_2 := hE17.at hm0_2
 clear hE17
 clear hsz18
 obtain rfl := hP1_3
 refine WL_val (dd := some 14) rfl rfl rfl (r_not rfl) ?_
 refine WL_nil ?_
 refine hK15 _ _ ?_
 clear hK15 K14
 refine WC_cond (b := _) rfl (fun hc0 => ?_) (fun hc0 => ?_)
 ·
  try with_reducible replace hc0 := of_decide_eq_true hc0
  refine WC_seq (fun K19 hK20 => ?_)
  refine WC_region ?_
  refine WL_val (dd := some 15) rfl rfl rfl (tb_build34_ ) ?_
  refine WL_step (dd := none) rfl rfl rfl (Y_storeW rfl rfl tb_ag34 rfl hm0_2 rfl (by rfl) (fun W21 hG22 hm23 => ?_))
  replace hB := below_grown hB hG22 (Nat.le_refl _) (fun j hj => by cases hj; exact lo_b0_2)
  replace hm0_0 := At.grownNe hm0_0 ne_b0_0_b0_2 hG22
  replace hm0_1 := At.grownAt hm0_1 hm0_2 hG22 (by decide)
  clear hG22 hm0_2
  have hm0_2 := hm23
  clear hm23
  refine WL_val (dd := some 7) rfl rfl rfl (r_assign (v := .int .i64 1) rfl) ?_
  refine WL_nil ?_
  refine hK20 _ _ ?_
  clear hK20 K19
  refine WC_ret ?_
  repeat (first | refine thenQ_ret ?_ | refine blockQ_ret ?_)
  try clear hK13 K12
  refine ret_ct rfl tb_ag34 hm0_2 rfl (v1 := .int .i64 1) rfl ?_
  refine ⟨hB, ?_⟩
  rw [if_neg (by simpa using hc0)]
 ·
  try with_reducible replace hc0 := of_decide_eq_false hc0
  refine WC_skip ?_
  refine hK13 _ _ ?_
  clear hK13 K12
  refine WC_seq (fun K24 hK25 => ?_)
  refine WC_seq (fun K26 hK27 => ?_)
  have hw : wiB c.m c.v s n = true := by simpa using hc0
  obtain ⟨hn0, hn8, _, _⟩ := rightB_iff.1 (wiB_right hw)
  refine WC_region ?_
  refine WL_val (dd := some 16) rfl rfl rfl (r_move (v := .int .i64 _) rfl) ?_
  refine WL_val (dd := some 17) rfl rfl rfl (r_move (v := .int .i64 0) rfl) ?_
  refine WL_nil ?_
  refine hK27 _ _ ?_
  clear hK27 K26
  refine WC_block ?_
  refine WC_loop (σ := (Nat)) [8, 9, 17, 18, 19, 20, 21, 22, 23, 24, 25, 26, 27, 28] (fun i => [(17, .int .i64 (i : Int))]) (fun i W => (Below w.heap.size w W) ∧ (At W b0_1 _ 24) ∧ (At W b0_2 _ 34) ∧ (At W b0_0 #[.int .u8 ((growTo s n c i).m : Int), .int .u8 ((growTo s n c i).v : Int)] 34) ∧ (i ≤ n.toNat) ∧ (True)) (fun i => n.toNat - i) (0) ⟨rfl, trivial⟩ ⟨hB, hm0_1, hm0_2, hm0_0, (Nat.zero_le _), trivial⟩ ?_
  clear hB hm0_0 hm0_1 hm0_2
  rintro i g29 W28 ⟨hB, hm0_1, hm0_2, hm0_0, hi, _⟩ J30 hJ31
  refine WC_seq (fun K32 hK33 => ?_)
  refine WC_region ?_
  refine WL_val (dd := some 18) rfl rfl rfl (r_lss rfl rfl) ?_
  refine WL_nil ?_
  refine hK33 _ _ ?_
  clear hK33 K32
  refine WC_seq (fun K34 hK35 => ?_)
  refine WC_cond (b := _) rfl (fun hc1 => ?_) (fun hc1 => ?_)
  ·
   try with_reducible replace hc1 := of_decide_eq_true hc1
   refine WC_skip ?_
   refine hK35 _ _ ?_
   clear hK35 K34
   refine WC_seq (fun K36 hK37 => ?_)
   refine WC_block ?_
   refine WC_seq (fun K38 hK39 => ?_)
   refine WC_region ?_
   refine WL_val (dd := some 19) rfl rfl rfl (r_move (v := .int .i64 _) rfl) ?_
   refine WL_val (dd := some 8) rfl rfl rfl (r_assign (v := .int .i64 _) rfl) ?_
   refine WL_nil ?_
   refine hK39 _ _ ?_
   clear hK39 K38
   refine WC_seq (fun K40 hK41 => ?_)
   have hg := growTo_lt (s := s) (n := n) hm i
   have hle := woM_le (growTo s n c i).m (i : Int)
   have hle2 : (growTo s n c i).v &&& woM (growTo s n c i).m (i : Int) ≤ (growTo s n c i).v := Nat.and_le_left
   refine WC_region ?_
   refine WL_val (dd := some 20) rfl rfl rfl (r_loadW rfl tb_ag34 rfl hm0_0) ?_
   refine WL_val (dd := some 21) rfl rfl rfl (r_move (v := .int .i64 _) rfl) ?_
   refine WL_call (dd := some 22) rfl rfl rfl (r_call2 tb_c84 (v0 := .agg #[_, _]) rfl (v1 := .int .i64 _) rfl) (C_cube_Without _ _ _ _ (by first | assumption | omega) (by first | assumption | omega)) (fun v6_2 W42 hE43 hP6_2 => ?_)
   have hsz44 := (Below.size hB)
   replace hB := below_ext hB hE43 (Nat.le_refl _)
   replace hm0_1 := hE43.at hm0_1
   replace hm0_2 := hE43.at hm0_2
   replace hm0_0 := hE43.at hm0_0
   clear hE43
   clear hsz44
   obtain rfl := hP6_2
   refine WL_step (dd := some 9) rfl rfl rfl (Y_alloc tb_z34 rfl (fun b6_3 W45 hb46 hE47 hm6_3 => ?_))
   have lo_b6_3 : w.heap.size ≤ b6_3 := hb46 ▸ (Below.size hB)
   have ne_b0_2_b6_3 : b0_2 ≠ b6_3 := Nat.ne_of_lt (hb46 ▸ hm0_2.lt)
   have ne_b0_0_b6_3 : b0_0 ≠ b6_3 := Nat.ne_of_lt (hb46 ▸ hm0_0.lt)
   clear hb46
   replace hB := below_ext hB hE47 (Nat.le_refl _)
   replace hm0_1 := hE47.at hm0_1
   replace hm0_2 := hE47.at hm0_2
   replace hm0_0 := hE47.at hm0_0
   clear hE47
   refine WL_step (dd := none) rfl rfl rfl (Y_storeW rfl rfl tb_ag34 rfl hm6_3 rfl (by rfl) (fun W48 hG49 hm50 => ?_))
   replace hB := below_grown hB hG49 (Nat.le_refl _) (fun j hj => by cases hj; exact lo_b6_3)
   replace hm0_1 := At.grownAt hm0_1 hm6_3 hG49 (by decide)
   replace hm0_2 := At.grownNe hm0_2 ne_b0_2_b6_3 hG49
   replace hm0_0 := At.grownNe hm0_0 ne_b0_0_b6_3 hG49
   clear hG49 hm6_3
   have hm6_3 := hm50
   clear hm50
   refine WL_nil ?_
   refine hK41 _ _ ?_
   clear hK41 K40
   refine WC_seq (fun K51 hK52 => ?_)
   refine WC_region ?_
   refine WL_val (dd := some 23) rfl rfl rfl (r_loadW rfl tb_ag34 rfl hm6_3) ?_
   refine WL_val (dd := some 24) rfl rfl rfl (r_loadW rfl tb_ag24 rfl hm0_1) ?_
   refine WL_val (dd := some 25) rfl rfl rfl (r_move (v := .int .i64 _) rfl) ?_
   refine WL_call (dd := some 26) rfl rfl rfl (r_call3 tb_c131 (v0 := .agg #[_, _]) rfl (v1 := .agg #[_, _, _, _]) rfl (v2 := .int .i64 _) rfl) (C_prime_Within _ _ _ _ _ (by first | assumption | omega) (by first | assumption | omega)) (fun v7_3 W53 hE54 hP7_3 => ?_)
   have hsz55 := (Below.size hB)
   replace hB := below_ext hB hE54 (Nat.le_refl _)
   replace hm0_1 := hE54.at hm0_1
   replace hm0_2 := hE54.at hm0_2
   replace hm0_0 := hE54.at hm0_0
   replace hm6_3 := hE54.at hm6_3
   clear hE54
   clear hsz55
   obtain rfl := hP7_3
   refine WL_nil ?_
   refine hK52 _ _ ?_
   clear hK52 K51
   refine WC_cond (b := _) rfl (fun hc2 => ?_) (fun hc2 => ?_)
   ·
    try with_reducible replace hc2 := of_decide_eq_true hc2
    refine WC_region ?_
    refine WL_val (dd := some 27) rfl rfl rfl (r_loadW rfl tb_ag34 rfl hm6_3) ?_
    refine WL_step (dd := none) rfl rfl rfl (Y_storeW rfl rfl tb_ag34 rfl hm0_0 rfl (by rfl) (fun W56 hG57 hm58 => ?_))
    replace hB := below_grown hB hG57 (Nat.le_refl _) (fun j hj => by cases hj; exact lo_b0_0)
    replace hm0_1 := At.grownAt hm0_1 hm0_0 hG57 (by decide)
    replace hm0_2 := At.grownNe hm0_2 (Ne.symm ne_b0_0_b0_2) hG57
    replace hm6_3 := At.grownNe hm6_3 (Ne.symm ne_b0_0_b6_3) hG57
    clear hG57 hm0_0
    have hm0_0 := hm58
    clear hm58
    refine WL_nil ?_
    refine hK37 _ _ ?_
    clear hK37 K36
    refine WC_region ?_
    refine WL_val (dd := some 28) rfl rfl rfl (r_addI rfl rfl (by omega) (by omega)) ?_
    refine WL_val (dd := some 17) rfl rfl rfl (r_move (v := .int .i64 _) rfl) ?_
    refine WL_nil ?_
    refine hJ31 _ _ (i + 1) ?_ ?_ ?_ ?_
    · repeat (first | exact agree.mask _ _ _ | refine agree.updo ?_ rfl _ | refine agree.updL ?_ _ rfl | refine agree.maskS rfl ?_)
    · exact ⟨rfl, trivial⟩
    · exact ⟨hB, hm0_1, hm0_2, (by first | (rw [growTo_t hc2]; exact hm0_0) | (rw [growTo_f hc2]; exact hm0_0)), (by omega), trivial⟩
    · first | omega | (dsimp only; omega)
   ·
    try with_reducible replace hc2 := of_decide_eq_false hc2
    refine WC_skip ?_
    refine hK37 _ _ ?_
    clear hK37 K36
    refine WC_region ?_
    refine WL_val (dd := some 28) rfl rfl rfl (r_addI rfl rfl (by omega) (by omega)) ?_
    refine WL_val (dd := some 17) rfl rfl rfl (r_move (v := .int .i64 _) rfl) ?_
    refine WL_nil ?_
    refine hJ31 _ _ (i + 1) ?_ ?_ ?_ ?_
    · repeat (first | exact agree.mask _ _ _ | refine agree.updo ?_ rfl _ | refine agree.updL ?_ _ rfl | refine agree.maskS rfl ?_)
    · exact ⟨rfl, trivial⟩
    · exact ⟨hB, hm0_1, hm0_2, (by first | (rw [growTo_t hc2]; exact hm0_0) | (rw [growTo_f hc2]; exact hm0_0)), (by omega), trivial⟩
    · first | omega | (dsimp only; omega)
  ·
   try with_reducible replace hc1 := of_decide_eq_false hc1
   refine WC_exit ?_
   refine hK25 _ _ ?_
   clear hK35 K34
   clear hJ31 J30
   clear hK25 K24
   refine WC_seq (fun K59 hK60 => ?_)
   refine WC_region ?_
   refine WL_val (dd := some 29) rfl rfl rfl (r_loadW rfl tb_ag34 rfl hm0_0) ?_
   refine WL_step (dd := none) rfl rfl rfl (Y_storeW rfl rfl tb_ag34 rfl hm0_2 rfl (by rfl) (fun W61 hG62 hm63 => ?_))
   replace hB := below_grown hB hG62 (Nat.le_refl _) (fun j hj => by cases hj; exact lo_b0_2)
   replace hm0_1 := At.grownAt hm0_1 hm0_2 hG62 (by decide)
   replace hm0_0 := At.grownNe hm0_0 ne_b0_0_b0_2 hG62
   clear hG62 hm0_2
   have hm0_2 := hm63
   clear hm63
   refine WL_val (dd := some 7) rfl rfl rfl (r_assign (v := .int .i64 0) rfl) ?_
   refine WL_nil ?_
   refine hK60 _ _ ?_
   clear hK60 K59
   refine WC_ret ?_
   repeat (first | refine thenQ_ret ?_ | refine blockQ_ret ?_)
   refine ret_ct rfl tb_ag34 hm0_2 rfl (v1 := .int .i64 0) rfl ?_
   refine ⟨hB, ?_⟩
   have hin : i = n.toNat := by omega
   subst hin
   rw [if_pos hw]
   rfl

end Go.Proofs.Ytdbcijijhhbkaaa
