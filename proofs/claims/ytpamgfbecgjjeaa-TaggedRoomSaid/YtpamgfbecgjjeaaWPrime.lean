/-
  The walks of package prime, but for the function All.
-/
import Derived.Test.YtpamgfbecgjjeaaProg
import Derived.Test.YtpamgfbecgjjeaaWCube
import Derived.Test.YtpamgfbecgjjeaaQm
namespace Go.Proofs.Ytpamgfbecgjjeaa
set_option linter.unusedVariables false
set_option linter.unusedSimpArgs false
open Go Go.RowKit

theorem tb_c145 : callB Try.prog 145 = true := by kernel_rfl
theorem tb_c106 : callB Try.prog 106 = true := by kernel_rfl
theorem tb_el72 : elemI Try.prog 72 = some (55, 2, 2) := by kernel_rfl
theorem tb_c136 : callB Try.prog 136 = true := by kernel_rfl
theorem tb_zs55 : (zeroI Try.prog 55).map (fun z => z.cells.size) = some 2 := by kernel_rfl

theorem C_prime_Within (m u s : Nat) (n : Int) (w : World) (hm : m < 256) (hv : u < 256) :
    Fn Try.prog 139 #[.agg #[.int .u8 (m : Int), .int .u8 (u : Int)], setV s, .int .i64 n] w fun v w' => v = .bool (wiB m u s n) := by
 refine Fn_intro (n := 22) Try.func139 rfl rfl (Nat.le_of_ble_eq_true rfl) ?_
 have hB : Below w.heap.size w w := Below.refl _ _
 refine WC_seq (fun K1 hK2 => ?_)
 refine WC_region ?_
 refine WL_step (dd := some 3) rfl rfl rfl (Y_box (c := #[_, _]) rfl rfl (fun b0_0 W3 hb4 hE5 hm0_0 => ?_))
 have lo_b0_0 : w.heap.size ≤ b0_0 := hb4 ▸ (Below.size hB)
 clear hb4
 replace hB := below_ext hB hE5 (Nat.le_refl _)
 clear hE5
 refine WL_step (dd := some 4) rfl rfl rfl (Y_box (c := #[_, _, _, _]) rfl rfl (fun b0_1 W6 hb7 hE8 hm0_1 => ?_))
 have lo_b0_1 : w.heap.size ≤ b0_1 := hb7 ▸ (Below.size hB)
 clear hb7
 replace hB := below_ext hB hE8 (Nat.le_refl _)
 replace hm0_0 := hE8.at hm0_0
 clear hE8
 refine WL_val (dd := some 6) rfl rfl rfl (r_assign (v := .bool false) rfl) ?_
 refine WL_nil ?_
 refine hK2 _ _ ?_
 clear hK2 K1
 refine WC_seq (fun K9 hK10 => ?_)
 refine WC_region ?_
 refine WL_val (dd := some 10) rfl rfl rfl (r_loadW rfl tb_ag55 rfl hm0_0) ?_
 refine WL_val (dd := some 11) rfl rfl rfl (r_move (v := .int .i64 _) rfl) ?_
 refine WL_call (dd := some 12) rfl rfl rfl (r_call2 tb_c145 (v0 := .agg #[_, _]) rfl (v1 := .int .i64 _) rfl) (C_cube_Points _ _ _ _ (by first | assumption | omega) (by first | assumption | omega)) (fun v1_2 W11 hE12 hP1_2 => ?_)
 have hsz13 := (Below.size hB)
 replace hB := below_ext hB hE12 (Nat.le_refl _)
 replace hm0_0 := hE12.at hm0_0
 replace hm0_1 := hE12.at hm0_1
 clear hE12
 obtain ⟨sa, er, rfl, hhP1_2⟩ := pts_cases hP1_2
 clear hsz13
 refine WL_val (dd := some 9) rfl rfl rfl (r_move (v := .tuple #[.agg #[_, _, _, _], .int .i64 _]) rfl) ?_
 refine WL_val (dd := some 13) rfl rfl rfl (r_ext2_0 (h := rfl)) ?_
 refine WL_val (dd := some 14) rfl rfl rfl (r_ext2_1 (h := rfl)) ?_
 refine WL_step (dd := some 7) rfl rfl rfl (Y_alloc tb_z69 rfl (fun b1_6 W14 hb15 hE16 hm1_6 => ?_))
 have lo_b1_6 : w.heap.size ≤ b1_6 := hb15 ▸ (Below.size hB)
 have ne_b0_1_b1_6 : b0_1 ≠ b1_6 := Nat.ne_of_lt (hb15 ▸ hm0_1.lt)
 clear hb15
 replace hB := below_ext hB hE16 (Nat.le_refl _)
 replace hm0_0 := hE16.at hm0_0
 replace hm0_1 := hE16.at hm0_1
 clear hE16
 replace hm1_6 : At W14 b1_6 #[wv 0 0, wv 0 1, wv 0 2, wv 0 3] 69 := hm1_6
 refine WL_step (dd := none) rfl rfl rfl (Y_storeW rfl rfl tb_ag69 rfl hm1_6 rfl (by rfl) (fun W17 hG18 hm19 => ?_))
 replace hB := below_grown hB hG18 (Nat.le_refl _) (fun j hj => by cases hj; exact lo_b1_6)
 replace hm0_0 := At.grownAt hm0_0 hm1_6 hG18 (by decide)
 replace hm0_1 := At.grownNe hm0_1 ne_b0_1_b1_6 hG18
 clear hG18 hm1_6
 have hm1_6 := hm19
 clear hm19
 refine WL_val (dd := some 8) rfl rfl rfl (r_assign (v := .int .i64 _) rfl) ?_
 refine WL_nil ?_
 refine hK10 _ _ ?_
 clear hK10 K9
 refine WC_seq (fun K20 hK21 => ?_)
 refine WC_region ?_
 refine WL_val (dd := some 15) rfl rfl rfl (r_move (v := .int .i64 _) rfl) ?_
 refine WL_val (dd := some 16) rfl rfl rfl (r_eql rfl rfl) ?_
 refine WL_split (dd := some 17) rfl rfl rfl (r_move (v := .bool _) rfl) (fun hs2_2 => ?_) (fun hs2_2 => ?_)
 ·
  try with_reducible replace hs2_2 := of_decide_eq_true hs2_2
  refine WL_val (dd := some 18) rfl rfl rfl (r_loadW rfl tb_ag69 rfl hm1_6) ?_
  refine WL_val (dd := some 19) rfl rfl rfl (r_loadW rfl tb_ag69 rfl hm0_1) ?_
  refine WL_call (dd := some 20) rfl rfl rfl (r_call2 tb_c106 (v0 := .agg #[_, _, _, _]) rfl (v1 := .agg #[_, _, _, _]) rfl) (C_set_Within _ _ _) (fun v2_5 W22 hE23 hP2_5 => ?_)
  have hsz24 := (Below.size hB)
  replace hB := below_ext hB hE23 (Nat.le_refl _)
  replace hm0_0 := hE23.at hm0_0
  replace hm0_1 := hE23.at hm0_1
  replace hm1_6 := hE23.at hm1_6
  clear hE23
  clear hsz24
  obtain rfl := hP2_5
  refine WL_val (dd := some 21) rfl rfl rfl (r_pick_t rfl (v := .bool _) rfl) ?_
  refine WL_val (dd := some 6) rfl rfl rfl (r_assign (v := .bool _) rfl) ?_
  refine WL_nil ?_
  refine hK21 _ _ ?_
  clear hK21 K20
  refine WC_ret ?_
  repeat (first | refine thenQ_ret ?_ | refine blockQ_ret ?_)
  refine ret_t (v := .bool _) rfl ?_
  refine ⟨hB, ?_⟩
  first | exact congrArg Value.bool (wi_one hhP1_2 hs2_2) | exact congrArg Value.bool (wi_none hhP1_2 hs2_2)
 ·
  try with_reducible replace hs2_2 := of_decide_eq_false hs2_2
  refine WL_skip (dd := some 18) rfl rfl rfl ?_
  refine WL_skip (dd := some 19) rfl rfl rfl ?_
  refine WL_skip (dd := some 20) rfl rfl rfl ?_
  refine WL_val (dd := some 21) rfl rfl rfl (r_pick_f rfl (v := .bool false) rfl) ?_
  refine WL_val (dd := some 6) rfl rfl rfl (r_assign (v := .bool false) rfl) ?_
  refine WL_nil ?_
  refine hK21 _ _ ?_
  clear hK21 K20
  refine WC_ret ?_
  repeat (first | refine thenQ_ret ?_ | refine blockQ_ret ?_)
  refine ret_t (v := .bool false) rfl ?_
  refine ⟨hB, ?_⟩
  first | exact congrArg Value.bool (wi_one hhP1_2 hs2_2) | exact congrArg Value.bool (wi_none hhP1_2 hs2_2)

theorem C_prime_insert_1 (b m u m2 u2 : Nat) (w : World) (hb : At w b #[.int .u8 (m2 : Int), .int .u8 (u2 : Int)] 55) :
    Fn Try.prog 136 #[.agg #[.int .u8 (m : Int), .int .u8 (u : Int)], .pointer (some ⟨b, 0, none⟩)] w fun v w' => v = .bool (ltC ⟨m, u⟩ ⟨m2, u2⟩) := by
 refine Fn_intro (n := 23) Try.func136 rfl rfl (Nat.le_of_ble_eq_true rfl) ?_
 have hB : Below w.heap.size w w := Below.refl _ _
 refine WC_seq (fun K1 hK2 => ?_)
 refine WC_region ?_
 refine WL_step (dd := some 2) rfl rfl rfl (Y_box (c := #[_, _]) rfl rfl (fun b0_0 W3 hb4 hE5 hm0_0 => ?_))
 have lo_b0_0 : w.heap.size ≤ b0_0 := hb4 ▸ (Below.size hB)
 clear hb4
 replace hB := below_ext hB hE5 (Nat.le_refl _)
 clear hE5
 refine WL_val (dd := some 3) rfl rfl rfl (r_assign (v := .bool false) rfl) ?_
 refine WL_nil ?_
 refine hK2 _ _ ?_
 clear hK2 K1
 refine WC_seq (fun K6 hK7 => ?_)
 refine WC_region ?_
 refine WL_val (dd := some 4) rfl rfl rfl (r_fieldAddr (b := _) (o := _) rfl tb_fo55_0) ?_
 refine WL_val (dd := some 5) rfl rfl rfl (r_load1 (v := .int .u8 _) rfl tb_sc5 (At.cell hm0_0 rfl)) ?_
 refine WL_val (dd := some 6) rfl rfl rfl (r_fieldAddr (b := _) (o := _) rfl tb_fo55_0) ?_
 refine WL_val (dd := some 7) rfl rfl rfl (r_load1 (v := .int .u8 _) rfl tb_sc5 (At.cell (Below.atI hB hb) rfl)) ?_
 refine WL_val (dd := some 8) rfl rfl rfl (r_lss rfl rfl) ?_
 refine WL_split (dd := some 9) rfl rfl rfl (r_move (v := .bool _) rfl) (fun hs1_5 => ?_) (fun hs1_5 => ?_)
 ·
  try with_reducible replace hs1_5 := of_decide_eq_true hs1_5
  refine WL_skip (dd := some 10) rfl rfl rfl ?_
  refine WL_skip (dd := some 11) rfl rfl rfl ?_
  refine WL_skip (dd := some 12) rfl rfl rfl ?_
  refine WL_skip (dd := some 13) rfl rfl rfl ?_
  refine WL_skip (dd := some 14) rfl rfl rfl ?_
  refine WL_skip (dd := some 15) rfl rfl rfl ?_
  refine WL_skip (dd := some 16) rfl rfl rfl ?_
  refine WL_skip (dd := some 17) rfl rfl rfl ?_
  refine WL_skip (dd := some 18) rfl rfl rfl ?_
  refine WL_skip (dd := some 19) rfl rfl rfl ?_
  refine WL_skip (dd := some 20) rfl rfl rfl ?_
  refine WL_skip (dd := some 21) rfl rfl rfl ?_
  refine WL_val (dd := some 22) rfl rfl rfl (r_pick_t rfl (v := .bool true) rfl) ?_
  refine WL_val (dd := some 3) rfl rfl rfl (r_assign (v := .bool true) rfl) ?_
  refine WL_nil ?_
  refine hK7 _ _ ?_
  clear hK7 K6
  refine WC_ret ?_
  repeat (first | refine thenQ_ret ?_ | refine blockQ_ret ?_)
  refine ret_t (v := .bool true) rfl ?_
  refine ⟨hB, ?_⟩
  first | exact congrArg Value.bool (lt_v1 hs1_5) | exact congrArg Value.bool (lt_v2 hs1_5 hs1_11) | exact congrArg Value.bool (lt_v3 hs1_5 hs1_11)
 ·
  try with_reducible replace hs1_5 := of_decide_eq_false hs1_5
  refine WL_val (dd := some 10) rfl rfl rfl (r_fieldAddr (b := _) (o := _) rfl tb_fo55_0) ?_
  refine WL_val (dd := some 11) rfl rfl rfl (r_load1 (v := .int .u8 _) rfl tb_sc5 (At.cell hm0_0 rfl)) ?_
  refine WL_val (dd := some 12) rfl rfl rfl (r_fieldAddr (b := _) (o := _) rfl tb_fo55_0) ?_
  refine WL_val (dd := some 13) rfl rfl rfl (r_load1 (v := .int .u8 _) rfl tb_sc5 (At.cell (Below.atI hB hb) rfl)) ?_
  refine WL_val (dd := some 14) rfl rfl rfl (r_eql rfl rfl) ?_
  refine WL_split (dd := some 15) rfl rfl rfl (r_move (v := .bool _) rfl) (fun hs1_11 => ?_) (fun hs1_11 => ?_)
  ·
   try with_reducible replace hs1_11 := of_decide_eq_true hs1_11
   refine WL_val (dd := some 16) rfl rfl rfl (r_fieldAddr (b := _) (o := _) rfl tb_fo55_1) ?_
   refine WL_val (dd := some 17) rfl rfl rfl (r_load1 (v := .int .u8 _) rfl tb_sc5 (At.cell hm0_0 rfl)) ?_
   refine WL_val (dd := some 18) rfl rfl rfl (r_fieldAddr (b := _) (o := _) rfl tb_fo55_1) ?_
   refine WL_val (dd := some 19) rfl rfl rfl (r_load1 (v := .int .u8 _) rfl tb_sc5 (At.cell (Below.atI hB hb) rfl)) ?_
   refine WL_val (dd := some 20) rfl rfl rfl (r_lss rfl rfl) ?_
   refine WL_val (dd := some 21) rfl rfl rfl (r_pick_t rfl (v := .bool _) rfl) ?_
   refine WL_val (dd := some 22) rfl rfl rfl (r_pick_f rfl (v := .bool _) rfl) ?_
   refine WL_val (dd := some 3) rfl rfl rfl (r_assign (v := .bool _) rfl) ?_
   refine WL_nil ?_
   refine hK7 _ _ ?_
   clear hK7 K6
   refine WC_ret ?_
   repeat (first | refine thenQ_ret ?_ | refine blockQ_ret ?_)
   refine ret_t (v := .bool _) rfl ?_
   refine ⟨hB, ?_⟩
   first | exact congrArg Value.bool (lt_v1 hs1_5) | exact congrArg Value.bool (lt_v2 hs1_5 hs1_11) | exact congrArg Value.bool (lt_v3 hs1_5 hs1_11)
  ·
   try with_reducible replace hs1_11 := of_decide_eq_false hs1_11
   refine WL_skip (dd := some 16) rfl rfl rfl ?_
   refine WL_skip (dd := some 17) rfl rfl rfl ?_
   refine WL_skip (dd := some 18) rfl rfl rfl ?_
   refine WL_skip (dd := some 19) rfl rfl rfl ?_
   refine WL_skip (dd := some 20) rfl rfl rfl ?_
   refine WL_val (dd := some 21) rfl rfl rfl (r_pick_f rfl (v := .bool false) rfl) ?_
   refine WL_val (dd := some 22) rfl rfl rfl (r_pick_f rfl (v := .bool false) rfl) ?_
   refine WL_val (dd := some 3) rfl rfl rfl (r_assign (v := .bool false) rfl) ?_
   refine WL_nil ?_
   refine hK7 _ _ ?_
   clear hK7 K6
   refine WC_ret ?_
   repeat (first | refine thenQ_ret ?_ | refine blockQ_ret ?_)
   refine ret_t (v := .bool false) rfl ?_
   refine ⟨hB, ?_⟩
   first | exact congrArg Value.bool (lt_v1 hs1_5) | exact congrArg Value.bool (lt_v2 hs1_5 hs1_11) | exact congrArg Value.bool (lt_v3 hs1_5 hs1_11)

theorem C_prime_insert (x : Value) (l : List Cb) (c : Cb) (w : World) (hl : SlT encC 2 w x l) (hn : l.length ≤ 70000) :
    Fn Try.prog 110 #[x, .agg #[.int .u8 (c.m : Int), .int .u8 (c.v : Int)]] w fun v w' => OwT encC 2 55 w' w.heap.size v (insC l c) := by
 refine Fn_intro (n := 35) Try.func110 rfl rfl (Nat.le_of_ble_eq_true rfl) ?_
 have hB : Below w.heap.size w w := Below.refl _ _
 have hC : l.length ≤ slC x := (Sl.eqv hl).2.1
 refine WC_seq (fun K1 hK2 => ?_)
 refine WC_region ?_
 refine WL_step (dd := some 3) rfl rfl rfl (Y_box (c := #[_, _]) rfl rfl (fun b0_0 W3 hb4 hE5 hm0_0 => ?_))
 have lo_b0_0 : w.heap.size ≤ b0_0 := hb4 ▸ (Below.size hB)
 clear hb4
 replace hB := below_ext hB hE5 (Nat.le_refl _)
 clear hE5
 refine WL_val (dd := some 4) rfl rfl rfl (r_assign (v := .slice none 0 0) rfl) ?_
 refine WL_nil ?_
 refine hK2 _ _ ?_
 clear hK2 K1
 refine WC_seq (fun K6 hK7 => ?_)
 refine WC_region ?_
 refine WL_val (dd := some 7) rfl rfl rfl (r_makeFunc (vs := #[.pointer (some ⟨b0_0, 0, none⟩)]) (by simp only [List.map_toArray, List.map_cons, List.map_nil]; rfl)) ?_
 refine WL_val (dd := some 5) rfl rfl rfl (r_assign (v := .func (.func 136) #[] #[.pointer (some ⟨b0_0, 0, none⟩)]) rfl) ?_
 refine WL_nil ?_
 refine hK7 _ _ ?_
 clear hK7 K6
 refine WC_seq (fun K8 hK9 => ?_)
 refine WC_region ?_
 refine WL_val (dd := some 8) rfl rfl rfl (r_move (v := x) rfl) ?_
 refine WL_val (dd := some 9) rfl rfl rfl (r_lenS (v := x) rfl (Below.slT hB hl) tb_el72) ?_
 refine WL_val (dd := some 6) rfl rfl rfl (r_assign (v := .int .i64 _) rfl) ?_
 refine WL_nil ?_
 refine hK9 _ _ ?_
 clear hK9 K8
 refine WC_seq (fun K10 hK11 => ?_)
 refine WC_block ?_
 refine WC_loop (σ := (Nat)) [6, 10, 11, 12, 13, 14, 15, 16, 17, 18, 19, 20, 21, 22, 23] (fun i => [(6, .int .i64 (i : Int))]) (fun i W => (Below w.heap.size w W) ∧ (At W b0_0 _ 55) ∧ (i ≤ l.length) ∧ (posC l c l.length = posC l c i) ∧ (True)) (fun i => i) (l.length) ⟨rfl, trivial⟩ ⟨hB, hm0_0, (Nat.le_refl _), rfl, trivial⟩ ?_
 clear hB hm0_0
 rintro i g13 W12 ⟨hB, hm0_0, hi, hp, _⟩ J14 hJ15
 refine WC_seq (fun K16 hK17 => ?_)
 refine WC_seq (fun K18 hK19 => ?_)
 refine WC_region ?_
 refine WL_val (dd := some 10) rfl rfl rfl (r_move (v := .int .i64 _) rfl) ?_
 refine WL_val (dd := some 11) rfl rfl rfl (r_gtr rfl rfl) ?_
 refine WL_split (dd := some 12) rfl rfl rfl (r_move (v := .bool _) rfl) (fun hs3_2 => ?_) (fun hs3_2 => ?_)
 ·
  try with_reducible replace hs3_2 := of_decide_eq_true hs3_2
  refine WL_val (dd := some 13) rfl rfl rfl (r_move (v := .func (.func 136) #[] #[.pointer (some ⟨b0_0, 0, none⟩)]) rfl) ?_
  refine WL_val (dd := some 14) rfl rfl rfl (r_move (v := x) rfl) ?_
  refine WL_val (dd := some 15) rfl rfl rfl (r_move (v := .int .i64 _) rfl) ?_
  refine WL_val (dd := some 16) rfl rfl rfl (r_subI rfl rfl (by omega) (by omega)) ?_
  refine WL_val (dd := some 17) rfl rfl rfl (r_idxS (v := x) rfl (Below.slT hB hl) rfl tb_el72 (by omega) (by first | omega | (simp only [flagsTo_len, litsTo_len, firstF_len, ptF_len]; omega))) ?_
  refine WL_val (dd := some 18) rfl rfl rfl (r_load2 rfl tb_ag55 (SlT.cell (Below.slT hB hl) encC_len ⟨0, 0⟩ (by omega) (by first | omega | (simp only [flagsTo_len, litsTo_len, firstF_len, ptF_len]; omega)) 0 rfl) (SlT.cell (Below.slT hB hl) encC_len ⟨0, 0⟩ (by omega) (by first | omega | (simp only [flagsTo_len, litsTo_len, firstF_len, ptF_len]; omega)) 1 rfl)) ?_
  refine WL_call (dd := some 19) rfl rfl rfl (r_call (q := 136) (first := #[]) (cap := #[.pointer (some ⟨b0_0, 0, none⟩)]) (vs := #[.agg #[_, _], .pointer (some ⟨b0_0, 0, none⟩)]) rfl tb_c136 (by simp only [List.map_toArray, List.map_cons, List.map_nil, List.append_toArray, List.nil_append, List.cons_append]; rfl)) (C_prime_insert_1 _ _ _ _ _ _ hm0_0) (fun v3_9 W20 hE21 hP3_9 => ?_)
  have hsz22 := (Below.size hB)
  replace hB := below_ext hB hE21 (Nat.le_refl _)
  replace hm0_0 := hE21.at hm0_0
  clear hE21
  clear hsz22
  obtain rfl := hP3_9
  refine WL_val (dd := some 20) rfl rfl rfl (r_not rfl) ?_
  refine WL_val (dd := some 21) rfl rfl rfl (r_pick_t rfl (v := .bool _) rfl) ?_
  refine WL_nil ?_
  refine hK19 _ _ ?_
  clear hK19 K18
  refine WC_cond (b := _) rfl (fun hc0 => ?_) (fun hc0 => ?_)
  ·
   try with_reducible replace hc0 := of_decide_eq_true hc0
   refine WC_skip ?_
   refine hK17 _ _ ?_
   clear hK17 K16
   refine WC_block ?_
   refine WC_region ?_
   refine WL_val (dd := some 22) rfl rfl rfl (r_move (v := .int .i64 _) rfl) ?_
   refine WL_val (dd := some 23) rfl rfl rfl (r_subI rfl rfl (by omega) (by omega)) ?_
   refine WL_val (dd := some 6) rfl rfl rfl (r_assign (v := .int .i64 _) rfl) ?_
   refine WL_nil ?_
   refine hJ15 _ _ (i - 1) ?_ ?_ ?_ ?_
   · repeat (first | exact agree.mask _ _ _ | refine agree.updo ?_ rfl _ | refine agree.updL ?_ _ rfl | refine agree.maskS rfl ?_)
   · exact ⟨congrArg (Value.int .i64) (by omega : (i : Int) - 1 = ((i - 1 : Nat) : Int)), trivial⟩
   · exact ⟨hB, hm0_0, (by omega), (hp.trans (pos_step (by omega) hc0)), trivial⟩
   · first | omega | (dsimp only; omega)
  ·
   try with_reducible replace hc0 := of_decide_eq_false hc0
   refine WC_exit ?_
   refine hK11 _ _ ?_
   clear hK17 K16
   clear hJ15 J14
   clear hK11 K10
   refine WC_seq (fun K23 hK24 => ?_)
   have hpos : posC l c l.length = i := hp.trans (pos_end (by first | exact .inl (by omega) | exact .inr hc0))
   have hil : ((i : Nat) : Int).toNat = i := rfl
   refine WC_draw Ext tb_mix (fun W25 hE26 => ?_)
   replace hB := below_ext hB hE26 (Nat.le_refl _)
   replace hm0_0 := hE26.at hm0_0
   have hS := Ext.refl W25
   refine WT_take (dd := some 24) 0 rfl (by kernel_rfl) (by kernel_rfl) (by kernel_rfl) rfl rfl rfl (fun _wq _hq => r_move (v := x) rfl) hS ?_
   refine WT_take (dd := some 25) 1 rfl (by kernel_rfl) (by kernel_rfl) (by kernel_rfl) rfl rfl rfl (fun _wq _hq => r_move (v := .int .i64 _) rfl) hS ?_
   refine WT_take (dd := some 26) 2 rfl (by kernel_rfl) (by kernel_rfl) (by kernel_rfl) rfl rfl rfl (fun _wq _hq => r_move (v := .int .i64 _) rfl) hS ?_
   refine WT_take (dd := some 27) 3 rfl (by kernel_rfl) (by kernel_rfl) (by kernel_rfl) rfl rfl rfl (fun _wq hq => r_slice03 (v := x) rfl (hq.slT (Below.slT hB hl)) tb_el72 rfl rfl (by omega) (by omega) (by omega)) hS ?_
   have hp5_3 : SlT encC 2 w (slOf 2 x 0 i i) ((l.drop 0).take (i - 0)) := SlT.part encC_len hl (by omega) (by omega) (by omega) (by omega)
   refine WT_take (dd := some 28) 4 rfl (by kernel_rfl) (by kernel_rfl) (by kernel_rfl) rfl rfl rfl (fun _wq hq => r_loadW rfl tb_ag55 rfl (hq.at hm0_0)) hS ?_
   refine WT_take (dd := some 30) 6 rfl (by kernel_rfl) (by kernel_rfl) (by kernel_rfl) rfl rfl rfl (fun _wq _hq => r_move (v := x) rfl) hS ?_
   refine WT_take (dd := some 31) 7 rfl (by kernel_rfl) (by kernel_rfl) (by kernel_rfl) rfl rfl rfl (fun _wq _hq => r_move (v := .int .i64 _) rfl) hS ?_
   refine WT_take (dd := some 32) 8 rfl (by kernel_rfl) (by kernel_rfl) (by kernel_rfl) rfl rfl rfl (fun _wq hq => r_sliceLo (v := x) rfl (hq.slT (Below.slT hB hl)) tb_el72 rfl (by omega) (by omega)) hS ?_
   have hp5_8 : SlT encC 2 w (slOf 2 x i l.length (slC x)) ((l.drop i).take (l.length - i)) := SlT.part encC_len hl (by omega) (by omega) (by omega) (by omega)
   refine WT_one (dd := some 29) 5 (by kernel_rfl) rfl rfl rfl rfl (Y_lit1 (u := .agg #[_, _]) rfl tb_el72 tb_zs55 rfl (by decide) (by decide) (fun b5_5 W27 hb28 hE29 hm5_5 => ⟨.inl (hS.trans hE29), ?_⟩))
   have lo_b5_5 : w.heap.size ≤ b5_5 := hb28 ▸ (Below.size hB)
   have los_b5_5 := Nat.le_trans (Ext.size hS) (Nat.le_of_eq hb28.symm)
   have ne_b0_0_b5_5 : b0_0 ≠ b5_5 := Nat.ne_of_lt (hb28 ▸ hm0_0.lt)
   clear hb28
   have sv30_hB := hB
   have sv30_hm0_0 := hm0_0
   replace hB := below_ext hB hE29 (Nat.le_refl _)
   replace hm0_0 := hE29.at hm0_0
   replace hS := hS.trans hE29
   clear hE29
   have ho31 := own_lit1 (enc := encC) (a := c) hm5_5 rfl rfl lo_b5_5
   clear hm5_5
   refine WT_one (dd := some 33) 9 (by kernel_rfl) rfl rfl rfl rfl (Y_append (v := .slice (some ⟨b5_5, 0, none⟩) 1 1) (v2 := slOf 2 x i l.length (slC x)) rfl rfl tb_el72 tb_zs55 (by decide) ho31 (Below.slT hB hp5_8) (enc_one_encC) (by have := Below.size hB; omega) (by simp; omega) (by simp; omega) (fun v5_9 W32 hG33 ho5_9 => ⟨.inl (below_grown hS hG33 (Nat.le_refl _) (fun j hj => by have e : b5_5 = j := Option.some.inj hj; rw [← e]; exact los_b5_5)), ?_⟩))
   replace hS : Ext _ _ := below_grown hS hG33 (Nat.le_refl _) (fun j hj => by have e : b5_5 = j := Option.some.inj hj; rw [← e]; exact los_b5_5)
   replace ho5_9 := OwT.app (enc := encC) rfl rfl rfl rfl ho5_9
   replace hB := below_grown hB hG33 (Nat.le_refl _) (fun j hj => (OwT.lt ho31 j hj))
   clear hm0_0
   clear hG33
   clear ho31
   refine WT_one (dd := some 34) 10 (by kernel_rfl) rfl rfl rfl rfl (Y_appendFull (N := w.heap.size) (v := slOf 2 x 0 i i) (v2 := v5_9) rfl rfl tb_el72 tb_zs55 (Below.slT hB hp5_3) (slOf_full (by simp; omega)) ho5_9.sl (by simp) (Below.size hB) (by simp; omega) (by simp; omega) (fun v5_10 W35 hE36 ho5_10 => ⟨.inl (hS.trans hE36), ?_⟩))
   replace ho5_10 := OwT.app (enc := encC) rfl rfl rfl rfl ho5_10
   replace hB := below_ext hB hE36 (Nat.le_refl _)
   replace ho5_9 := hE36.ow ho5_9
   replace hS := hS.trans hE36
   clear hE36
   refine WT_take (dd := some 4) 11 rfl (by kernel_rfl) (by kernel_rfl) (by kernel_rfl) rfl rfl rfl (fun _wq _hq => r_assign (v := v5_10) rfl) hS ?_
   refine WT_done (by kernel_rfl) ?_
   try clear sv30_hB sv30_hm0_0
   refine hK24 _ _ ?_
   clear hK24 K23
   refine WC_ret ?_
   repeat (first | refine thenQ_ret ?_ | refine blockQ_ret ?_)
   refine ret_t (v := v5_10) rfl ?_
   refine ⟨hB, ?_⟩
   have e : (l.drop i).take (l.length - i) = l.drop i := List.take_of_length_le (by simp)
   rw [e] at ho5_10
   rw [insC, hpos]
   simpa using ho5_10
 ·
  try with_reducible replace hs3_2 := of_decide_eq_false hs3_2
  refine WL_skip (dd := some 13) rfl rfl rfl ?_
  refine WL_skip (dd := some 14) rfl rfl rfl ?_
  refine WL_skip (dd := some 15) rfl rfl rfl ?_
  refine WL_skip (dd := some 16) rfl rfl rfl ?_
  refine WL_skip (dd := some 17) rfl rfl rfl ?_
  refine WL_skip (dd := some 18) rfl rfl rfl ?_
  refine WL_skip (dd := some 19) rfl rfl rfl ?_
  refine WL_skip (dd := some 20) rfl rfl rfl ?_
  refine WL_val (dd := some 21) rfl rfl rfl (r_pick_f rfl (v := .bool false) rfl) ?_
  refine WL_nil ?_
  refine hK19 _ _ ?_
  clear hK19 K18
  refine WC_cond_false rfl ?_
  refine WC_exit ?_
  refine hK11 _ _ ?_
  clear hK17 K16
  clear hJ15 J14
  clear hK11 K10
  refine WC_seq (fun K37 hK38 => ?_)
  have hpos : posC l c l.length = i := hp.trans (pos_end (by first | exact .inl (by omega) | exact .inr hc0))
  have hil : ((i : Nat) : Int).toNat = i := rfl
  refine WC_draw Ext tb_mix (fun W39 hE40 => ?_)
  replace hB := below_ext hB hE40 (Nat.le_refl _)
  replace hm0_0 := hE40.at hm0_0
  have hS := Ext.refl W39
  refine WT_take (dd := some 24) 0 rfl (by kernel_rfl) (by kernel_rfl) (by kernel_rfl) rfl rfl rfl (fun _wq _hq => r_move (v := x) rfl) hS ?_
  refine WT_take (dd := some 25) 1 rfl (by kernel_rfl) (by kernel_rfl) (by kernel_rfl) rfl rfl rfl (fun _wq _hq => r_move (v := .int .i64 _) rfl) hS ?_
  refine WT_take (dd := some 26) 2 rfl (by kernel_rfl) (by kernel_rfl) (by kernel_rfl) rfl rfl rfl (fun _wq _hq => r_move (v := .int .i64 _) rfl) hS ?_
  refine WT_take (dd := some 27) 3 rfl (by kernel_rfl) (by kernel_rfl) (by kernel_rfl) rfl rfl rfl (fun _wq hq => r_slice03 (v := x) rfl (hq.slT (Below.slT hB hl)) tb_el72 rfl rfl (by omega) (by omega) (by omega)) hS ?_
  have hp5_3 : SlT encC 2 w (slOf 2 x 0 i i) ((l.drop 0).take (i - 0)) := SlT.part encC_len hl (by omega) (by omega) (by omega) (by omega)
  refine WT_take (dd := some 28) 4 rfl (by kernel_rfl) (by kernel_rfl) (by kernel_rfl) rfl rfl rfl (fun _wq hq => r_loadW rfl tb_ag55 rfl (hq.at hm0_0)) hS ?_
  refine WT_take (dd := some 30) 6 rfl (by kernel_rfl) (by kernel_rfl) (by kernel_rfl) rfl rfl rfl (fun _wq _hq => r_move (v := x) rfl) hS ?_
  refine WT_take (dd := some 31) 7 rfl (by kernel_rfl) (by kernel_rfl) (by kernel_rfl) rfl rfl rfl (fun _wq _hq => r_move (v := .int .i64 _) rfl) hS ?_
  refine WT_take (dd := some 32) 8 rfl (by kernel_rfl) (by kernel_rfl) (by kernel_rfl) rfl rfl rfl (fun _wq hq => r_sliceLo (v := x) rfl (hq.slT (Below.slT hB hl)) tb_el72 rfl (by omega) (by omega)) hS ?_
  have hp5_8 : SlT encC 2 w (slOf 2 x i l.length (slC x)) ((l.drop i).take (l.length - i)) := SlT.part encC_len hl (by omega) (by omega) (by omega) (by omega)
  refine WT_one (dd := some 29) 5 (by kernel_rfl) rfl rfl rfl rfl (Y_lit1 (u := .agg #[_, _]) rfl tb_el72 tb_zs55 rfl (by decide) (by decide) (fun b5_5 W41 hb42 hE43 hm5_5 => ⟨.inl (hS.trans hE43), ?_⟩))
  have lo_b5_5 : w.heap.size ≤ b5_5 := hb42 ▸ (Below.size hB)
  have los_b5_5 := Nat.le_trans (Ext.size hS) (Nat.le_of_eq hb42.symm)
  have ne_b0_0_b5_5 : b0_0 ≠ b5_5 := Nat.ne_of_lt (hb42 ▸ hm0_0.lt)
  clear hb42
  have sv44_hB := hB
  have sv44_hm0_0 := hm0_0
  replace hB := below_ext hB hE43 (Nat.le_refl _)
  replace hm0_0 := hE43.at hm0_0
  replace hS := hS.trans hE43
  clear hE43
  have ho45 := own_lit1 (enc := encC) (a := c) hm5_5 rfl rfl lo_b5_5
  clear hm5_5
  refine WT_one (dd := some 33) 9 (by kernel_rfl) rfl rfl rfl rfl (Y_append (v := .slice (some ⟨b5_5, 0, none⟩) 1 1) (v2 := slOf 2 x i l.length (slC x)) rfl rfl tb_el72 tb_zs55 (by decide) ho45 (Below.slT hB hp5_8) (enc_one_encC) (by have := Below.size hB; omega) (by simp; omega) (by simp; omega) (fun v5_9 W46 hG47 ho5_9 => ⟨.inl (below_grown hS hG47 (Nat.le_refl _) (fun j hj => by have e : b5_5 = j := Option.some.inj hj; rw [← e]; exact los_b5_5)), ?_⟩))
  replace hS : Ext _ _ := below_grown hS hG47 (Nat.le_refl _) (fun j hj => by have e : b5_5 = j := Option.some.inj hj; rw [← e]; exact los_b5_5)
  replace ho5_9 := OwT.app (enc := encC) rfl rfl rfl rfl ho5_9
  replace hB := below_grown hB hG47 (Nat.le_refl _) (fun j hj => (OwT.lt ho45 j hj))
  clear hm0_0
  clear hG47
  clear ho45
  refine WT_one (dd := some 34) 10 (by kernel_rfl) rfl rfl rfl rfl (Y_appendFull (N := w.heap.size) (v := slOf 2 x 0 i i) (v2 := v5_9) rfl rfl tb_el72 tb_zs55 (Below.slT hB hp5_3) (slOf_full (by simp; omega)) ho5_9.sl (by simp) (Below.size hB) (by simp; omega) (by simp; omega) (fun v5_10 W49 hE50 ho5_10 => ⟨.inl (hS.trans hE50), ?_⟩))
  replace ho5_10 := OwT.app (enc := encC) rfl rfl rfl rfl ho5_10
  replace hB := below_ext hB hE50 (Nat.le_refl _)
  replace ho5_9 := hE50.ow ho5_9
  replace hS := hS.trans hE50
  clear hE50
  refine WT_take (dd := some 4) 11 rfl (by kernel_rfl) (by kernel_rfl) (by kernel_rfl) rfl rfl rfl (fun _wq _hq => r_assign (v := v5_10) rfl) hS ?_
  refine WT_done (by kernel_rfl) ?_
  try clear sv44_hB sv44_hm0_0
  refine hK38 _ _ ?_
  clear hK38 K37
  refine WC_ret ?_
  repeat (first | refine thenQ_ret ?_ | refine blockQ_ret ?_)
  refine ret_t (v := v5_10) rfl ?_
  refine ⟨hB, ?_⟩
  have e : (l.drop i).take (l.length - i) = l.drop i := List.take_of_length_le (by simp)
  rw [e] at ho5_10
  rw [insC, hpos]
  simpa using ho5_10

end Go.Proofs.Ytpamgfbecgjjeaa
