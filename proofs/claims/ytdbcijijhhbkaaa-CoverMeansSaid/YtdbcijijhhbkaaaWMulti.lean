/-
  The walks of specs, of package multi, and of the document's rows.
-/
import Derived.Test.YtdbcijijhhbkaaaProg
import Derived.Test.YtdbcijijhhbkaaaWAll
import Derived.Test.YtdbcijijhhbkaaaMulti2
namespace Go.Proofs.Ytdbcijijhhbkaaa
set_option linter.unusedVariables false
set_option linter.unusedSimpArgs false
open Go Go.RowKit

theorem tb_fo79_1 : fieldO Try.prog 79 1 = some 2 := by kernel_rfl
theorem tb_c112 : callB Try.prog 112 = true := by kernel_rfl
theorem tb_fo79_0 : fieldO Try.prog 79 0 = some 0 := by kernel_rfl
theorem tb_fo64_0 : fieldO Try.prog 64 0 = some 0 := by kernel_rfl
theorem tb_fo64_1 : fieldO Try.prog 64 1 = some 1 := by kernel_rfl
theorem tb_sc62 : scalarB Try.prog 62 = true := by kernel_rfl
theorem tb_el62 : elemI Try.prog 62 = some (24, 4, 32) := by kernel_rfl
theorem tb_fo64_2 : fieldO Try.prog 64 2 = some 2 := by kernel_rfl
theorem tb_c81 : callB Try.prog 81 = true := by kernel_rfl
theorem tb_c82 : callB Try.prog 82 = true := by kernel_rfl
theorem tb_ag79 : aggN Try.prog 79 = some 3 := by kernel_rfl
theorem tb_c122 : callB Try.prog 122 = true := by kernel_rfl
theorem tb_c32 : callB Try.prog 32 = true := by kernel_rfl

theorem C_drawkniferef04_Bit (o i : Nat) (w : World) (ho : o < 256) (hi : i < 8) :
    Fn Try.prog 112 #[.int .u8 (o : Int), .int .i64 (i : Int)] w fun v w' => v = .bool (o.testBit i) := by
 refine Fn_intro (n := 10) Try.func112 rfl rfl (Nat.le_of_ble_eq_true rfl) ?_
 have hB : Below w.heap.size w w := Below.refl _ _
 refine WC_seq (fun K1 hK2 => ?_)
 refine WC_region ?_
 refine WL_val (dd := some 4) rfl rfl rfl (r_assign (v := .bool false) rfl) ?_
 refine WL_nil ?_
 refine hK2 _ _ ?_
 clear hK2 K1
 refine WC_seq (fun K3 hK4 => ?_)
 refine WC_region ?_
 refine WL_val (dd := some 5) rfl rfl rfl (r_move (v := .int .u8 _) rfl) ?_
 refine WL_val (dd := some 6) rfl rfl rfl (r_convN rfl Try.underlying5 Try.underlying3 (by first | assumption | (simp only [topN]; omega) | (simp only [topN]; decide))) ?_
 refine WL_val (dd := some 7) rfl rfl rfl (r_move (v := .int .i64 _) rfl) ?_
 refine WL_call (dd := some 8) rfl rfl rfl (r_call2 tb_c96 (v0 := .int .i64 _) rfl (v1 := .int .i64 _) rfl) (C_drawkniferef01_Bit _ _ _ (by first | assumption | omega) (by first | assumption | omega)) (fun v1_3 W5 hE6 hP1_3 => ?_)
 have hsz7 := (Below.size hB)
 replace hB := below_ext hB hE6 (Nat.le_refl _)
 clear hE6
 clear hsz7
 obtain rfl := hP1_3
 refine WL_val (dd := some 9) rfl rfl rfl (r_eql rfl rfl) ?_
 refine WL_val (dd := some 4) rfl rfl rfl (r_assign (v := .bool _) rfl) ?_
 refine WL_nil ?_
 refine hK4 _ _ ?_
 clear hK4 K3
 refine WC_ret ?_
 repeat (first | refine thenQ_ret ?_ | refine blockQ_ret ?_)
 refine ret_t (v := .bool _) rfl ?_
 refine ⟨hB, ?_⟩
 exact congrArg Value.bool bit_bool

theorem C_drawkniferef04_May (m u o outs : Nat) (n : Int) (w : World) (hm : m < 256) (hv : u < 256) (ho : o < 256) :
    Fn Try.prog 122 #[.agg #[.int .u8 (m : Int), .int .u8 (u : Int), .int .u8 (o : Int)], .int .i64 n, .int .i64 (outs : Int)] w fun v w' => v = .bool (okO o outs && rightB m u n) := by
 refine Fn_intro (n := 27) Try.func122 rfl rfl (Nat.le_of_ble_eq_true rfl) ?_
 have hB : Below w.heap.size w w := Below.refl _ _
 refine WC_seq (fun K1 hK2 => ?_)
 refine WC_region ?_
 refine WL_step (dd := some 3) rfl rfl rfl (Y_box (c := #[_, _, _]) rfl rfl (fun b0_0 W3 hb4 hE5 hm0_0 => ?_))
 have lo_b0_0 : w.heap.size ≤ b0_0 := hb4 ▸ (Below.size hB)
 clear hb4
 replace hB := below_ext hB hE5 (Nat.le_refl _)
 clear hE5
 refine WL_val (dd := some 6) rfl rfl rfl (r_assign (v := .bool false) rfl) ?_
 refine WL_nil ?_
 refine hK2 _ _ ?_
 clear hK2 K1
 refine WC_seq (fun K6 hK7 => ?_)
 refine WC_region ?_
 refine WL_val (dd := some 7) rfl rfl rfl (r_assign (v := .bool false) rfl) ?_
 refine WL_nil ?_
 refine hK7 _ _ ?_
 clear hK7 K6
 refine WC_seq (fun K8 hK9 => ?_)
 refine WC_seq (fun K10 hK11 => ?_)
 refine WC_region ?_
 refine WL_val (dd := some 8) rfl rfl rfl (r_assign (v := .int .i64 0) rfl) ?_
 refine WL_nil ?_
 refine hK11 _ _ ?_
 clear hK11 K10
 refine WC_block ?_
 refine WC_loop (σ := (Nat)) [6, 7, 8, 9, 10, 11, 12, 13, 14, 15, 16, 17, 18, 19] (fun k => [(8, .int .i64 (k : Int)), (7, .bool (someTo o k))]) (fun k W => (Below w.heap.size w W) ∧ (At W b0_0 _ 79) ∧ (k ≤ 8) ∧ (∀ j, j < k → o.testBit j = true → j < outs) ∧ (True)) (fun k => 8 - k) (0) ⟨rfl, rfl, trivial⟩ ⟨hB, hm0_0, (by omega), upTo_zero, trivial⟩ ?_
 clear hB hm0_0
 rintro k g13 W12 ⟨hB, hm0_0, hk, hq, _⟩ J14 hJ15
 refine WC_seq (fun K16 hK17 => ?_)
 refine WC_seq (fun K18 hK19 => ?_)
 refine WC_region ?_
 refine WL_val (dd := some 9) rfl rfl rfl (r_move (v := .int .i64 _) rfl) ?_
 refine WL_val (dd := some 10) rfl rfl rfl (r_lss rfl rfl) ?_
 refine WL_nil ?_
 refine hK19 _ _ ?_
 clear hK19 K18
 refine WC_cond (b := _) rfl (fun hc0 => ?_) (fun hc0 => ?_)
 ·
  try with_reducible replace hc0 := of_decide_eq_true hc0
  refine WC_skip ?_
  refine hK17 _ _ ?_
  clear hK17 K16
  refine WC_seq (fun K20 hK21 => ?_)
  refine WC_block ?_
  refine WC_seq (fun K22 hK23 => ?_)
  refine WC_region ?_
  refine WL_val (dd := some 13) rfl rfl rfl (r_fieldAddr (b := _) (o := _) rfl tb_fo79_1) ?_
  refine WL_val (dd := some 14) rfl rfl rfl (r_load1 (v := .int .u8 _) rfl tb_sc5 (At.cell hm0_0 rfl)) ?_
  refine WL_val (dd := some 15) rfl rfl rfl (r_move (v := .int .i64 _) rfl) ?_
  refine WL_call (dd := some 16) rfl rfl rfl (r_call2 tb_c112 (v0 := .int .u8 _) rfl (v1 := .int .i64 _) rfl) (C_drawkniferef04_Bit _ _ _ (by first | assumption | omega) (by first | assumption | omega)) (fun v5_3 W24 hE25 hP5_3 => ?_)
  have hsz26 := (Below.size hB)
  replace hB := below_ext hB hE25 (Nat.le_refl _)
  replace hm0_0 := hE25.at hm0_0
  clear hE25
  clear hsz26
  obtain rfl := hP5_3
  refine WL_nil ?_
  refine hK23 _ _ ?_
  clear hK23 K22
  refine WC_cond (b := _) rfl (fun hc1 => ?_) (fun hc1 => ?_)
  ·
   try with_reducible replace hc1 := of_decide_eq_true hc1
   refine WC_seq (fun K27 hK28 => ?_)
   refine WC_seq (fun K29 hK30 => ?_)
   refine WC_region ?_
   refine WL_val (dd := some 17) rfl rfl rfl (r_move (v := .int .i64 _) rfl) ?_
   refine WL_val (dd := some 18) rfl rfl rfl (r_move (v := .int .i64 _) rfl) ?_
   refine WL_val (dd := some 19) rfl rfl rfl (r_geq rfl rfl) ?_
   refine WL_nil ?_
   refine hK30 _ _ ?_
   clear hK30 K29
   refine WC_cond (b := _) rfl (fun hc2 => ?_) (fun hc2 => ?_)
   ·
    try with_reducible replace hc2 := of_decide_eq_true hc2
    refine WC_seq (fun K31 hK32 => ?_)
    refine WC_region ?_
    refine WL_val (dd := some 6) rfl rfl rfl (r_assign (v := .bool false) rfl) ?_
    refine WL_nil ?_
    refine hK32 _ _ ?_
    clear hK32 K31
    refine WC_ret ?_
    repeat (first | refine thenQ_ret ?_ | refine blockQ_ret ?_)
    try clear hK28 K27
    try clear hK21 K20
    try clear hJ15 J14
    try clear hK9 K8
    refine ret_t (v := .bool false) rfl ?_
    refine ⟨hB, ?_⟩
    rw [okO_no hc1 (by omega), Bool.false_and]
   ·
    try with_reducible replace hc2 := of_decide_eq_false hc2
    refine WC_skip ?_
    refine hK28 _ _ ?_
    clear hK28 K27
    refine WC_region ?_
    refine WL_val (dd := some 7) rfl rfl rfl (r_assign (v := .bool true) rfl) ?_
    refine WL_nil ?_
    refine hK21 _ _ ?_
    clear hK21 K20
    refine WC_region ?_
    refine WL_val (dd := some 11) rfl rfl rfl (r_move (v := .int .i64 _) rfl) ?_
    refine WL_val (dd := some 12) rfl rfl rfl (r_addI rfl rfl (by omega) (by omega)) ?_
    refine WL_val (dd := some 8) rfl rfl rfl (r_assign (v := .int .i64 _) rfl) ?_
    refine WL_nil ?_
    refine hJ15 _ _ (k + 1) ?_ ?_ ?_ ?_
    · repeat (first | exact agree.mask _ _ _ | refine agree.updo ?_ rfl _ | refine agree.updL ?_ _ rfl | refine agree.maskS rfl ?_)
    · exact ⟨rfl, (by first | exact congrArg Value.bool (some_t hc1) | exact congrArg Value.bool (some_f hc1)), trivial⟩
    · exact ⟨hB, hm0_0, (by omega), (upTo_succ hq (fun _ => by omega)), trivial⟩
    · first | omega | (dsimp only; omega)
  ·
   try with_reducible replace hc1 := of_decide_eq_false hc1
   refine WC_skip ?_
   refine hK21 _ _ ?_
   clear hK21 K20
   refine WC_region ?_
   refine WL_val (dd := some 11) rfl rfl rfl (r_move (v := .int .i64 _) rfl) ?_
   refine WL_val (dd := some 12) rfl rfl rfl (r_addI rfl rfl (by omega) (by omega)) ?_
   refine WL_val (dd := some 8) rfl rfl rfl (r_assign (v := .int .i64 _) rfl) ?_
   refine WL_nil ?_
   refine hJ15 _ _ (k + 1) ?_ ?_ ?_ ?_
   · repeat (first | exact agree.mask _ _ _ | refine agree.updo ?_ rfl _ | refine agree.updL ?_ _ rfl | refine agree.maskS rfl ?_)
   · exact ⟨rfl, (by first | exact congrArg Value.bool (some_t hc1) | exact congrArg Value.bool (some_f hc1)), trivial⟩
   · exact ⟨hB, hm0_0, (by omega), (upTo_succ hq (fun h => by rw [h] at hc1; cases hc1)), trivial⟩
   · first | omega | (dsimp only; omega)
 ·
  try with_reducible replace hc0 := of_decide_eq_false hc0
  refine WC_exit ?_
  refine hK9 _ _ ?_
  clear hK17 K16
  clear hJ15 J14
  clear hK9 K8
  refine WC_seq (fun K33 hK34 => ?_)
  refine WC_region ?_
  refine WL_val (dd := some 20) rfl rfl rfl (r_move (v := .bool _) rfl) ?_
  refine WL_split (dd := some 21) rfl rfl rfl (r_move (v := .bool _) rfl) (fun hs9_1 => ?_) (fun hs9_1 => ?_)
  ·
   try with_reducible replace hs9_1 := of_decide_eq_true hs9_1
   refine WL_val (dd := some 22) rfl rfl rfl (r_fieldAddr (b := _) (o := _) rfl tb_fo79_0) ?_
   refine WL_val (dd := some 23) rfl rfl rfl (r_load2 rfl tb_ag34 (At.cell hm0_0 rfl) (At.cell hm0_0 rfl)) ?_
   refine WL_val (dd := some 24) rfl rfl rfl (r_move (v := .int .i64 _) rfl) ?_
   refine WL_call (dd := some 25) rfl rfl rfl (r_call2 tb_c92 (v0 := .agg #[_, _]) rfl (v1 := .int .i64 _) rfl) (C_drawkniferef02_Right _ _ _ _ (by first | assumption | omega) (by first | assumption | omega)) (fun v9_5 W35 hE36 hP9_5 => ?_)
   have hsz37 := (Below.size hB)
   replace hB := below_ext hB hE36 (Nat.le_refl _)
   replace hm0_0 := hE36.at hm0_0
   clear hE36
   clear hsz37
   obtain rfl := hP9_5
   refine WL_val (dd := some 26) rfl rfl rfl (r_pick_t rfl (v := .bool _) rfl) ?_
   refine WL_val (dd := some 6) rfl rfl rfl (r_assign (v := .bool _) rfl) ?_
   refine WL_nil ?_
   refine hK34 _ _ ?_
   clear hK34 K33
   refine WC_ret ?_
   repeat (first | refine thenQ_ret ?_ | refine blockQ_ret ?_)
   refine ret_t (v := .bool _) rfl ?_
   refine ⟨hB, ?_⟩
   obtain rfl : k = 8 := by omega
   rw [okO_all ho hq, hs9_1, Bool.true_and]
  ·
   try with_reducible replace hs9_1 := of_decide_eq_false hs9_1
   refine WL_skip (dd := some 22) rfl rfl rfl ?_
   refine WL_skip (dd := some 23) rfl rfl rfl ?_
   refine WL_skip (dd := some 24) rfl rfl rfl ?_
   refine WL_skip (dd := some 25) rfl rfl rfl ?_
   refine WL_val (dd := some 26) rfl rfl rfl (r_pick_f rfl (v := .bool false) rfl) ?_
   refine WL_val (dd := some 6) rfl rfl rfl (r_assign (v := .bool false) rfl) ?_
   refine WL_nil ?_
   refine hK34 _ _ ?_
   clear hK34 K33
   refine WC_ret ?_
   repeat (first | refine thenQ_ret ?_ | refine blockQ_ret ?_)
   refine ret_t (v := .bool false) rfl ?_
   refine ⟨hB, ?_⟩
   obtain rfl : k = 8 := by omega
   rw [okO_all ho hq, hs9_1, Bool.false_and]

theorem C_drawkniferef04_Right (S : Sp) (onV mayV : Value) (w : World) (hon : SlT encS 4 w onV S.on) (hmay : SlT encS 4 w mayV S.may) :
    Fn Try.prog 56 #[.agg #[.int .i64 S.n, onV, mayV]] w fun v w' => v = .bool (rightS S) := by
 refine Fn_intro (n := 65) Try.func56 rfl rfl (Nat.le_of_ble_eq_true rfl) ?_
 have hB : Below w.heap.size w w := Below.refl _ _
 refine WC_seq (fun K1 hK2 => ?_)
 refine WC_region ?_
 refine WL_step (dd := some 1) rfl rfl rfl (Y_box (c := #[_, _, _]) rfl rfl (fun b0_0 W3 hb4 hE5 hm0_0 => ?_))
 have lo_b0_0 : w.heap.size ≤ b0_0 := hb4 ▸ (Below.size hB)
 clear hb4
 replace hB := below_ext hB hE5 (Nat.le_refl _)
 clear hE5
 refine WL_val (dd := some 2) rfl rfl rfl (r_assign (v := .bool false) rfl) ?_
 refine WL_nil ?_
 refine hK2 _ _ ?_
 clear hK2 K1
 refine WC_seq (fun K6 hK7 => ?_)
 refine WC_seq (fun K8 hK9 => ?_)
 refine WC_region ?_
 refine WL_val (dd := some 4) rfl rfl rfl (r_fieldAddr (b := _) (o := _) rfl tb_fo64_0) ?_
 refine WL_val (dd := some 5) rfl rfl rfl (r_load1 (v := .int .i64 _) rfl tb_sc3 (At.cell hm0_0 rfl)) ?_
 refine WL_val (dd := some 6) rfl rfl rfl (r_lss rfl rfl) ?_
 refine WL_split (dd := some 7) rfl rfl rfl (r_move (v := .bool _) rfl) (fun hs1_3 => ?_) (fun hs1_3 => ?_)
 ·
  try with_reducible replace hs1_3 := of_decide_eq_true hs1_3
  refine WL_skip (dd := some 8) rfl rfl rfl ?_
  refine WL_skip (dd := some 9) rfl rfl rfl ?_
  refine WL_skip (dd := some 10) rfl rfl rfl ?_
  refine WL_val (dd := some 11) rfl rfl rfl (r_pick_t rfl (v := .bool true) rfl) ?_
  refine WL_val (dd := some 12) rfl rfl rfl (r_move (v := .bool true) rfl) ?_
  refine WL_skip (dd := some 13) rfl rfl rfl ?_
  refine WL_skip (dd := some 14) rfl rfl rfl ?_
  refine WL_skip (dd := some 15) rfl rfl rfl ?_
  refine WL_skip (dd := some 16) rfl rfl rfl ?_
  refine WL_val (dd := some 17) rfl rfl rfl (r_pick_t rfl (v := .bool true) rfl) ?_
  refine WL_val (dd := some 18) rfl rfl rfl (r_move (v := .bool true) rfl) ?_
  refine WL_skip (dd := some 19) rfl rfl rfl ?_
  refine WL_skip (dd := some 20) rfl rfl rfl ?_
  refine WL_skip (dd := some 21) rfl rfl rfl ?_
  refine WL_skip (dd := some 22) rfl rfl rfl ?_
  refine WL_val (dd := some 23) rfl rfl rfl (r_pick_t rfl (v := .bool true) rfl) ?_
  refine WL_val (dd := some 24) rfl rfl rfl (r_move (v := .bool true) rfl) ?_
  refine WL_skip (dd := some 25) rfl rfl rfl ?_
  refine WL_skip (dd := some 26) rfl rfl rfl ?_
  refine WL_skip (dd := some 27) rfl rfl rfl ?_
  refine WL_skip (dd := some 28) rfl rfl rfl ?_
  refine WL_skip (dd := some 29) rfl rfl rfl ?_
  refine WL_skip (dd := some 30) rfl rfl rfl ?_
  refine WL_skip (dd := some 31) rfl rfl rfl ?_
  refine WL_val (dd := some 32) rfl rfl rfl (r_pick_t rfl (v := .bool true) rfl) ?_
  refine WL_nil ?_
  refine hK9 _ _ ?_
  clear hK9 K8
  refine WC_cond_true rfl ?_
  refine WC_seq (fun K10 hK11 => ?_)
  refine WC_region ?_
  refine WL_val (dd := some 2) rfl rfl rfl (r_assign (v := .bool false) rfl) ?_
  refine WL_nil ?_
  refine hK11 _ _ ?_
  clear hK11 K10
  refine WC_ret ?_
  repeat (first | refine thenQ_ret ?_ | refine blockQ_ret ?_)
  try clear hK7 K6
  refine ret_t (v := .bool false) rfl ?_
  refine ⟨hB, ?_⟩
  exact right_f (by omega)
 ·
  try with_reducible replace hs1_3 := of_decide_eq_false hs1_3
  refine WL_val (dd := some 8) rfl rfl rfl (r_fieldAddr (b := _) (o := _) rfl tb_fo64_0) ?_
  refine WL_val (dd := some 9) rfl rfl rfl (r_load1 (v := .int .i64 _) rfl tb_sc3 (At.cell hm0_0 rfl)) ?_
  refine WL_val (dd := some 10) rfl rfl rfl (r_gtr rfl rfl) ?_
  refine WL_val (dd := some 11) rfl rfl rfl (r_pick_f rfl (v := .bool _) rfl) ?_
  refine WL_split (dd := some 12) rfl rfl rfl (r_move (v := .bool _) rfl) (fun hs1_8 => ?_) (fun hs1_8 => ?_)
  ·
   try with_reducible replace hs1_8 := of_decide_eq_true hs1_8
   refine WL_skip (dd := some 13) rfl rfl rfl ?_
   refine WL_skip (dd := some 14) rfl rfl rfl ?_
   refine WL_skip (dd := some 15) rfl rfl rfl ?_
   refine WL_skip (dd := some 16) rfl rfl rfl ?_
   refine WL_val (dd := some 17) rfl rfl rfl (r_pick_t rfl (v := .bool true) rfl) ?_
   refine WL_val (dd := some 18) rfl rfl rfl (r_move (v := .bool true) rfl) ?_
   refine WL_skip (dd := some 19) rfl rfl rfl ?_
   refine WL_skip (dd := some 20) rfl rfl rfl ?_
   refine WL_skip (dd := some 21) rfl rfl rfl ?_
   refine WL_skip (dd := some 22) rfl rfl rfl ?_
   refine WL_val (dd := some 23) rfl rfl rfl (r_pick_t rfl (v := .bool true) rfl) ?_
   refine WL_val (dd := some 24) rfl rfl rfl (r_move (v := .bool true) rfl) ?_
   refine WL_skip (dd := some 25) rfl rfl rfl ?_
   refine WL_skip (dd := some 26) rfl rfl rfl ?_
   refine WL_skip (dd := some 27) rfl rfl rfl ?_
   refine WL_skip (dd := some 28) rfl rfl rfl ?_
   refine WL_skip (dd := some 29) rfl rfl rfl ?_
   refine WL_skip (dd := some 30) rfl rfl rfl ?_
   refine WL_skip (dd := some 31) rfl rfl rfl ?_
   refine WL_val (dd := some 32) rfl rfl rfl (r_pick_t rfl (v := .bool true) rfl) ?_
   refine WL_nil ?_
   refine hK9 _ _ ?_
   clear hK9 K8
   refine WC_cond_true rfl ?_
   refine WC_seq (fun K12 hK13 => ?_)
   refine WC_region ?_
   refine WL_val (dd := some 2) rfl rfl rfl (r_assign (v := .bool false) rfl) ?_
   refine WL_nil ?_
   refine hK13 _ _ ?_
   clear hK13 K12
   refine WC_ret ?_
   repeat (first | refine thenQ_ret ?_ | refine blockQ_ret ?_)
   try clear hK7 K6
   refine ret_t (v := .bool false) rfl ?_
   refine ⟨hB, ?_⟩
   exact right_f (by omega)
  ·
   try with_reducible replace hs1_8 := of_decide_eq_false hs1_8
   refine WL_val (dd := some 13) rfl rfl rfl (r_fieldAddr (b := _) (o := _) rfl tb_fo64_1) ?_
   refine WL_val (dd := some 14) rfl rfl rfl (r_load1 (v := onV) rfl tb_sc62 (At.cell hm0_0 rfl)) ?_
   refine WL_val (dd := some 15) rfl rfl rfl (r_lenS (v := onV) rfl (Below.slT hB hon) tb_el62) ?_
   refine WL_val (dd := some 16) rfl rfl rfl (r_lss rfl rfl) ?_
   refine WL_val (dd := some 17) rfl rfl rfl (r_pick_f rfl (v := .bool _) rfl) ?_
   refine WL_split (dd := some 18) rfl rfl rfl (r_move (v := .bool _) rfl) (fun hs1_14 => ?_) (fun hs1_14 => ?_)
   ·
    try with_reducible replace hs1_14 := of_decide_eq_true hs1_14
    refine WL_skip (dd := some 19) rfl rfl rfl ?_
    refine WL_skip (dd := some 20) rfl rfl rfl ?_
    refine WL_skip (dd := some 21) rfl rfl rfl ?_
    refine WL_skip (dd := some 22) rfl rfl rfl ?_
    refine WL_val (dd := some 23) rfl rfl rfl (r_pick_t rfl (v := .bool true) rfl) ?_
    refine WL_val (dd := some 24) rfl rfl rfl (r_move (v := .bool true) rfl) ?_
    refine WL_skip (dd := some 25) rfl rfl rfl ?_
    refine WL_skip (dd := some 26) rfl rfl rfl ?_
    refine WL_skip (dd := some 27) rfl rfl rfl ?_
    refine WL_skip (dd := some 28) rfl rfl rfl ?_
    refine WL_skip (dd := some 29) rfl rfl rfl ?_
    refine WL_skip (dd := some 30) rfl rfl rfl ?_
    refine WL_skip (dd := some 31) rfl rfl rfl ?_
    refine WL_val (dd := some 32) rfl rfl rfl (r_pick_t rfl (v := .bool true) rfl) ?_
    refine WL_nil ?_
    refine hK9 _ _ ?_
    clear hK9 K8
    refine WC_cond_true rfl ?_
    refine WC_seq (fun K14 hK15 => ?_)
    refine WC_region ?_
    refine WL_val (dd := some 2) rfl rfl rfl (r_assign (v := .bool false) rfl) ?_
    refine WL_nil ?_
    refine hK15 _ _ ?_
    clear hK15 K14
    refine WC_ret ?_
    repeat (first | refine thenQ_ret ?_ | refine blockQ_ret ?_)
    try clear hK7 K6
    refine ret_t (v := .bool false) rfl ?_
    refine ⟨hB, ?_⟩
    exact right_f (by omega)
   ·
    try with_reducible replace hs1_14 := of_decide_eq_false hs1_14
    refine WL_val (dd := some 19) rfl rfl rfl (r_fieldAddr (b := _) (o := _) rfl tb_fo64_1) ?_
    refine WL_val (dd := some 20) rfl rfl rfl (r_load1 (v := onV) rfl tb_sc62 (At.cell hm0_0 rfl)) ?_
    refine WL_val (dd := some 21) rfl rfl rfl (r_lenS (v := onV) rfl (Below.slT hB hon) tb_el62) ?_
    refine WL_val (dd := some 22) rfl rfl rfl (r_gtr rfl rfl) ?_
    refine WL_val (dd := some 23) rfl rfl rfl (r_pick_f rfl (v := .bool _) rfl) ?_
    refine WL_split (dd := some 24) rfl rfl rfl (r_move (v := .bool _) rfl) (fun hs1_20 => ?_) (fun hs1_20 => ?_)
    ·
     try with_reducible replace hs1_20 := of_decide_eq_true hs1_20
     refine WL_skip (dd := some 25) rfl rfl rfl ?_
     refine WL_skip (dd := some 26) rfl rfl rfl ?_
     refine WL_skip (dd := some 27) rfl rfl rfl ?_
     refine WL_skip (dd := some 28) rfl rfl rfl ?_
     refine WL_skip (dd := some 29) rfl rfl rfl ?_
     refine WL_skip (dd := some 30) rfl rfl rfl ?_
     refine WL_skip (dd := some 31) rfl rfl rfl ?_
     refine WL_val (dd := some 32) rfl rfl rfl (r_pick_t rfl (v := .bool true) rfl) ?_
     refine WL_nil ?_
     refine hK9 _ _ ?_
     clear hK9 K8
     refine WC_cond_true rfl ?_
     refine WC_seq (fun K16 hK17 => ?_)
     refine WC_region ?_
     refine WL_val (dd := some 2) rfl rfl rfl (r_assign (v := .bool false) rfl) ?_
     refine WL_nil ?_
     refine hK17 _ _ ?_
     clear hK17 K16
     refine WC_ret ?_
     repeat (first | refine thenQ_ret ?_ | refine blockQ_ret ?_)
     try clear hK7 K6
     refine ret_t (v := .bool false) rfl ?_
     refine ⟨hB, ?_⟩
     exact right_f (by omega)
    ·
     try with_reducible replace hs1_20 := of_decide_eq_false hs1_20
     refine WL_val (dd := some 25) rfl rfl rfl (r_fieldAddr (b := _) (o := _) rfl tb_fo64_2) ?_
     refine WL_val (dd := some 26) rfl rfl rfl (r_load1 (v := mayV) rfl tb_sc62 (At.cell hm0_0 rfl)) ?_
     refine WL_val (dd := some 27) rfl rfl rfl (r_lenS (v := mayV) rfl (Below.slT hB hmay) tb_el62) ?_
     refine WL_val (dd := some 28) rfl rfl rfl (r_fieldAddr (b := _) (o := _) rfl tb_fo64_1) ?_
     refine WL_val (dd := some 29) rfl rfl rfl (r_load1 (v := onV) rfl tb_sc62 (At.cell hm0_0 rfl)) ?_
     refine WL_val (dd := some 30) rfl rfl rfl (r_lenS (v := onV) rfl (Below.slT hB hon) tb_el62) ?_
     refine WL_val (dd := some 31) rfl rfl rfl (r_neq rfl rfl) ?_
     refine WL_val (dd := some 32) rfl rfl rfl (r_pick_f rfl (v := .bool _) rfl) ?_
     refine WL_nil ?_
     refine hK9 _ _ ?_
     clear hK9 K8
     refine WC_cond (b := _) rfl (fun hc0 => ?_) (fun hc0 => ?_)
     ·
      try with_reducible replace hc0 := of_decide_eq_true hc0
      refine WC_seq (fun K18 hK19 => ?_)
      refine WC_region ?_
      refine WL_val (dd := some 2) rfl rfl rfl (r_assign (v := .bool false) rfl) ?_
      refine WL_nil ?_
      refine hK19 _ _ ?_
      clear hK19 K18
      refine WC_ret ?_
      repeat (first | refine thenQ_ret ?_ | refine blockQ_ret ?_)
      try clear hK7 K6
      refine ret_t (v := .bool false) rfl ?_
      refine ⟨hB, ?_⟩
      exact right_f (by omega)
     ·
      try with_reducible replace hc0 := of_decide_eq_false hc0
      refine WC_skip ?_
      refine hK7 _ _ ?_
      clear hK7 K6
      refine WC_seq (fun K20 hK21 => ?_)
      refine WC_seq (fun K22 hK23 => ?_)
      refine WC_region ?_
      refine WL_val (dd := some 3) rfl rfl rfl (r_assign (v := .int .i64 0) rfl) ?_
      refine WL_nil ?_
      refine hK23 _ _ ?_
      clear hK23 K22
      refine WC_block ?_
      refine WC_loop (σ := (Nat)) [2, 3, 33, 34, 35, 36, 37, 38, 39, 40, 41, 42, 43, 44, 45, 46, 47, 48, 49, 50, 51, 52, 53, 54, 55, 56, 57, 58, 59, 60, 61, 62, 63, 64] (fun k => [(3, .int .i64 (k : Int))]) (fun k W => (Below w.heap.size w W) ∧ (At W b0_0 _ 64) ∧ (k ≤ S.on.length) ∧ (∀ q, q < k → withinB (onP S q) (mayP S q) = true ∧ withinB (mayP S q) (allS S.n.toNat) = true) ∧ (True)) (fun k => S.on.length - k) (0) ⟨rfl, trivial⟩ ⟨hB, hm0_0, (Nat.zero_le _), upTo_zero, trivial⟩ ?_
      clear hB hm0_0
      rintro k g25 W24 ⟨hB, hm0_0, hk, hq, _⟩ J26 hJ27
      refine WC_seq (fun K28 hK29 => ?_)
      refine WC_seq (fun K30 hK31 => ?_)
      refine WC_region ?_
      refine WL_val (dd := some 33) rfl rfl rfl (r_move (v := .int .i64 _) rfl) ?_
      refine WL_val (dd := some 34) rfl rfl rfl (r_fieldAddr (b := _) (o := _) rfl tb_fo64_1) ?_
      refine WL_val (dd := some 35) rfl rfl rfl (r_load1 (v := onV) rfl tb_sc62 (At.cell hm0_0 rfl)) ?_
      refine WL_val (dd := some 36) rfl rfl rfl (r_lenS (v := onV) rfl (Below.slT hB hon) tb_el62) ?_
      refine WL_val (dd := some 37) rfl rfl rfl (r_lss rfl rfl) ?_
      refine WL_nil ?_
      refine hK31 _ _ ?_
      clear hK31 K30
      refine WC_cond (b := _) rfl (fun hc1 => ?_) (fun hc1 => ?_)
      ·
       try with_reducible replace hc1 := of_decide_eq_true hc1
       refine WC_skip ?_
       refine hK29 _ _ ?_
       clear hK29 K28
       refine WC_seq (fun K32 hK33 => ?_)
       refine WC_block ?_
       refine WC_seq (fun K34 hK35 => ?_)
       have h0 : 0 ≤ S.n := by omega
       have h8 : S.n ≤ 8 := by omega
       refine WC_draw Ext tb_mix (fun W36 hE37 => ?_)
       replace hB := below_ext hB hE37 (Nat.le_refl _)
       replace hm0_0 := hE37.at hm0_0
       have hS := Ext.refl W36
       refine WT_take (dd := some 40) 0 rfl (by kernel_rfl) (by kernel_rfl) (by kernel_rfl) rfl rfl rfl (fun _wq _hq => r_fieldAddr (b := _) (o := _) rfl tb_fo64_1) hS ?_
       refine WT_take (dd := some 41) 1 rfl (by kernel_rfl) (by kernel_rfl) (by kernel_rfl) rfl rfl rfl (fun _wq hq => r_load1 (v := onV) rfl tb_sc62 (At.cell (hq.at hm0_0) rfl)) hS ?_
       refine WT_take (dd := some 42) 2 rfl (by kernel_rfl) (by kernel_rfl) (by kernel_rfl) rfl rfl rfl (fun _wq _hq => r_move (v := .int .i64 _) rfl) hS ?_
       refine WT_take (dd := some 43) 3 rfl (by kernel_rfl) (by kernel_rfl) (by kernel_rfl) rfl rfl rfl (fun _wq hq => r_idxS (v := onV) rfl (hq.slT (Below.slT hB hon)) rfl tb_el62 (by omega) (by first | omega | (simp only [flagsTo_len, litsTo_len, firstF_len, ptF_len, setF_len]; omega))) hS ?_
       refine WT_take (dd := some 44) 4 rfl (by kernel_rfl) (by kernel_rfl) (by kernel_rfl) rfl rfl rfl (fun _wq hq => r_load4 rfl tb_ag24 (SlT.cell (hq.slT (Below.slT hB hon)) encS_len 0 (by omega) (by first | omega | (simp only [flagsTo_len, litsTo_len, firstF_len, ptF_len, setF_len]; omega)) 0 rfl) (SlT.cell (hq.slT (Below.slT hB hon)) encS_len 0 (by omega) (by first | omega | (simp only [flagsTo_len, litsTo_len, firstF_len, ptF_len, setF_len]; omega)) 1 rfl) (SlT.cell (hq.slT (Below.slT hB hon)) encS_len 0 (by omega) (by first | omega | (simp only [flagsTo_len, litsTo_len, firstF_len, ptF_len, setF_len]; omega)) 2 rfl) (SlT.cell (hq.slT (Below.slT hB hon)) encS_len 0 (by omega) (by first | omega | (simp only [flagsTo_len, litsTo_len, firstF_len, ptF_len, setF_len]; omega)) 3 rfl)) hS ?_
       refine WT_take (dd := some 45) 5 rfl (by kernel_rfl) (by kernel_rfl) (by kernel_rfl) rfl rfl rfl (fun _wq _hq => r_fieldAddr (b := _) (o := _) rfl tb_fo64_2) hS ?_
       refine WT_take (dd := some 46) 6 rfl (by kernel_rfl) (by kernel_rfl) (by kernel_rfl) rfl rfl rfl (fun _wq hq => r_load1 (v := mayV) rfl tb_sc62 (At.cell (hq.at hm0_0) rfl)) hS ?_
       refine WT_take (dd := some 47) 7 rfl (by kernel_rfl) (by kernel_rfl) (by kernel_rfl) rfl rfl rfl (fun _wq _hq => r_move (v := .int .i64 _) rfl) hS ?_
       refine WT_take (dd := some 48) 8 rfl (by kernel_rfl) (by kernel_rfl) (by kernel_rfl) rfl rfl rfl (fun _wq hq => r_idxS (v := mayV) rfl (hq.slT (Below.slT hB hmay)) rfl tb_el62 (by omega) (by first | omega | (simp only [flagsTo_len, litsTo_len, firstF_len, ptF_len, setF_len]; omega))) hS ?_
       refine WT_take (dd := some 49) 9 rfl (by kernel_rfl) (by kernel_rfl) (by kernel_rfl) rfl rfl rfl (fun _wq hq => r_load4 rfl tb_ag24 (SlT.cell (hq.slT (Below.slT hB hmay)) encS_len 0 (by omega) (by first | omega | (simp only [flagsTo_len, litsTo_len, firstF_len, ptF_len, setF_len]; omega)) 0 rfl) (SlT.cell (hq.slT (Below.slT hB hmay)) encS_len 0 (by omega) (by first | omega | (simp only [flagsTo_len, litsTo_len, firstF_len, ptF_len, setF_len]; omega)) 1 rfl) (SlT.cell (hq.slT (Below.slT hB hmay)) encS_len 0 (by omega) (by first | omega | (simp only [flagsTo_len, litsTo_len, firstF_len, ptF_len, setF_len]; omega)) 2 rfl) (SlT.cell (hq.slT (Below.slT hB hmay)) encS_len 0 (by omega) (by first | omega | (simp only [flagsTo_len, litsTo_len, firstF_len, ptF_len, setF_len]; omega)) 3 rfl)) hS ?_
       refine WT_one (dd := some 50) 10 (by kernel_rfl) rfl rfl rfl rfl (Yd.call (r_call2 tb_c42 (v0 := .agg #[_, _, _, _]) rfl (v1 := .agg #[_, _, _, _]) rfl) (C_drawkniferef01_Within _ _ _) (fun v6_10 W38 hE39 hP6_10 => ⟨.inl (hS.trans hE39), ?_⟩))
       have hsz40 := (Below.size hB)
       have sv41_hB := hB
       have sv41_hm0_0 := hm0_0
       replace hB := below_ext hB hE39 (Nat.le_refl _)
       replace hm0_0 := hE39.at hm0_0
       replace hS := hS.trans hE39
       clear hE39
       clear hsz40
       obtain rfl := hP6_10
       refine WT_take (dd := some 51) 11 rfl (by kernel_rfl) (by kernel_rfl) (by kernel_rfl) rfl rfl rfl (fun _wq _hq => r_not rfl) hS ?_
       refine WT_split (dd := some 52) 12 rfl (by kernel_rfl) (by kernel_rfl) (by kernel_rfl) rfl rfl rfl (fun wq hq => r_move (v := .bool _) rfl) hS (fun hs6_12 => ?_) (fun hs6_12 => ?_)
       ·
        try with_reducible replace hs6_12 := of_decide_eq_true hs6_12
        refine WT_pass (dd := some 53) 13 rfl (by kernel_rfl) (by kernel_rfl) (by kernel_rfl) rfl rfl rfl hS ?_
        refine WT_pass (dd := some 54) 14 rfl (by kernel_rfl) (by kernel_rfl) (by kernel_rfl) rfl rfl rfl hS ?_
        refine WT_pass (dd := some 55) 15 rfl (by kernel_rfl) (by kernel_rfl) (by kernel_rfl) rfl rfl rfl hS ?_
        refine WT_pass (dd := some 56) 16 rfl (by kernel_rfl) (by kernel_rfl) (by kernel_rfl) rfl rfl rfl hS ?_
        refine WT_pass (dd := some 57) 17 rfl (by kernel_rfl) (by kernel_rfl) (by kernel_rfl) rfl rfl rfl hS ?_
        refine WT_pass (dd := some 58) 18 rfl (by kernel_rfl) (by kernel_rfl) (by kernel_rfl) rfl rfl rfl hS ?_
        refine WT_pass (dd := some 59) 19 rfl (by kernel_rfl) (by kernel_rfl) (by kernel_rfl) rfl rfl rfl hS ?_
        refine WT_pass (dd := some 60) 20 rfl (by kernel_rfl) (by kernel_rfl) (by kernel_rfl) rfl rfl rfl hS ?_
        refine WT_pass (dd := some 61) 21 rfl (by kernel_rfl) (by kernel_rfl) (by kernel_rfl) rfl rfl rfl hS ?_
        refine WT_pass (dd := some 62) 22 rfl (by kernel_rfl) (by kernel_rfl) (by kernel_rfl) rfl rfl rfl hS ?_
        refine WT_pass (dd := some 63) 23 rfl (by kernel_rfl) (by kernel_rfl) (by kernel_rfl) rfl rfl rfl hS ?_
        refine WT_take (dd := some 64) 24 rfl (by kernel_rfl) (by kernel_rfl) (by kernel_rfl) rfl rfl rfl (fun _wq _hq => r_pick_t rfl (v := .bool true) rfl) hS ?_
        refine WT_done (by kernel_rfl) ?_
        try clear sv41_hB sv41_hm0_0
        refine hK35 _ _ ?_
        clear hK35 K34
        refine WC_cond_true rfl ?_
        refine WC_seq (fun K42 hK43 => ?_)
        refine WC_region ?_
        refine WL_val (dd := some 2) rfl rfl rfl (r_assign (v := .bool false) rfl) ?_
        refine WL_nil ?_
        refine hK43 _ _ ?_
        clear hK43 K42
        refine WC_ret ?_
        repeat (first | refine thenQ_ret ?_ | refine blockQ_ret ?_)
        try clear hK33 K32
        try clear hJ27 J26
        try clear hK21 K20
        refine ret_t (v := .bool false) rfl ?_
        refine ⟨hB, ?_⟩
        exact right_k (k := k) (by omega) (fun h => Bool.noConfusion (h.1.symm.trans (not_t hs6_12)))
       ·
        try with_reducible replace hs6_12 := of_decide_eq_false hs6_12
        refine WT_take (dd := some 53) 13 rfl (by kernel_rfl) (by kernel_rfl) (by kernel_rfl) rfl rfl rfl (fun _wq _hq => r_fieldAddr (b := _) (o := _) rfl tb_fo64_2) hS ?_
        refine WT_take (dd := some 54) 14 rfl (by kernel_rfl) (by kernel_rfl) (by kernel_rfl) rfl rfl rfl (fun _wq hq => r_load1 (v := mayV) rfl tb_sc62 (At.cell (hq.at sv41_hm0_0) rfl)) hS ?_
        refine WT_take (dd := some 55) 15 rfl (by kernel_rfl) (by kernel_rfl) (by kernel_rfl) rfl rfl rfl (fun _wq _hq => r_move (v := .int .i64 _) rfl) hS ?_
        refine WT_take (dd := some 56) 16 rfl (by kernel_rfl) (by kernel_rfl) (by kernel_rfl) rfl rfl rfl (fun _wq hq => r_idxS (v := mayV) rfl (hq.slT (Below.slT sv41_hB hmay)) rfl tb_el62 (by omega) (by first | omega | (simp only [flagsTo_len, litsTo_len, firstF_len, ptF_len, setF_len]; omega))) hS ?_
        refine WT_take (dd := some 57) 17 rfl (by kernel_rfl) (by kernel_rfl) (by kernel_rfl) rfl rfl rfl (fun _wq hq => r_load4 rfl tb_ag24 (SlT.cell (hq.slT (Below.slT sv41_hB hmay)) encS_len 0 (by omega) (by first | omega | (simp only [flagsTo_len, litsTo_len, firstF_len, ptF_len, setF_len]; omega)) 0 rfl) (SlT.cell (hq.slT (Below.slT sv41_hB hmay)) encS_len 0 (by omega) (by first | omega | (simp only [flagsTo_len, litsTo_len, firstF_len, ptF_len, setF_len]; omega)) 1 rfl) (SlT.cell (hq.slT (Below.slT sv41_hB hmay)) encS_len 0 (by omega) (by first | omega | (simp only [flagsTo_len, litsTo_len, firstF_len, ptF_len, setF_len]; omega)) 2 rfl) (SlT.cell (hq.slT (Below.slT sv41_hB hmay)) encS_len 0 (by omega) (by first | omega | (simp only [flagsTo_len, litsTo_len, firstF_len, ptF_len, setF_len]; omega)) 3 rfl)) hS ?_
        refine WT_take (dd := some 58) 18 rfl (by kernel_rfl) (by kernel_rfl) (by kernel_rfl) rfl rfl rfl (fun _wq _hq => r_fieldAddr (b := _) (o := _) rfl tb_fo64_0) hS ?_
        refine WT_take (dd := some 59) 19 rfl (by kernel_rfl) (by kernel_rfl) (by kernel_rfl) rfl rfl rfl (fun _wq hq => r_load1 (v := .int .i64 _) rfl tb_sc3 (At.cell (hq.at sv41_hm0_0) rfl)) hS ?_
        refine WT_one (dd := some 60) 20 (by kernel_rfl) rfl rfl rfl rfl (Yd.call (r_call1 tb_c78 (v0 := .int .i64 _) rfl) (C_drawkniferef01_All _ _ (by first | assumption | omega) (by first | assumption | omega)) (fun v6_20 W44 hE45 hP6_20 => ⟨.inl (hS.trans hE45), ?_⟩))
        have hsz46 := (Below.size hB)
        replace hB := below_ext hB hE45 (Nat.le_refl _)
        replace hm0_0 := hE45.at hm0_0
        replace hS := hS.trans hE45
        clear hE45
        replace hP6_20 := OwT.mono hP6_20 hsz46
        clear hsz46
        refine WT_one (dd := some 61) 21 (by kernel_rfl) rfl rfl rfl rfl (Yd.call (r_call1 tb_c35 (v0 := v6_20) rfl) (C_drawkniferef01_Set _ _ _ hP6_20.sl (firstF_len _)) (fun v6_21 W47 hE48 hP6_21 => ⟨.inl (hS.trans hE48), ?_⟩))
        have hsz49 := (Below.size hB)
        replace hB := below_ext hB hE48 (Nat.le_refl _)
        replace hm0_0 := hE48.at hm0_0
        replace hP6_20 := hE48.ow hP6_20
        replace hS := hS.trans hE48
        clear hE48
        clear hsz49
        obtain rfl := hP6_21
        refine WT_one (dd := some 62) 22 (by kernel_rfl) rfl rfl rfl rfl (Yd.call (r_call2 tb_c42 (v0 := .agg #[_, _, _, _]) rfl (v1 := .agg #[_, _, _, _]) rfl) (C_drawkniferef01_Within _ _ _) (fun v6_22 W50 hE51 hP6_22 => ⟨.inl (hS.trans hE51), ?_⟩))
        have hsz52 := (Below.size hB)
        replace hB := below_ext hB hE51 (Nat.le_refl _)
        replace hm0_0 := hE51.at hm0_0
        replace hP6_20 := hE51.ow hP6_20
        replace hS := hS.trans hE51
        clear hE51
        clear hsz52
        obtain rfl := hP6_22
        refine WT_take (dd := some 63) 23 rfl (by kernel_rfl) (by kernel_rfl) (by kernel_rfl) rfl rfl rfl (fun _wq _hq => r_not rfl) hS ?_
        refine WT_take (dd := some 64) 24 rfl (by kernel_rfl) (by kernel_rfl) (by kernel_rfl) rfl rfl rfl (fun _wq _hq => r_pick_f rfl (v := .bool _) rfl) hS ?_
        refine WT_done (by kernel_rfl) ?_
        try clear sv41_hB sv41_hm0_0
        refine hK35 _ _ ?_
        clear hK35 K34
        refine WC_cond (b := _) rfl (fun hc2 => ?_) (fun hc2 => ?_)
        ·
         try with_reducible replace hc2 := of_decide_eq_true hc2
         refine WC_seq (fun K53 hK54 => ?_)
         refine WC_region ?_
         refine WL_val (dd := some 2) rfl rfl rfl (r_assign (v := .bool false) rfl) ?_
         refine WL_nil ?_
         refine hK54 _ _ ?_
         clear hK54 K53
         refine WC_ret ?_
         repeat (first | refine thenQ_ret ?_ | refine blockQ_ret ?_)
         try clear hK33 K32
         try clear hJ27 J26
         try clear hK21 K20
         refine ret_t (v := .bool false) rfl ?_
         refine ⟨hB, ?_⟩
         exact right_k (k := k) (by omega) (fun h => Bool.noConfusion (h.2.symm.trans ((within_bits h8).symm.trans (not_t hc2))))
        ·
         try with_reducible replace hc2 := of_decide_eq_false hc2
         refine WC_skip ?_
         refine hK33 _ _ ?_
         clear hK33 K32
         refine WC_region ?_
         refine WL_val (dd := some 38) rfl rfl rfl (r_move (v := .int .i64 _) rfl) ?_
         refine WL_val (dd := some 39) rfl rfl rfl (r_addI rfl rfl (by omega) (by omega)) ?_
         refine WL_val (dd := some 3) rfl rfl rfl (r_assign (v := .int .i64 _) rfl) ?_
         refine WL_nil ?_
         refine hJ27 _ _ (k + 1) ?_ ?_ ?_ ?_
         · repeat (first | exact agree.mask _ _ _ | refine agree.updo ?_ rfl _ | refine agree.updL ?_ _ rfl | refine agree.maskS rfl ?_)
         · exact ⟨rfl, trivial⟩
         · exact ⟨hB, hm0_0, (by omega), (upTo_succ hq ⟨not_f hs6_12, by rw [← within_bits h8]; exact not_f hc2⟩), trivial⟩
         · first | omega | (dsimp only; omega)
      ·
       try with_reducible replace hc1 := of_decide_eq_false hc1
       refine WC_exit ?_
       refine hK21 _ _ ?_
       clear hK29 K28
       clear hJ27 J26
       clear hK21 K20
       refine WC_seq (fun K55 hK56 => ?_)
       refine WC_region ?_
       refine WL_val (dd := some 2) rfl rfl rfl (r_assign (v := .bool true) rfl) ?_
       refine WL_nil ?_
       refine hK56 _ _ ?_
       clear hK56 K55
       refine WC_ret ?_
       repeat (first | refine thenQ_ret ?_ | refine blockQ_ret ?_)
       refine ret_t (v := .bool true) rfl ?_
       refine ⟨hB, ?_⟩
       obtain rfl : k = S.on.length := by omega
       exact right_t (by omega) hq

theorem C_spec_Right (S : Sp) (onV mayV : Value) (w : World) (hon : SlT encS 4 w onV S.on) (hmay : SlT encS 4 w mayV S.may) :
    Fn Try.prog 105 #[.agg #[.int .i64 S.n, onV, mayV]] w fun v w' => v = .bool (rightS S) := by
 refine Fn_intro (n := 63) Try.func105 rfl rfl (Nat.le_of_ble_eq_true rfl) ?_
 have hB : Below w.heap.size w w := Below.refl _ _
 refine WC_seq (fun K1 hK2 => ?_)
 refine WC_region ?_
 refine WL_step (dd := some 1) rfl rfl rfl (Y_box (c := #[_, _, _]) rfl rfl (fun b0_0 W3 hb4 hE5 hm0_0 => ?_))
 have lo_b0_0 : w.heap.size ≤ b0_0 := hb4 ▸ (Below.size hB)
 clear hb4
 replace hB := below_ext hB hE5 (Nat.le_refl _)
 clear hE5
 refine WL_val (dd := some 2) rfl rfl rfl (r_assign (v := .bool false) rfl) ?_
 refine WL_nil ?_
 refine hK2 _ _ ?_
 clear hK2 K1
 refine WC_seq (fun K6 hK7 => ?_)
 refine WC_region ?_
 refine WL_val (dd := some 8) rfl rfl rfl (r_fieldAddr (b := _) (o := _) rfl tb_fo64_0) ?_
 refine WL_val (dd := some 9) rfl rfl rfl (r_load1 (v := .int .i64 _) rfl tb_sc3 (At.cell hm0_0 rfl)) ?_
 refine WL_call (dd := some 10) rfl rfl rfl (r_call1 tb_c81 (v0 := .int .i64 _) rfl) (C_set_All _ _) (fun v1_2 W8 hE9 hP1_2 => ?_)
 have hsz10 := (Below.size hB)
 replace hB := below_ext hB hE9 (Nat.le_refl _)
 replace hm0_0 := hE9.at hm0_0
 clear hE9
 obtain ⟨sa, er, rfl, hhP1_2⟩ := all_cases hP1_2
 clear hsz10
 refine WL_val (dd := some 7) rfl rfl rfl (r_move (v := .tuple #[.agg #[_, _, _, _], .int .i64 _]) rfl) ?_
 refine WL_val (dd := some 11) rfl rfl rfl (r_ext2_0 (h := rfl)) ?_
 refine WL_val (dd := some 12) rfl rfl rfl (r_ext2_1 (h := rfl)) ?_
 refine WL_step (dd := some 3) rfl rfl rfl (Y_alloc tb_z24 rfl (fun b1_6 W11 hb12 hE13 hm1_6 => ?_))
 have lo_b1_6 : w.heap.size ≤ b1_6 := hb12 ▸ (Below.size hB)
 clear hb12
 replace hB := below_ext hB hE13 (Nat.le_refl _)
 replace hm0_0 := hE13.at hm0_0
 clear hE13
 replace hm1_6 : At W11 b1_6 #[wv 0 0, wv 0 1, wv 0 2, wv 0 3] 24 := hm1_6
 refine WL_step (dd := none) rfl rfl rfl (Y_storeW rfl rfl tb_ag24 rfl hm1_6 rfl (by rfl) (fun W14 hG15 hm16 => ?_))
 replace hB := below_grown hB hG15 (Nat.le_refl _) (fun j hj => by cases hj; exact lo_b1_6)
 replace hm0_0 := At.grownAt hm0_0 hm1_6 hG15 (by decide)
 clear hG15 hm1_6
 have hm1_6 := hm16
 clear hm16
 refine WL_val (dd := some 4) rfl rfl rfl (r_assign (v := .int .i64 _) rfl) ?_
 refine WL_nil ?_
 refine hK7 _ _ ?_
 clear hK7 K6
 refine WC_seq (fun K17 hK18 => ?_)
 refine WC_seq (fun K19 hK20 => ?_)
 refine WC_region ?_
 refine WL_val (dd := some 13) rfl rfl rfl (r_move (v := .int .i64 _) rfl) ?_
 refine WL_val (dd := some 14) rfl rfl rfl (r_neq rfl rfl) ?_
 refine WL_split (dd := some 15) rfl rfl rfl (r_move (v := .bool _) rfl) (fun hs2_2 => ?_) (fun hs2_2 => ?_)
 ·
  try with_reducible replace hs2_2 := of_decide_eq_true hs2_2
  refine WL_skip (dd := some 16) rfl rfl rfl ?_
  refine WL_skip (dd := some 17) rfl rfl rfl ?_
  refine WL_skip (dd := some 18) rfl rfl rfl ?_
  refine WL_skip (dd := some 19) rfl rfl rfl ?_
  refine WL_val (dd := some 20) rfl rfl rfl (r_pick_t rfl (v := .bool true) rfl) ?_
  refine WL_val (dd := some 21) rfl rfl rfl (r_move (v := .bool true) rfl) ?_
  refine WL_skip (dd := some 22) rfl rfl rfl ?_
  refine WL_skip (dd := some 23) rfl rfl rfl ?_
  refine WL_skip (dd := some 24) rfl rfl rfl ?_
  refine WL_skip (dd := some 25) rfl rfl rfl ?_
  refine WL_val (dd := some 26) rfl rfl rfl (r_pick_t rfl (v := .bool true) rfl) ?_
  refine WL_val (dd := some 27) rfl rfl rfl (r_move (v := .bool true) rfl) ?_
  refine WL_skip (dd := some 28) rfl rfl rfl ?_
  refine WL_skip (dd := some 29) rfl rfl rfl ?_
  refine WL_skip (dd := some 30) rfl rfl rfl ?_
  refine WL_skip (dd := some 31) rfl rfl rfl ?_
  refine WL_skip (dd := some 32) rfl rfl rfl ?_
  refine WL_skip (dd := some 33) rfl rfl rfl ?_
  refine WL_skip (dd := some 34) rfl rfl rfl ?_
  refine WL_val (dd := some 35) rfl rfl rfl (r_pick_t rfl (v := .bool true) rfl) ?_
  refine WL_nil ?_
  refine hK20 _ _ ?_
  clear hK20 K19
  refine WC_cond_true rfl ?_
  refine WC_seq (fun K21 hK22 => ?_)
  refine WC_region ?_
  refine WL_val (dd := some 2) rfl rfl rfl (r_assign (v := .bool false) rfl) ?_
  refine WL_nil ?_
  refine hK22 _ _ ?_
  clear hK22 K21
  refine WC_ret ?_
  repeat (first | refine thenQ_ret ?_ | refine blockQ_ret ?_)
  try clear hK18 K17
  refine ret_t (v := .bool false) rfl ?_
  refine ⟨hB, ?_⟩
  exact right_f (fun h => all_no hhP1_2 hs2_2 ⟨h.1, h.2.1⟩)
 ·
  try with_reducible replace hs2_2 := of_decide_eq_false hs2_2
  refine WL_val (dd := some 16) rfl rfl rfl (r_fieldAddr (b := _) (o := _) rfl tb_fo64_1) ?_
  refine WL_val (dd := some 17) rfl rfl rfl (r_load1 (v := onV) rfl tb_sc62 (At.cell hm0_0 rfl)) ?_
  refine WL_val (dd := some 18) rfl rfl rfl (r_lenS (v := onV) rfl (Below.slT hB hon) tb_el62) ?_
  refine WL_val (dd := some 19) rfl rfl rfl (r_lss rfl rfl) ?_
  refine WL_val (dd := some 20) rfl rfl rfl (r_pick_f rfl (v := .bool _) rfl) ?_
  refine WL_split (dd := some 21) rfl rfl rfl (r_move (v := .bool _) rfl) (fun hs2_8 => ?_) (fun hs2_8 => ?_)
  ·
   try with_reducible replace hs2_8 := of_decide_eq_true hs2_8
   refine WL_skip (dd := some 22) rfl rfl rfl ?_
   refine WL_skip (dd := some 23) rfl rfl rfl ?_
   refine WL_skip (dd := some 24) rfl rfl rfl ?_
   refine WL_skip (dd := some 25) rfl rfl rfl ?_
   refine WL_val (dd := some 26) rfl rfl rfl (r_pick_t rfl (v := .bool true) rfl) ?_
   refine WL_val (dd := some 27) rfl rfl rfl (r_move (v := .bool true) rfl) ?_
   refine WL_skip (dd := some 28) rfl rfl rfl ?_
   refine WL_skip (dd := some 29) rfl rfl rfl ?_
   refine WL_skip (dd := some 30) rfl rfl rfl ?_
   refine WL_skip (dd := some 31) rfl rfl rfl ?_
   refine WL_skip (dd := some 32) rfl rfl rfl ?_
   refine WL_skip (dd := some 33) rfl rfl rfl ?_
   refine WL_skip (dd := some 34) rfl rfl rfl ?_
   refine WL_val (dd := some 35) rfl rfl rfl (r_pick_t rfl (v := .bool true) rfl) ?_
   refine WL_nil ?_
   refine hK20 _ _ ?_
   clear hK20 K19
   refine WC_cond_true rfl ?_
   refine WC_seq (fun K23 hK24 => ?_)
   refine WC_region ?_
   refine WL_val (dd := some 2) rfl rfl rfl (r_assign (v := .bool false) rfl) ?_
   refine WL_nil ?_
   refine hK24 _ _ ?_
   clear hK24 K23
   refine WC_ret ?_
   repeat (first | refine thenQ_ret ?_ | refine blockQ_ret ?_)
   try clear hK18 K17
   refine ret_t (v := .bool false) rfl ?_
   refine ⟨hB, ?_⟩
   exact right_f (by omega)
  ·
   try with_reducible replace hs2_8 := of_decide_eq_false hs2_8
   refine WL_val (dd := some 22) rfl rfl rfl (r_fieldAddr (b := _) (o := _) rfl tb_fo64_1) ?_
   refine WL_val (dd := some 23) rfl rfl rfl (r_load1 (v := onV) rfl tb_sc62 (At.cell hm0_0 rfl)) ?_
   refine WL_val (dd := some 24) rfl rfl rfl (r_lenS (v := onV) rfl (Below.slT hB hon) tb_el62) ?_
   refine WL_val (dd := some 25) rfl rfl rfl (r_gtr rfl rfl) ?_
   refine WL_val (dd := some 26) rfl rfl rfl (r_pick_f rfl (v := .bool _) rfl) ?_
   refine WL_split (dd := some 27) rfl rfl rfl (r_move (v := .bool _) rfl) (fun hs2_14 => ?_) (fun hs2_14 => ?_)
   ·
    try with_reducible replace hs2_14 := of_decide_eq_true hs2_14
    refine WL_skip (dd := some 28) rfl rfl rfl ?_
    refine WL_skip (dd := some 29) rfl rfl rfl ?_
    refine WL_skip (dd := some 30) rfl rfl rfl ?_
    refine WL_skip (dd := some 31) rfl rfl rfl ?_
    refine WL_skip (dd := some 32) rfl rfl rfl ?_
    refine WL_skip (dd := some 33) rfl rfl rfl ?_
    refine WL_skip (dd := some 34) rfl rfl rfl ?_
    refine WL_val (dd := some 35) rfl rfl rfl (r_pick_t rfl (v := .bool true) rfl) ?_
    refine WL_nil ?_
    refine hK20 _ _ ?_
    clear hK20 K19
    refine WC_cond_true rfl ?_
    refine WC_seq (fun K25 hK26 => ?_)
    refine WC_region ?_
    refine WL_val (dd := some 2) rfl rfl rfl (r_assign (v := .bool false) rfl) ?_
    refine WL_nil ?_
    refine hK26 _ _ ?_
    clear hK26 K25
    refine WC_ret ?_
    repeat (first | refine thenQ_ret ?_ | refine blockQ_ret ?_)
    try clear hK18 K17
    refine ret_t (v := .bool false) rfl ?_
    refine ⟨hB, ?_⟩
    exact right_f (by omega)
   ·
    try with_reducible replace hs2_14 := of_decide_eq_false hs2_14
    refine WL_val (dd := some 28) rfl rfl rfl (r_fieldAddr (b := _) (o := _) rfl tb_fo64_1) ?_
    refine WL_val (dd := some 29) rfl rfl rfl (r_load1 (v := onV) rfl tb_sc62 (At.cell hm0_0 rfl)) ?_
    refine WL_val (dd := some 30) rfl rfl rfl (r_lenS (v := onV) rfl (Below.slT hB hon) tb_el62) ?_
    refine WL_val (dd := some 31) rfl rfl rfl (r_fieldAddr (b := _) (o := _) rfl tb_fo64_2) ?_
    refine WL_val (dd := some 32) rfl rfl rfl (r_load1 (v := mayV) rfl tb_sc62 (At.cell hm0_0 rfl)) ?_
    refine WL_val (dd := some 33) rfl rfl rfl (r_lenS (v := mayV) rfl (Below.slT hB hmay) tb_el62) ?_
    refine WL_val (dd := some 34) rfl rfl rfl (r_neq rfl rfl) ?_
    refine WL_val (dd := some 35) rfl rfl rfl (r_pick_f rfl (v := .bool _) rfl) ?_
    refine WL_nil ?_
    refine hK20 _ _ ?_
    clear hK20 K19
    refine WC_cond (b := _) rfl (fun hc0 => ?_) (fun hc0 => ?_)
    ·
     try with_reducible replace hc0 := of_decide_eq_true hc0
     refine WC_seq (fun K27 hK28 => ?_)
     refine WC_region ?_
     refine WL_val (dd := some 2) rfl rfl rfl (r_assign (v := .bool false) rfl) ?_
     refine WL_nil ?_
     refine hK28 _ _ ?_
     clear hK28 K27
     refine WC_ret ?_
     repeat (first | refine thenQ_ret ?_ | refine blockQ_ret ?_)
     try clear hK18 K17
     refine ret_t (v := .bool false) rfl ?_
     refine ⟨hB, ?_⟩
     exact right_f (by omega)
    ·
     try with_reducible replace hc0 := of_decide_eq_false hc0
     refine WC_skip ?_
     refine hK18 _ _ ?_
     clear hK18 K17
     refine WC_seq (fun K29 hK30 => ?_)
     refine WC_seq (fun K31 hK32 => ?_)
     obtain ⟨h0, h8, rfl⟩ := all_bounds hhP1_2 hs2_2
     refine WC_region ?_
     refine WL_val (dd := some 36) rfl rfl rfl (r_fieldAddr (b := _) (o := _) rfl tb_fo64_1) ?_
     refine WL_val (dd := some 37) rfl rfl rfl (r_load1 (v := onV) rfl tb_sc62 (At.cell hm0_0 rfl)) ?_
     refine WL_val (dd := some 38) rfl rfl rfl (r_lenS (v := onV) rfl (Below.slT hB hon) tb_el62) ?_
     refine WL_val (dd := some 39) rfl rfl rfl (r_move (v := .int .i64 0) rfl) ?_
     refine WL_nil ?_
     refine hK32 _ _ ?_
     clear hK32 K31
     refine WC_block ?_
     refine WC_loop (σ := (Nat)) [2, 5, 6, 39, 40, 41, 42, 43, 44, 45, 46, 47, 48, 49, 50, 51, 52, 53, 54, 55, 56, 57, 58, 59, 60, 61, 62] (fun k => [(39, .int .i64 (k : Int))]) (fun k W => (Below w.heap.size w W) ∧ (At W b0_0 _ 64) ∧ (At W b1_6 _ 24) ∧ (k ≤ S.on.length) ∧ (∀ q, q < k → withinB (onP S q) (mayP S q) = true ∧ withinB (mayP S q) (allS S.n.toNat) = true) ∧ (True)) (fun k => S.on.length - k) (0) ⟨rfl, trivial⟩ ⟨hB, hm0_0, hm1_6, (Nat.zero_le _), upTo_zero, trivial⟩ ?_
     clear hB hm0_0 hm1_6
     rintro k g34 W33 ⟨hB, hm0_0, hm1_6, hk, hq, _⟩ J35 hJ36
     refine WC_seq (fun K37 hK38 => ?_)
     refine WC_region ?_
     refine WL_val (dd := some 40) rfl rfl rfl (r_lss rfl rfl) ?_
     refine WL_nil ?_
     refine hK38 _ _ ?_
     clear hK38 K37
     refine WC_seq (fun K39 hK40 => ?_)
     refine WC_cond (b := _) rfl (fun hc1 => ?_) (fun hc1 => ?_)
     ·
      try with_reducible replace hc1 := of_decide_eq_true hc1
      refine WC_skip ?_
      refine hK40 _ _ ?_
      clear hK40 K39
      refine WC_seq (fun K41 hK42 => ?_)
      refine WC_block ?_
      refine WC_seq (fun K43 hK44 => ?_)
      refine WC_region ?_
      refine WL_val (dd := some 41) rfl rfl rfl (r_move (v := .int .i64 _) rfl) ?_
      refine WL_val (dd := some 42) rfl rfl rfl (r_idxS (v := onV) rfl (Below.slT hB hon) rfl tb_el62 (by omega) (by first | omega | (simp only [flagsTo_len, litsTo_len, firstF_len, ptF_len, setF_len]; omega))) ?_
      refine WL_val (dd := some 43) rfl rfl rfl (r_load4 rfl tb_ag24 (SlT.cell (Below.slT hB hon) encS_len 0 (by omega) (by first | omega | (simp only [flagsTo_len, litsTo_len, firstF_len, ptF_len, setF_len]; omega)) 0 rfl) (SlT.cell (Below.slT hB hon) encS_len 0 (by omega) (by first | omega | (simp only [flagsTo_len, litsTo_len, firstF_len, ptF_len, setF_len]; omega)) 1 rfl) (SlT.cell (Below.slT hB hon) encS_len 0 (by omega) (by first | omega | (simp only [flagsTo_len, litsTo_len, firstF_len, ptF_len, setF_len]; omega)) 2 rfl) (SlT.cell (Below.slT hB hon) encS_len 0 (by omega) (by first | omega | (simp only [flagsTo_len, litsTo_len, firstF_len, ptF_len, setF_len]; omega)) 3 rfl)) ?_
      refine WL_step (dd := some 6) rfl rfl rfl (Y_alloc tb_z24 rfl (fun b6_3 W45 hb46 hE47 hm6_3 => ?_))
      have lo_b6_3 : w.heap.size ≤ b6_3 := hb46 ▸ (Below.size hB)
      have ne_b1_6_b6_3 : b1_6 ≠ b6_3 := Nat.ne_of_lt (hb46 ▸ hm1_6.lt)
      clear hb46
      replace hB := below_ext hB hE47 (Nat.le_refl _)
      replace hm0_0 := hE47.at hm0_0
      replace hm1_6 := hE47.at hm1_6
      clear hE47
      replace hm6_3 : At W45 b6_3 #[wv 0 0, wv 0 1, wv 0 2, wv 0 3] 24 := hm6_3
      refine WL_val (dd := some 5) rfl rfl rfl (r_assign (v := .int .i64 _) rfl) ?_
      refine WL_step (dd := none) rfl rfl rfl (Y_storeW rfl rfl tb_ag24 rfl hm6_3 rfl (by rfl) (fun W48 hG49 hm50 => ?_))
      replace hB := below_grown hB hG49 (Nat.le_refl _) (fun j hj => by cases hj; exact lo_b6_3)
      replace hm0_0 := At.grownAt hm0_0 hm6_3 hG49 (by decide)
      replace hm1_6 := At.grownNe hm1_6 ne_b1_6_b6_3 hG49
      clear hG49 hm6_3
      have hm6_3 := hm50
      clear hm50
      refine WL_nil ?_
      refine hK44 _ _ ?_
      clear hK44 K43
      refine WC_seq (fun K51 hK52 => ?_)
      refine WC_draw Ext tb_mix (fun W53 hE54 => ?_)
      replace hB := below_ext hB hE54 (Nat.le_refl _)
      replace hm0_0 := hE54.at hm0_0
      replace hm1_6 := hE54.at hm1_6
      replace hm6_3 := hE54.at hm6_3
      have hS := Ext.refl W53
      refine WT_take (dd := some 44) 0 rfl (by kernel_rfl) (by kernel_rfl) (by kernel_rfl) rfl rfl rfl (fun _wq hq => r_loadW rfl tb_ag24 rfl (hq.at hm6_3)) hS ?_
      refine WT_take (dd := some 45) 1 rfl (by kernel_rfl) (by kernel_rfl) (by kernel_rfl) rfl rfl rfl (fun _wq _hq => r_fieldAddr (b := _) (o := _) rfl tb_fo64_2) hS ?_
      refine WT_take (dd := some 46) 2 rfl (by kernel_rfl) (by kernel_rfl) (by kernel_rfl) rfl rfl rfl (fun _wq hq => r_load1 (v := mayV) rfl tb_sc62 (At.cell (hq.at hm0_0) rfl)) hS ?_
      refine WT_take (dd := some 47) 3 rfl (by kernel_rfl) (by kernel_rfl) (by kernel_rfl) rfl rfl rfl (fun _wq _hq => r_move (v := .int .i64 _) rfl) hS ?_
      refine WT_take (dd := some 48) 4 rfl (by kernel_rfl) (by kernel_rfl) (by kernel_rfl) rfl rfl rfl (fun _wq hq => r_idxS (v := mayV) rfl (hq.slT (Below.slT hB hmay)) rfl tb_el62 (by omega) (by first | omega | (simp only [flagsTo_len, litsTo_len, firstF_len, ptF_len, setF_len]; omega))) hS ?_
      refine WT_take (dd := some 49) 5 rfl (by kernel_rfl) (by kernel_rfl) (by kernel_rfl) rfl rfl rfl (fun _wq hq => r_load4 rfl tb_ag24 (SlT.cell (hq.slT (Below.slT hB hmay)) encS_len 0 (by omega) (by first | omega | (simp only [flagsTo_len, litsTo_len, firstF_len, ptF_len, setF_len]; omega)) 0 rfl) (SlT.cell (hq.slT (Below.slT hB hmay)) encS_len 0 (by omega) (by first | omega | (simp only [flagsTo_len, litsTo_len, firstF_len, ptF_len, setF_len]; omega)) 1 rfl) (SlT.cell (hq.slT (Below.slT hB hmay)) encS_len 0 (by omega) (by first | omega | (simp only [flagsTo_len, litsTo_len, firstF_len, ptF_len, setF_len]; omega)) 2 rfl) (SlT.cell (hq.slT (Below.slT hB hmay)) encS_len 0 (by omega) (by first | omega | (simp only [flagsTo_len, litsTo_len, firstF_len, ptF_len, setF_len]; omega)) 3 rfl)) hS ?_
      refine WT_one (dd := some 50) 6 (by kernel_rfl) rfl rfl rfl rfl (Yd.call (r_call2 tb_c82 (v0 := .agg #[_, _, _, _]) rfl (v1 := .agg #[_, _, _, _]) rfl) (C_set_Within _ _ _) (fun v7_6 W55 hE56 hP7_6 => ⟨.inl (hS.trans hE56), ?_⟩))
      have hsz57 := (Below.size hB)
      have sv58_hB := hB
      have sv58_hm0_0 := hm0_0
      have sv58_hm1_6 := hm1_6
      have sv58_hm6_3 := hm6_3
      replace hB := below_ext hB hE56 (Nat.le_refl _)
      replace hm0_0 := hE56.at hm0_0
      replace hm1_6 := hE56.at hm1_6
      replace hm6_3 := hE56.at hm6_3
      replace hS := hS.trans hE56
      clear hE56
      clear hsz57
      obtain rfl := hP7_6
      refine WT_take (dd := some 51) 7 rfl (by kernel_rfl) (by kernel_rfl) (by kernel_rfl) rfl rfl rfl (fun _wq _hq => r_not rfl) hS ?_
      refine WT_split (dd := some 52) 8 rfl (by kernel_rfl) (by kernel_rfl) (by kernel_rfl) rfl rfl rfl (fun wq hq => r_move (v := .bool _) rfl) hS (fun hs7_8 => ?_) (fun hs7_8 => ?_)
      ·
       try with_reducible replace hs7_8 := of_decide_eq_true hs7_8
       refine WT_pass (dd := some 53) 9 rfl (by kernel_rfl) (by kernel_rfl) (by kernel_rfl) rfl rfl rfl hS ?_
       refine WT_pass (dd := some 54) 10 rfl (by kernel_rfl) (by kernel_rfl) (by kernel_rfl) rfl rfl rfl hS ?_
       refine WT_pass (dd := some 55) 11 rfl (by kernel_rfl) (by kernel_rfl) (by kernel_rfl) rfl rfl rfl hS ?_
       refine WT_pass (dd := some 56) 12 rfl (by kernel_rfl) (by kernel_rfl) (by kernel_rfl) rfl rfl rfl hS ?_
       refine WT_pass (dd := some 57) 13 rfl (by kernel_rfl) (by kernel_rfl) (by kernel_rfl) rfl rfl rfl hS ?_
       refine WT_pass (dd := some 58) 14 rfl (by kernel_rfl) (by kernel_rfl) (by kernel_rfl) rfl rfl rfl hS ?_
       refine WT_pass (dd := some 59) 15 rfl (by kernel_rfl) (by kernel_rfl) (by kernel_rfl) rfl rfl rfl hS ?_
       refine WT_pass (dd := some 60) 16 rfl (by kernel_rfl) (by kernel_rfl) (by kernel_rfl) rfl rfl rfl hS ?_
       refine WT_take (dd := some 61) 17 rfl (by kernel_rfl) (by kernel_rfl) (by kernel_rfl) rfl rfl rfl (fun _wq _hq => r_pick_t rfl (v := .bool true) rfl) hS ?_
       refine WT_done (by kernel_rfl) ?_
       try clear sv58_hB sv58_hm0_0 sv58_hm1_6 sv58_hm6_3
       refine hK52 _ _ ?_
       clear hK52 K51
       refine WC_cond_true rfl ?_
       refine WC_seq (fun K59 hK60 => ?_)
       refine WC_region ?_
       refine WL_val (dd := some 2) rfl rfl rfl (r_assign (v := .bool false) rfl) ?_
       refine WL_nil ?_
       refine hK60 _ _ ?_
       clear hK60 K59
       refine WC_ret ?_
       repeat (first | refine thenQ_ret ?_ | refine blockQ_ret ?_)
       try clear hK42 K41
       try clear hJ36 J35
       try clear hK30 K29
       refine ret_t (v := .bool false) rfl ?_
       refine ⟨hB, ?_⟩
       exact right_k (k := k) (by omega) (fun h => Bool.noConfusion (h.1.symm.trans (not_t hs7_8)))
      ·
       try with_reducible replace hs7_8 := of_decide_eq_false hs7_8
       refine WT_take (dd := some 53) 9 rfl (by kernel_rfl) (by kernel_rfl) (by kernel_rfl) rfl rfl rfl (fun _wq _hq => r_fieldAddr (b := _) (o := _) rfl tb_fo64_2) hS ?_
       refine WT_take (dd := some 54) 10 rfl (by kernel_rfl) (by kernel_rfl) (by kernel_rfl) rfl rfl rfl (fun _wq hq => r_load1 (v := mayV) rfl tb_sc62 (At.cell (hq.at sv58_hm0_0) rfl)) hS ?_
       refine WT_take (dd := some 55) 11 rfl (by kernel_rfl) (by kernel_rfl) (by kernel_rfl) rfl rfl rfl (fun _wq _hq => r_move (v := .int .i64 _) rfl) hS ?_
       refine WT_take (dd := some 56) 12 rfl (by kernel_rfl) (by kernel_rfl) (by kernel_rfl) rfl rfl rfl (fun _wq hq => r_idxS (v := mayV) rfl (hq.slT (Below.slT sv58_hB hmay)) rfl tb_el62 (by omega) (by first | omega | (simp only [flagsTo_len, litsTo_len, firstF_len, ptF_len, setF_len]; omega))) hS ?_
       refine WT_take (dd := some 57) 13 rfl (by kernel_rfl) (by kernel_rfl) (by kernel_rfl) rfl rfl rfl (fun _wq hq => r_load4 rfl tb_ag24 (SlT.cell (hq.slT (Below.slT sv58_hB hmay)) encS_len 0 (by omega) (by first | omega | (simp only [flagsTo_len, litsTo_len, firstF_len, ptF_len, setF_len]; omega)) 0 rfl) (SlT.cell (hq.slT (Below.slT sv58_hB hmay)) encS_len 0 (by omega) (by first | omega | (simp only [flagsTo_len, litsTo_len, firstF_len, ptF_len, setF_len]; omega)) 1 rfl) (SlT.cell (hq.slT (Below.slT sv58_hB hmay)) encS_len 0 (by omega) (by first | omega | (simp only [flagsTo_len, litsTo_len, firstF_len, ptF_len, setF_len]; omega)) 2 rfl) (SlT.cell (hq.slT (Below.slT sv58_hB hmay)) encS_len 0 (by omega) (by first | omega | (simp only [flagsTo_len, litsTo_len, firstF_len, ptF_len, setF_len]; omega)) 3 rfl)) hS ?_
       refine WT_take (dd := some 58) 14 rfl (by kernel_rfl) (by kernel_rfl) (by kernel_rfl) rfl rfl rfl (fun _wq hq => r_loadW rfl tb_ag24 rfl (hq.at sv58_hm1_6)) hS ?_
       refine WT_one (dd := some 59) 15 (by kernel_rfl) rfl rfl rfl rfl (Yd.call (r_call2 tb_c82 (v0 := .agg #[_, _, _, _]) rfl (v1 := .agg #[_, _, _, _]) rfl) (C_set_Within _ _ _) (fun v7_15 W61 hE62 hP7_15 => ⟨.inl (hS.trans hE62), ?_⟩))
       have hsz63 := (Below.size hB)
       replace hB := below_ext hB hE62 (Nat.le_refl _)
       replace hm0_0 := hE62.at hm0_0
       replace hm1_6 := hE62.at hm1_6
       replace hm6_3 := hE62.at hm6_3
       replace hS := hS.trans hE62
       clear hE62
       clear hsz63
       obtain rfl := hP7_15
       refine WT_take (dd := some 60) 16 rfl (by kernel_rfl) (by kernel_rfl) (by kernel_rfl) rfl rfl rfl (fun _wq _hq => r_not rfl) hS ?_
       refine WT_take (dd := some 61) 17 rfl (by kernel_rfl) (by kernel_rfl) (by kernel_rfl) rfl rfl rfl (fun _wq _hq => r_pick_f rfl (v := .bool _) rfl) hS ?_
       refine WT_done (by kernel_rfl) ?_
       try clear sv58_hB sv58_hm0_0 sv58_hm1_6 sv58_hm6_3
       refine hK52 _ _ ?_
       clear hK52 K51
       refine WC_cond (b := _) rfl (fun hc2 => ?_) (fun hc2 => ?_)
       ·
        try with_reducible replace hc2 := of_decide_eq_true hc2
        refine WC_seq (fun K64 hK65 => ?_)
        refine WC_region ?_
        refine WL_val (dd := some 2) rfl rfl rfl (r_assign (v := .bool false) rfl) ?_
        refine WL_nil ?_
        refine hK65 _ _ ?_
        clear hK65 K64
        refine WC_ret ?_
        repeat (first | refine thenQ_ret ?_ | refine blockQ_ret ?_)
        try clear hK42 K41
        try clear hJ36 J35
        try clear hK30 K29
        refine ret_t (v := .bool false) rfl ?_
        refine ⟨hB, ?_⟩
        exact right_k (k := k) (by omega) (fun h => Bool.noConfusion (h.2.symm.trans (not_t hc2)))
       ·
        try with_reducible replace hc2 := of_decide_eq_false hc2
        refine WC_skip ?_
        refine hK42 _ _ ?_
        clear hK42 K41
        refine WC_region ?_
        refine WL_val (dd := some 62) rfl rfl rfl (r_addI rfl rfl (by omega) (by omega)) ?_
        refine WL_val (dd := some 39) rfl rfl rfl (r_move (v := .int .i64 _) rfl) ?_
        refine WL_nil ?_
        refine hJ36 _ _ (k + 1) ?_ ?_ ?_ ?_
        · repeat (first | exact agree.mask _ _ _ | refine agree.updo ?_ rfl _ | refine agree.updL ?_ _ rfl | refine agree.maskS rfl ?_)
        · exact ⟨rfl, trivial⟩
        · exact ⟨hB, hm0_0, hm1_6, (by omega), (upTo_succ hq ⟨not_f hs7_8, not_f hc2⟩), trivial⟩
        · first | omega | (dsimp only; omega)
     ·
      try with_reducible replace hc1 := of_decide_eq_false hc1
      refine WC_exit ?_
      refine hK30 _ _ ?_
      clear hK40 K39
      clear hJ36 J35
      clear hK30 K29
      refine WC_seq (fun K66 hK67 => ?_)
      refine WC_region ?_
      refine WL_val (dd := some 2) rfl rfl rfl (r_assign (v := .bool true) rfl) ?_
      refine WL_nil ?_
      refine hK67 _ _ ?_
      clear hK67 K66
      refine WC_ret ?_
      repeat (first | refine thenQ_ret ?_ | refine blockQ_ret ?_)
      refine ret_t (v := .bool true) rfl ?_
      refine ⟨hB, ?_⟩
      obtain rfl : k = S.on.length := by omega
      exact right_t (by omega) hq

theorem C_drawkniferef10_Within (S : Sp) (onV mayV : Value) (m u o : Nat) (w : World) (hon : SlT encS 4 w onV S.on) (hmay : SlT encS 4 w mayV S.may) (hr : rightS S = true) (hm : m < 256) (hv : u < 256) (ho : o < 256) :
    Fn Try.prog 65 #[.agg #[.int .i64 S.n, onV, mayV], .agg #[.int .u8 (m : Int), .int .u8 (u : Int), .int .u8 (o : Int)]] w fun v w' => v = .bool (inR S ⟨⟨m, u⟩, o⟩) := by
 refine Fn_intro (n := 38) Try.func65 rfl rfl (Nat.le_of_ble_eq_true rfl) ?_
 have hB : Below w.heap.size w w := Below.refl _ _
 obtain ⟨hr0, hr8, hr1, hr4, hr5, _⟩ := rightS_iff.1 hr
 refine WC_seq (fun K1 hK2 => ?_)
 refine WC_region ?_
 refine WL_step (dd := some 2) rfl rfl rfl (Y_box (c := #[_, _, _]) rfl rfl (fun b0_0 W3 hb4 hE5 hm0_0 => ?_))
 have lo_b0_0 : w.heap.size ≤ b0_0 := hb4 ▸ (Below.size hB)
 clear hb4
 replace hB := below_ext hB hE5 (Nat.le_refl _)
 clear hE5
 refine WL_step (dd := some 3) rfl rfl rfl (Y_box (c := #[_, _, _]) rfl rfl (fun b0_1 W6 hb7 hE8 hm0_1 => ?_))
 have lo_b0_1 : w.heap.size ≤ b0_1 := hb7 ▸ (Below.size hB)
 clear hb7
 replace hB := below_ext hB hE8 (Nat.le_refl _)
 replace hm0_0 := hE8.at hm0_0
 clear hE8
 refine WL_val (dd := some 4) rfl rfl rfl (r_assign (v := .bool false) rfl) ?_
 refine WL_nil ?_
 refine hK2 _ _ ?_
 clear hK2 K1
 refine WC_seq (fun K9 hK10 => ?_)
 refine WC_seq (fun K11 hK12 => ?_)
 refine WC_region ?_
 refine WL_val (dd := some 6) rfl rfl rfl (r_loadW rfl tb_ag79 rfl hm0_1) ?_
 refine WL_val (dd := some 7) rfl rfl rfl (r_fieldAddr (b := _) (o := _) rfl tb_fo64_0) ?_
 refine WL_val (dd := some 8) rfl rfl rfl (r_load1 (v := .int .i64 _) rfl tb_sc3 (At.cell hm0_0 rfl)) ?_
 refine WL_val (dd := some 9) rfl rfl rfl (r_fieldAddr (b := _) (o := _) rfl tb_fo64_1) ?_
 refine WL_val (dd := some 10) rfl rfl rfl (r_load1 (v := onV) rfl tb_sc62 (At.cell hm0_0 rfl)) ?_
 refine WL_val (dd := some 11) rfl rfl rfl (r_lenS (v := onV) rfl (Below.slT hB hon) tb_el62) ?_
 refine WL_call (dd := some 12) rfl rfl rfl (r_call3 tb_c122 (v0 := .agg #[_, _, _]) rfl (v1 := .int .i64 _) rfl (v2 := .int .i64 _) rfl) (C_drawkniferef04_May _ _ _ S.on.length _ _ hm hv ho) (fun v1_6 W13 hE14 hP1_6 => ?_)
 have hsz15 := (Below.size hB)
 replace hB := below_ext hB hE14 (Nat.le_refl _)
 replace hm0_0 := hE14.at hm0_0
 replace hm0_1 := hE14.at hm0_1
 clear hE14
 clear hsz15
 obtain rfl := hP1_6
 refine WL_val (dd := some 13) rfl rfl rfl (r_not rfl) ?_
 refine WL_nil ?_
 refine hK12 _ _ ?_
 clear hK12 K11
 refine WC_cond (b := _) rfl (fun hc0 => ?_) (fun hc0 => ?_)
 ·
  try with_reducible replace hc0 := of_decide_eq_true hc0
  refine WC_seq (fun K16 hK17 => ?_)
  refine WC_region ?_
  refine WL_val (dd := some 4) rfl rfl rfl (r_assign (v := .bool false) rfl) ?_
  refine WL_nil ?_
  refine hK17 _ _ ?_
  clear hK17 K16
  refine WC_ret ?_
  repeat (first | refine thenQ_ret ?_ | refine blockQ_ret ?_)
  try clear hK10 K9
  refine ret_t (v := .bool false) rfl ?_
  refine ⟨hB, ?_⟩
  exact refin_no (not_t hc0)
 ·
  try with_reducible replace hc0 := of_decide_eq_false hc0
  refine WC_skip ?_
  refine hK10 _ _ ?_
  clear hK10 K9
  refine WC_seq (fun K18 hK19 => ?_)
  refine WC_seq (fun K20 hK21 => ?_)
  refine WC_region ?_
  refine WL_val (dd := some 5) rfl rfl rfl (r_assign (v := .int .i64 0) rfl) ?_
  refine WL_nil ?_
  refine hK21 _ _ ?_
  clear hK21 K20
  refine WC_block ?_
  refine WC_loop (σ := (Nat)) [4, 5, 14, 15, 16, 17, 18, 19, 20, 21, 22, 23, 24, 25, 26, 27, 28, 29, 30, 31, 32, 33, 34, 35, 36, 37] (fun k => [(5, .int .i64 (k : Int))]) (fun k W => (Below w.heap.size w W) ∧ (At W b0_0 _ 64) ∧ (At W b0_1 _ 79) ∧ (k ≤ S.may.length) ∧ (∀ q, q < k → o.testBit q = true → wiB m u (mayP S q) S.n = true) ∧ (True)) (fun k => S.may.length - k) (0) ⟨rfl, trivial⟩ ⟨hB, hm0_0, hm0_1, (Nat.zero_le _), upTo_zero, trivial⟩ ?_
  clear hB hm0_0 hm0_1
  rintro k g23 W22 ⟨hB, hm0_0, hm0_1, hk, hq, _⟩ J24 hJ25
  refine WC_seq (fun K26 hK27 => ?_)
  refine WC_seq (fun K28 hK29 => ?_)
  refine WC_region ?_
  refine WL_val (dd := some 14) rfl rfl rfl (r_move (v := .int .i64 _) rfl) ?_
  refine WL_val (dd := some 15) rfl rfl rfl (r_fieldAddr (b := _) (o := _) rfl tb_fo64_2) ?_
  refine WL_val (dd := some 16) rfl rfl rfl (r_load1 (v := mayV) rfl tb_sc62 (At.cell hm0_0 rfl)) ?_
  refine WL_val (dd := some 17) rfl rfl rfl (r_lenS (v := mayV) rfl (Below.slT hB hmay) tb_el62) ?_
  refine WL_val (dd := some 18) rfl rfl rfl (r_lss rfl rfl) ?_
  refine WL_nil ?_
  refine hK29 _ _ ?_
  clear hK29 K28
  refine WC_cond (b := _) rfl (fun hc1 => ?_) (fun hc1 => ?_)
  ·
   try with_reducible replace hc1 := of_decide_eq_true hc1
   refine WC_skip ?_
   refine hK27 _ _ ?_
   clear hK27 K26
   refine WC_seq (fun K30 hK31 => ?_)
   refine WC_block ?_
   refine WC_seq (fun K32 hK33 => ?_)
   refine WC_draw Ext tb_mix (fun W34 hE35 => ?_)
   replace hB := below_ext hB hE35 (Nat.le_refl _)
   replace hm0_0 := hE35.at hm0_0
   replace hm0_1 := hE35.at hm0_1
   have hS := Ext.refl W34
   refine WT_take (dd := some 21) 0 rfl (by kernel_rfl) (by kernel_rfl) (by kernel_rfl) rfl rfl rfl (fun _wq _hq => r_fieldAddr (b := _) (o := _) rfl tb_fo79_1) hS ?_
   refine WT_take (dd := some 22) 1 rfl (by kernel_rfl) (by kernel_rfl) (by kernel_rfl) rfl rfl rfl (fun _wq hq => r_load1 (v := .int .u8 _) rfl tb_sc5 (At.cell (hq.at hm0_1) rfl)) hS ?_
   refine WT_take (dd := some 23) 2 rfl (by kernel_rfl) (by kernel_rfl) (by kernel_rfl) rfl rfl rfl (fun _wq _hq => r_move (v := .int .i64 _) rfl) hS ?_
   refine WT_one (dd := some 24) 3 (by kernel_rfl) rfl rfl rfl rfl (Yd.call (r_call2 tb_c112 (v0 := .int .u8 _) rfl (v1 := .int .i64 _) rfl) (C_drawkniferef04_Bit _ _ _ ho (by omega)) (fun v6_3 W36 hE37 hP6_3 => ⟨.inl (hS.trans hE37), ?_⟩))
   have hsz38 := (Below.size hB)
   have sv39_hB := hB
   have sv39_hm0_0 := hm0_0
   have sv39_hm0_1 := hm0_1
   replace hB := below_ext hB hE37 (Nat.le_refl _)
   replace hm0_0 := hE37.at hm0_0
   replace hm0_1 := hE37.at hm0_1
   replace hS := hS.trans hE37
   clear hE37
   clear hsz38
   obtain rfl := hP6_3
   refine WT_split (dd := some 25) 4 rfl (by kernel_rfl) (by kernel_rfl) (by kernel_rfl) rfl rfl rfl (fun wq hq => r_move (v := .bool _) rfl) hS (fun hs6_4 => ?_) (fun hs6_4 => ?_)
   ·
    try with_reducible replace hs6_4 := of_decide_eq_true hs6_4
    refine WT_take (dd := some 26) 5 rfl (by kernel_rfl) (by kernel_rfl) (by kernel_rfl) rfl rfl rfl (fun _wq _hq => r_fieldAddr (b := _) (o := _) rfl tb_fo79_0) hS ?_
    refine WT_take (dd := some 27) 6 rfl (by kernel_rfl) (by kernel_rfl) (by kernel_rfl) rfl rfl rfl (fun _wq hq => r_load2 rfl tb_ag34 (At.cell (hq.at sv39_hm0_1) rfl) (At.cell (hq.at sv39_hm0_1) rfl)) hS ?_
    refine WT_take (dd := some 28) 7 rfl (by kernel_rfl) (by kernel_rfl) (by kernel_rfl) rfl rfl rfl (fun _wq _hq => r_fieldAddr (b := _) (o := _) rfl tb_fo64_2) hS ?_
    refine WT_take (dd := some 29) 8 rfl (by kernel_rfl) (by kernel_rfl) (by kernel_rfl) rfl rfl rfl (fun _wq hq => r_load1 (v := mayV) rfl tb_sc62 (At.cell (hq.at sv39_hm0_0) rfl)) hS ?_
    refine WT_take (dd := some 30) 9 rfl (by kernel_rfl) (by kernel_rfl) (by kernel_rfl) rfl rfl rfl (fun _wq _hq => r_move (v := .int .i64 _) rfl) hS ?_
    refine WT_take (dd := some 31) 10 rfl (by kernel_rfl) (by kernel_rfl) (by kernel_rfl) rfl rfl rfl (fun _wq hq => r_idxS (v := mayV) rfl (hq.slT (Below.slT sv39_hB hmay)) rfl tb_el62 (by omega) (by first | omega | (simp only [flagsTo_len, litsTo_len, firstF_len, ptF_len, setF_len]; omega))) hS ?_
    refine WT_take (dd := some 32) 11 rfl (by kernel_rfl) (by kernel_rfl) (by kernel_rfl) rfl rfl rfl (fun _wq hq => r_load4 rfl tb_ag24 (SlT.cell (hq.slT (Below.slT sv39_hB hmay)) encS_len 0 (by omega) (by first | omega | (simp only [flagsTo_len, litsTo_len, firstF_len, ptF_len, setF_len]; omega)) 0 rfl) (SlT.cell (hq.slT (Below.slT sv39_hB hmay)) encS_len 0 (by omega) (by first | omega | (simp only [flagsTo_len, litsTo_len, firstF_len, ptF_len, setF_len]; omega)) 1 rfl) (SlT.cell (hq.slT (Below.slT sv39_hB hmay)) encS_len 0 (by omega) (by first | omega | (simp only [flagsTo_len, litsTo_len, firstF_len, ptF_len, setF_len]; omega)) 2 rfl) (SlT.cell (hq.slT (Below.slT sv39_hB hmay)) encS_len 0 (by omega) (by first | omega | (simp only [flagsTo_len, litsTo_len, firstF_len, ptF_len, setF_len]; omega)) 3 rfl)) hS ?_
    refine WT_take (dd := some 33) 12 rfl (by kernel_rfl) (by kernel_rfl) (by kernel_rfl) rfl rfl rfl (fun _wq _hq => r_fieldAddr (b := _) (o := _) rfl tb_fo64_0) hS ?_
    refine WT_take (dd := some 34) 13 rfl (by kernel_rfl) (by kernel_rfl) (by kernel_rfl) rfl rfl rfl (fun _wq hq => r_load1 (v := .int .i64 _) rfl tb_sc3 (At.cell (hq.at sv39_hm0_0) rfl)) hS ?_
    refine WT_one (dd := some 35) 14 (by kernel_rfl) rfl rfl rfl rfl (Yd.call (r_call3 tb_c32 (v0 := .agg #[_, _]) rfl (v1 := .agg #[_, _, _, _]) rfl (v2 := .int .i64 _) rfl) (C_drawkniferef09_Within _ _ _ _ _ hm hv) (fun v6_14 W40 hE41 hP6_14 => ⟨.inl (hS.trans hE41), ?_⟩))
    have hsz42 := (Below.size hB)
    replace hB := below_ext hB hE41 (Nat.le_refl _)
    replace hm0_0 := hE41.at hm0_0
    replace hm0_1 := hE41.at hm0_1
    replace hS := hS.trans hE41
    clear hE41
    clear hsz42
    obtain rfl := hP6_14
    refine WT_take (dd := some 36) 15 rfl (by kernel_rfl) (by kernel_rfl) (by kernel_rfl) rfl rfl rfl (fun _wq _hq => r_not rfl) hS ?_
    refine WT_take (dd := some 37) 16 rfl (by kernel_rfl) (by kernel_rfl) (by kernel_rfl) rfl rfl rfl (fun _wq _hq => r_pick_t rfl (v := .bool _) rfl) hS ?_
    refine WT_done (by kernel_rfl) ?_
    try clear sv39_hB sv39_hm0_0 sv39_hm0_1
    refine hK33 _ _ ?_
    clear hK33 K32
    refine WC_cond (b := _) rfl (fun hc2 => ?_) (fun hc2 => ?_)
    ·
     try with_reducible replace hc2 := of_decide_eq_true hc2
     refine WC_seq (fun K43 hK44 => ?_)
     refine WC_region ?_
     refine WL_val (dd := some 4) rfl rfl rfl (r_assign (v := .bool false) rfl) ?_
     refine WL_nil ?_
     refine hK44 _ _ ?_
     clear hK44 K43
     refine WC_ret ?_
     repeat (first | refine thenQ_ret ?_ | refine blockQ_ret ?_)
     try clear hK31 K30
     try clear hJ25 J24
     try clear hK19 K18
     refine ret_t (v := .bool false) rfl ?_
     refine ⟨hB, ?_⟩
     exact refin_k (k := k) hs6_4 (not_t hc2)
    ·
     try with_reducible replace hc2 := of_decide_eq_false hc2
     refine WC_skip ?_
     refine hK31 _ _ ?_
     clear hK31 K30
     refine WC_region ?_
     refine WL_val (dd := some 19) rfl rfl rfl (r_move (v := .int .i64 _) rfl) ?_
     refine WL_val (dd := some 20) rfl rfl rfl (r_addI rfl rfl (by omega) (by omega)) ?_
     refine WL_val (dd := some 5) rfl rfl rfl (r_assign (v := .int .i64 _) rfl) ?_
     refine WL_nil ?_
     refine hJ25 _ _ (k + 1) ?_ ?_ ?_ ?_
     · repeat (first | exact agree.mask _ _ _ | refine agree.updo ?_ rfl _ | refine agree.updL ?_ _ rfl | refine agree.maskS rfl ?_)
     · exact ⟨rfl, trivial⟩
     · exact ⟨hB, hm0_0, hm0_1, (by omega), (upTo_succ hq (fun _ => not_f hc2)), trivial⟩
     · first | omega | (dsimp only; omega)
   ·
    try with_reducible replace hs6_4 := of_decide_eq_false hs6_4
    refine WT_pass (dd := some 26) 5 rfl (by kernel_rfl) (by kernel_rfl) (by kernel_rfl) rfl rfl rfl hS ?_
    refine WT_pass (dd := some 27) 6 rfl (by kernel_rfl) (by kernel_rfl) (by kernel_rfl) rfl rfl rfl hS ?_
    refine WT_pass (dd := some 28) 7 rfl (by kernel_rfl) (by kernel_rfl) (by kernel_rfl) rfl rfl rfl hS ?_
    refine WT_pass (dd := some 29) 8 rfl (by kernel_rfl) (by kernel_rfl) (by kernel_rfl) rfl rfl rfl hS ?_
    refine WT_pass (dd := some 30) 9 rfl (by kernel_rfl) (by kernel_rfl) (by kernel_rfl) rfl rfl rfl hS ?_
    refine WT_pass (dd := some 31) 10 rfl (by kernel_rfl) (by kernel_rfl) (by kernel_rfl) rfl rfl rfl hS ?_
    refine WT_pass (dd := some 32) 11 rfl (by kernel_rfl) (by kernel_rfl) (by kernel_rfl) rfl rfl rfl hS ?_
    refine WT_pass (dd := some 33) 12 rfl (by kernel_rfl) (by kernel_rfl) (by kernel_rfl) rfl rfl rfl hS ?_
    refine WT_pass (dd := some 34) 13 rfl (by kernel_rfl) (by kernel_rfl) (by kernel_rfl) rfl rfl rfl hS ?_
    refine WT_pass (dd := some 35) 14 rfl (by kernel_rfl) (by kernel_rfl) (by kernel_rfl) rfl rfl rfl hS ?_
    refine WT_pass (dd := some 36) 15 rfl (by kernel_rfl) (by kernel_rfl) (by kernel_rfl) rfl rfl rfl hS ?_
    refine WT_take (dd := some 37) 16 rfl (by kernel_rfl) (by kernel_rfl) (by kernel_rfl) rfl rfl rfl (fun _wq _hq => r_pick_f rfl (v := .bool false) rfl) hS ?_
    refine WT_done (by kernel_rfl) ?_
    try clear sv39_hB sv39_hm0_0 sv39_hm0_1
    refine hK33 _ _ ?_
    clear hK33 K32
    refine WC_cond_false rfl ?_
    refine WC_skip ?_
    refine hK31 _ _ ?_
    clear hK31 K30
    refine WC_region ?_
    refine WL_val (dd := some 19) rfl rfl rfl (r_move (v := .int .i64 _) rfl) ?_
    refine WL_val (dd := some 20) rfl rfl rfl (r_addI rfl rfl (by omega) (by omega)) ?_
    refine WL_val (dd := some 5) rfl rfl rfl (r_assign (v := .int .i64 _) rfl) ?_
    refine WL_nil ?_
    refine hJ25 _ _ (k + 1) ?_ ?_ ?_ ?_
    · repeat (first | exact agree.mask _ _ _ | refine agree.updo ?_ rfl _ | refine agree.updL ?_ _ rfl | refine agree.maskS rfl ?_)
    · exact ⟨rfl, trivial⟩
    · exact ⟨hB, hm0_0, hm0_1, (by omega), (upTo_succ hq (fun h => by rw [h] at hs6_4; cases hs6_4)), trivial⟩
    · first | omega | (dsimp only; omega)
  ·
   try with_reducible replace hc1 := of_decide_eq_false hc1
   refine WC_exit ?_
   refine hK19 _ _ ?_
   clear hK27 K26
   clear hJ25 J24
   clear hK19 K18
   refine WC_seq (fun K45 hK46 => ?_)
   refine WC_region ?_
   refine WL_val (dd := some 4) rfl rfl rfl (r_assign (v := .bool true) rfl) ?_
   refine WL_nil ?_
   refine hK46 _ _ ?_
   clear hK46 K45
   refine WC_ret ?_
   repeat (first | refine thenQ_ret ?_ | refine blockQ_ret ?_)
   refine ret_t (v := .bool true) rfl ?_
   refine ⟨hB, ?_⟩
   obtain rfl : k = S.may.length := by omega
   exact refin_t hr (not_f hc0) hq

end Go.Proofs.Ytdbcijijhhbkaaa
