/-
  The walks of the document's first two layers.
-/
import Derived.Test.YtpamgfbecgjjeaaProg
import Derived.Test.YtpamgfbecgjjeaaRef
import Derived.Test.YtpamgfbecgjjeaaWSet
namespace Go.Proofs.Ytpamgfbecgjjeaa
set_option linter.unusedVariables false
set_option linter.unusedSimpArgs false
open Go Go.RowKit

theorem tb_c125 : callB Try.prog 125 = true := by kernel_rfl
theorem tb_el122 : elemI Try.prog 122 = some (4, 1, 1) := by kernel_rfl
theorem tb_zs4 : (zeroI Try.prog 4).map (fun z => z.cells.size) = some 1 := by kernel_rfl
theorem tb_sc4 : scalarB Try.prog 4 = true := by kernel_rfl
theorem tb_z4 : zeroI Try.prog 4 = some (.bool false) := by kernel_rfl
theorem tb_c128 : callB Try.prog 128 = true := by kernel_rfl
theorem tb_fo55_0 : fieldO Try.prog 55 0 = some 0 := by kernel_rfl
theorem tb_sc5 : scalarB Try.prog 5 = true := by kernel_rfl
theorem tb_fo55_1 : fieldO Try.prog 55 1 = some 1 := by kernel_rfl

theorem C_drawkniferef01_power (n : Nat) (w : World) (hn : n ≤ 63) :
    Fn Try.prog 125 #[.int .i64 (n : Int)] w fun v w' => v = .int .u64 ((2 ^ n : Nat) : Int) := by
 refine Fn_intro (n := 13) Try.func125 rfl rfl (Nat.le_of_ble_eq_true rfl) ?_
 have hB : Below w.heap.size w w := Below.refl _ _
 refine WC_seq (fun K1 hK2 => ?_)
 refine WC_region ?_
 refine WL_val (dd := some 2) rfl rfl rfl (r_assign (v := .int .u64 0) rfl) ?_
 refine WL_nil ?_
 refine hK2 _ _ ?_
 clear hK2 K1
 refine WC_seq (fun K3 hK4 => ?_)
 refine WC_region ?_
 refine WL_val (dd := some 3) rfl rfl rfl (r_assign (v := .int .u64 1) rfl) ?_
 refine WL_nil ?_
 refine hK4 _ _ ?_
 clear hK4 K3
 refine WC_seq (fun K5 hK6 => ?_)
 refine WC_seq (fun K7 hK8 => ?_)
 refine WC_region ?_
 refine WL_val (dd := some 4) rfl rfl rfl (r_assign (v := .int .i64 0) rfl) ?_
 refine WL_nil ?_
 refine hK8 _ _ ?_
 clear hK8 K7
 refine WC_block ?_
 refine WC_loop (σ := (Nat)) [3, 4, 5, 6, 7, 8, 9, 10, 11] (fun k => [(4, .int .i64 (k : Int)), (3, .int .u64 ((2 ^ k : Nat) : Int))]) (fun k W => (Below w.heap.size w W) ∧ (k ≤ n) ∧ (True)) (fun k => n - k) (0) ⟨rfl, rfl, trivial⟩ ⟨hB, (by omega), trivial⟩ ?_
 clear hB
 rintro k g10 W9 ⟨hB, hk, _⟩ J11 hJ12
 refine WC_seq (fun K13 hK14 => ?_)
 refine WC_seq (fun K15 hK16 => ?_)
 refine WC_region ?_
 refine WL_val (dd := some 5) rfl rfl rfl (r_move (v := .int .i64 _) rfl) ?_
 refine WL_val (dd := some 6) rfl rfl rfl (r_move (v := .int .i64 _) rfl) ?_
 refine WL_val (dd := some 7) rfl rfl rfl (r_lss rfl rfl) ?_
 refine WL_nil ?_
 refine hK16 _ _ ?_
 clear hK16 K15
 refine WC_cond (b := _) rfl (fun hc0 => ?_) (fun hc0 => ?_)
 ·
  try with_reducible replace hc0 := of_decide_eq_true hc0
  refine WC_skip ?_
  refine hK14 _ _ ?_
  clear hK14 K13
  refine WC_seq (fun K17 hK18 => ?_)
  refine WC_block ?_
  refine WC_region ?_
  refine WL_val (dd := some 10) rfl rfl rfl (r_move (v := .int .u64 _) rfl) ?_
  refine WL_val (dd := some 11) rfl rfl rfl (r_mulN rfl (n := 2) rfl rfl (by exact pow63 (by omega))) ?_
  refine WL_val (dd := some 3) rfl rfl rfl (r_assign (v := .int .u64 _) rfl) ?_
  refine WL_nil ?_
  refine hK18 _ _ ?_
  clear hK18 K17
  refine WC_region ?_
  refine WL_val (dd := some 8) rfl rfl rfl (r_move (v := .int .i64 _) rfl) ?_
  refine WL_val (dd := some 9) rfl rfl rfl (r_addI rfl rfl (by omega) (by omega)) ?_
  refine WL_val (dd := some 4) rfl rfl rfl (r_assign (v := .int .i64 _) rfl) ?_
  refine WL_nil ?_
  refine hJ12 _ _ (k + 1) ?_ ?_ ?_ ?_
  · repeat (first | exact agree.mask _ _ _ | refine agree.updo ?_ rfl _ | refine agree.updL ?_ _ rfl | refine agree.maskS rfl ?_)
  · exact ⟨rfl, rfl, trivial⟩
  · exact ⟨hB, (by omega), trivial⟩
  · first | omega | (dsimp only; omega)
 ·
  try with_reducible replace hc0 := of_decide_eq_false hc0
  refine WC_exit ?_
  refine hK6 _ _ ?_
  clear hK14 K13
  clear hJ12 J11
  clear hK6 K5
  refine WC_seq (fun K19 hK20 => ?_)
  refine WC_region ?_
  refine WL_val (dd := some 12) rfl rfl rfl (r_move (v := .int .u64 _) rfl) ?_
  refine WL_val (dd := some 2) rfl rfl rfl (r_assign (v := .int .u64 _) rfl) ?_
  refine WL_nil ?_
  refine hK20 _ _ ?_
  clear hK20 K19
  refine WC_ret ?_
  repeat (first | refine thenQ_ret ?_ | refine blockQ_ret ?_)
  refine ret_t (v := .int .u64 _) rfl ?_
  refine ⟨hB, ?_⟩
  obtain rfl : k = n := by omega
  rfl

theorem C_drawkniferef01_Bit (p i : Nat) (w : World) (hp : p < 9223372036854775808) (hi : i < 8) :
    Fn Try.prog 98 #[.int .i64 (p : Int), .int .i64 (i : Int)] w fun v w' => v = .int .i64 ((p / 2 ^ i % 2 : Nat) : Int) := by
 refine Fn_intro (n := 11) Try.func98 rfl rfl (Nat.le_of_ble_eq_true rfl) ?_
 have hB : Below w.heap.size w w := Below.refl _ _
 have h7 := pow7 hi
 have h0 := Nat.two_pow_pos i
 refine WC_seq (fun K1 hK2 => ?_)
 refine WC_region ?_
 refine WL_val (dd := some 4) rfl rfl rfl (r_assign (v := .int .i64 0) rfl) ?_
 refine WL_nil ?_
 refine hK2 _ _ ?_
 clear hK2 K1
 refine WC_seq (fun K3 hK4 => ?_)
 refine WC_region ?_
 refine WL_val (dd := some 5) rfl rfl rfl (r_move (v := .int .i64 _) rfl) ?_
 refine WL_val (dd := some 6) rfl rfl rfl (r_move (v := .int .i64 _) rfl) ?_
 refine WL_call (dd := some 7) rfl rfl rfl (r_call1 tb_c125 (v0 := .int .i64 _) rfl) (C_drawkniferef01_power _ _ (by first | assumption | omega)) (fun v1_2 W5 hE6 hP1_2 => ?_)
 have hsz7 := (Below.size hB)
 replace hB := below_ext hB hE6 (Nat.le_refl _)
 clear hE6
 clear hsz7
 obtain rfl := hP1_2
 refine WL_val (dd := some 8) rfl rfl rfl (r_convN rfl Try.underlying67 Try.underlying3 (by simp only [topN]; omega)) ?_
 refine WL_val (dd := some 9) rfl rfl rfl (r_quoN (n := (2 ^ i)) rfl rfl rfl (by omega) (by simp only [topN]; omega)) ?_
 refine WL_val (dd := some 10) rfl rfl rfl (r_remN (n := 2) rfl rfl rfl (by omega)) ?_
 refine WL_val (dd := some 4) rfl rfl rfl (r_assign (v := .int .i64 _) rfl) ?_
 refine WL_nil ?_
 refine hK4 _ _ ?_
 clear hK4 K3
 refine WC_ret ?_
 repeat (first | refine thenQ_ret ?_ | refine blockQ_ret ?_)
 refine ret_t (v := .int .i64 _) rfl ?_
 refine ⟨hB, ?_⟩
 rfl

theorem C_drawkniferef01_Flags (s : Nat) (w : World) :
    Fn Try.prog 128 #[setV s] w fun v w' => OwT encB 1 4 w' w.heap.size v (flagsS s) := by
 refine Fn_intro (n := 27) Try.func128 rfl rfl (Nat.le_of_ble_eq_true rfl) ?_
 have hB : Below w.heap.size w w := Below.refl _ _
 refine WC_seq (fun K1 hK2 => ?_)
 refine WC_region ?_
 refine WL_step (dd := some 1) rfl rfl rfl (Y_box (c := #[_, _, _, _]) rfl rfl (fun b0_0 W3 hb4 hE5 hm0_0 => ?_))
 have lo_b0_0 : w.heap.size ≤ b0_0 := hb4 ▸ (Below.size hB)
 clear hb4
 replace hB := below_ext hB hE5 (Nat.le_refl _)
 clear hE5
 refine WL_val (dd := some 2) rfl rfl rfl (r_assign (v := .slice none 0 0) rfl) ?_
 refine WL_nil ?_
 refine hK2 _ _ ?_
 clear hK2 K1
 refine WC_seq (fun K6 hK7 => ?_)
 refine WC_region ?_
 refine WL_val (dd := some 3) rfl rfl rfl (r_assign (v := .slice none 0 0) rfl) ?_
 refine WL_nil ?_
 refine hK7 _ _ ?_
 clear hK7 K6
 refine WC_seq (fun K8 hK9 => ?_)
 refine WC_seq (fun K10 hK11 => ?_)
 refine WC_region ?_
 refine WL_val (dd := some 4) rfl rfl rfl (r_assign (v := .int .i64 0) rfl) ?_
 refine WL_nil ?_
 refine hK11 _ _ ?_
 clear hK11 K10
 refine WC_block ?_
 refine WC_loop (σ := (Nat) × (Value)) [3, 4, 5, 6, 7, 8, 9, 10, 11, 12, 13, 14, 15, 16, 17, 18, 19, 20, 21, 22, 23, 24, 25] (fun (i, v0) => [(4, .int .i64 (i : Int)), (3, v0)]) (fun sg W => match sg with | (i, v0) => (Below w.heap.size w W) ∧ (At W b0_0 _ 69) ∧ (OwT encB 1 4 W w.heap.size v0 (flagsTo s (64 * i))) ∧ (i ≤ 4) ∧ (True)) (fun (i, v0) => 4 - i) ((0, .slice none 0 0)) ⟨rfl, rfl, trivial⟩ ⟨hB, hm0_0, OwT.nil, (by omega), trivial⟩ ?_
 clear hB hm0_0
 rintro ⟨i, v0⟩ g13 W12 ⟨hB, hm0_0, ho, hi, _⟩ J14 hJ15
 refine WC_seq (fun K16 hK17 => ?_)
 refine WC_seq (fun K18 hK19 => ?_)
 refine WC_region ?_
 refine WL_val (dd := some 7) rfl rfl rfl (r_move (v := .int .i64 _) rfl) ?_
 refine WL_val (dd := some 8) rfl rfl rfl (r_lss rfl rfl) ?_
 refine WL_nil ?_
 refine hK19 _ _ ?_
 clear hK19 K18
 refine WC_cond (b := _) rfl (fun hc0 => ?_) (fun hc0 => ?_)
 ·
  try with_reducible replace hc0 := of_decide_eq_true hc0
  refine WC_skip ?_
  refine hK17 _ _ ?_
  clear hK17 K16
  refine WC_seq (fun K20 hK21 => ?_)
  refine WC_block ?_
  refine WC_seq (fun K22 hK23 => ?_)
  refine WC_region ?_
  refine WL_val (dd := some 11) rfl rfl rfl (r_move (v := .int .i64 _) rfl) ?_
  refine WL_val (dd := some 12) rfl rfl rfl (r_idxA rfl rfl tb_ar69 (by omega) (by omega)) ?_
  refine WL_val (dd := some 13) rfl rfl rfl (r_load1 (v := wv s i) rfl tb_sc67 (At.cell hm0_0 (setA_get s i (by omega)))) ?_
  refine WL_val (dd := some 5) rfl rfl rfl (r_assign (v := .int .u64 _) rfl) ?_
  refine WL_nil ?_
  refine hK23 _ _ ?_
  clear hK23 K22
  refine WC_seq (fun K24 hK25 => ?_)
  refine WC_region ?_
  refine WL_val (dd := some 6) rfl rfl rfl (r_assign (v := .int .i64 0) rfl) ?_
  refine WL_nil ?_
  refine hK25 _ _ ?_
  clear hK25 K24
  refine WC_block ?_
  refine WC_loop (σ := (Nat) × (Value)) [3, 5, 6, 14, 15, 16, 17, 18, 19, 20, 21, 22, 23, 24, 25] (fun (k, v1) => [(6, .int .i64 (k : Int)), (5, .int .u64 ((wd s i / 2 ^ k : Nat) : Int)), (3, v1)]) (fun sg W => match sg with | (k, v1) => (Below w.heap.size w W) ∧ (At W b0_0 _ 69) ∧ (OwT encB 1 4 W w.heap.size v1 (flagsTo s (64 * i + k))) ∧ (k ≤ 64) ∧ (True)) (fun (k, v1) => 64 - k) ((0, v0)) ⟨rfl, congrArg (fun x : Nat => Value.int .u64 (x : Int)) (Nat.div_one _).symm, rfl, trivial⟩ ⟨hB, hm0_0, ho, (by omega), trivial⟩ ?_
  clear hB hm0_0 ho
  rintro ⟨k, v1⟩ g27 W26 ⟨hB, hm0_0, ho2, hk, _⟩ J28 hJ29
  refine WC_seq (fun K30 hK31 => ?_)
  refine WC_seq (fun K32 hK33 => ?_)
  refine WC_region ?_
  refine WL_val (dd := some 14) rfl rfl rfl (r_move (v := .int .i64 _) rfl) ?_
  refine WL_val (dd := some 15) rfl rfl rfl (r_lss rfl rfl) ?_
  refine WL_nil ?_
  refine hK33 _ _ ?_
  clear hK33 K32
  refine WC_cond (b := _) rfl (fun hc1 => ?_) (fun hc1 => ?_)
  ·
   try with_reducible replace hc1 := of_decide_eq_true hc1
   refine WC_skip ?_
   refine hK31 _ _ ?_
   clear hK31 K30
   refine WC_seq (fun K34 hK35 => ?_)
   refine WC_block ?_
   refine WC_seq (fun K36 hK37 => ?_)
   refine WC_region ?_
   refine WL_val (dd := some 18) rfl rfl rfl (r_move (v := v1) rfl) ?_
   refine WL_val (dd := some 19) rfl rfl rfl (r_move (v := .int .u64 _) rfl) ?_
   refine WL_val (dd := some 20) rfl rfl rfl (r_remN (n := 2) rfl rfl rfl (by omega)) ?_
   refine WL_val (dd := some 21) rfl rfl rfl (r_eql rfl rfl) ?_
   refine WL_step (dd := some 22) rfl rfl rfl (Y_lit1 (u := .bool _) rfl tb_el122 tb_zs4 rfl (by decide) (by decide) (fun b9_4 W38 hb39 hE40 hm9_4 => ?_))
   have lo_b9_4 : w.heap.size ≤ b9_4 := hb39 ▸ (Below.size hB)
   have no_v1_b9_4 := OwT.neB (b := b9_4) ho2 (Nat.le_of_eq hb39.symm)
   clear hb39
   replace hB := below_ext hB hE40 (Nat.le_refl _)
   replace hm0_0 := hE40.at hm0_0
   replace ho2 := hE40.ow ho2
   clear hE40
   refine WL_step (dd := some 23) rfl rfl rfl (Y_append (v := v1) (v2 := .slice (some ⟨b9_4, 0, none⟩) 1 1) rfl rfl tb_el122 tb_zs4 (by decide) ho2 (sl_lit1 hm9_4 rfl) rfl (by have := Below.size hB; omega) (by simp only [flagsTo_len]; omega) (by simp only [flagsTo_len]; omega) (fun v9_5 W41 hG42 ho9_5 => ?_))
   replace ho9_5 := OwT.snoc (enc := encB) (x := _) rfl rfl rfl rfl ho9_5
   clear hm9_4
   replace hB := below_grown hB hG42 (Nat.le_refl _) (fun j hj => (OwT.lt ho2 j hj))
   replace hm0_0 := At.grownOw hm0_0 ho2 hG42 (by decide)
   clear hG42
   clear ho2
   refine WL_val (dd := some 3) rfl rfl rfl (r_assign (v := v9_5) rfl) ?_
   refine WL_nil ?_
   refine hK37 _ _ ?_
   clear hK37 K36
   refine WC_region ?_
   refine WL_val (dd := some 24) rfl rfl rfl (r_move (v := .int .u64 _) rfl) ?_
   refine WL_val (dd := some 25) rfl rfl rfl (r_quoN (n := 2) rfl rfl rfl (by omega) (by exact Nat.lt_of_le_of_lt (Nat.div_le_self _ _) (wd_top s i))) ?_
   refine WL_val (dd := some 5) rfl rfl rfl (r_assign (v := .int .u64 _) rfl) ?_
   refine WL_nil ?_
   refine hK35 _ _ ?_
   clear hK35 K34
   refine WC_region ?_
   refine WL_val (dd := some 16) rfl rfl rfl (r_move (v := .int .i64 _) rfl) ?_
   refine WL_val (dd := some 17) rfl rfl rfl (r_addI rfl rfl (by omega) (by omega)) ?_
   refine WL_val (dd := some 6) rfl rfl rfl (r_assign (v := .int .i64 _) rfl) ?_
   refine WL_nil ?_
   refine hJ29 _ _ ((k + 1, v9_5)) ?_ ?_ ?_ ?_
   · repeat (first | exact agree.mask _ _ _ | refine agree.updo ?_ rfl _ | refine agree.updL ?_ _ rfl | refine agree.maskS rfl ?_)
   · exact ⟨rfl, congrArg (fun x : Nat => Value.int .u64 (x : Int)) (div_pow (wd s i) k), rfl, trivial⟩
   · exact ⟨hB, hm0_0, (by rw [← Nat.add_assoc, flagsTo_succ, ← flag_word (by omega)]; exact ho9_5), (by omega), trivial⟩
   · show 64 - (k + 1) < 64 - k; omega
  ·
   try with_reducible replace hc1 := of_decide_eq_false hc1
   refine WC_exit ?_
   refine hK21 _ _ ?_
   clear hK31 K30
   clear hJ29 J28
   clear hK21 K20
   refine WC_region ?_
   refine WL_val (dd := some 9) rfl rfl rfl (r_move (v := .int .i64 _) rfl) ?_
   refine WL_val (dd := some 10) rfl rfl rfl (r_addI rfl rfl (by omega) (by omega)) ?_
   refine WL_val (dd := some 4) rfl rfl rfl (r_assign (v := .int .i64 _) rfl) ?_
   refine WL_nil ?_
   refine hJ15 _ _ ((i + 1, v1)) ?_ ?_ ?_ ?_
   · repeat (first | exact agree.mask _ _ _ | refine agree.updo ?_ rfl _ | refine agree.updL ?_ _ rfl | refine agree.maskS rfl ?_)
   · exact ⟨rfl, rfl, trivial⟩
   · exact ⟨hB, hm0_0, (by have e : 64 * i + k = 64 * (i + 1) := (by omega); rw [← e]; exact ho2), (by omega), trivial⟩
   · show 4 - (i + 1) < 4 - i; omega
 ·
  try with_reducible replace hc0 := of_decide_eq_false hc0
  refine WC_exit ?_
  refine hK9 _ _ ?_
  clear hK17 K16
  clear hJ15 J14
  clear hK9 K8
  refine WC_seq (fun K44 hK45 => ?_)
  refine WC_region ?_
  refine WL_val (dd := some 26) rfl rfl rfl (r_move (v := v0) rfl) ?_
  refine WL_val (dd := some 2) rfl rfl rfl (r_assign (v := v0) rfl) ?_
  refine WL_nil ?_
  refine hK45 _ _ ?_
  clear hK45 K44
  refine WC_ret ?_
  repeat (first | refine thenQ_ret ?_ | refine blockQ_ret ?_)
  refine ret_t (v := v0) rfl ?_
  refine ⟨hB, ?_⟩
  obtain rfl : i = 4 := by omega
  exact ho

theorem C_drawkniferef01_Set (x : Value) (l : List Bool) (w : World) (hl : SlT encB 1 w x l) (hn : l.length = 256) :
    Fn Try.prog 103 #[x] w fun v w' => v = setV (bitsS l) := by
 refine Fn_intro (n := 30) Try.func103 rfl rfl (Nat.le_of_ble_eq_true rfl) ?_
 have hB : Below w.heap.size w w := Below.refl _ _
 refine WC_seq (fun K1 hK2 => ?_)
 refine WC_region ?_
 refine WL_step (dd := some 2) rfl rfl rfl (Y_alloc tb_z69 rfl (fun b0_0 W3 hb4 hE5 hm0_0 => ?_))
 have lo_b0_0 : w.heap.size ≤ b0_0 := hb4 ▸ (Below.size hB)
 clear hb4
 replace hB := below_ext hB hE5 (Nat.le_refl _)
 clear hE5
 replace hm0_0 : At W3 b0_0 #[wv 0 0, wv 0 1, wv 0 2, wv 0 3] 69 := hm0_0
 refine WL_nil ?_
 refine hK2 _ _ ?_
 clear hK2 K1
 refine WC_seq (fun K6 hK7 => ?_)
 refine WC_region ?_
 refine WL_step (dd := some 3) rfl rfl rfl (Y_alloc tb_z69 rfl (fun b1_0 W8 hb9 hE10 hm1_0 => ?_))
 have lo_b1_0 : w.heap.size ≤ b1_0 := hb9 ▸ (Below.size hB)
 have ne_b0_0_b1_0 : b0_0 ≠ b1_0 := Nat.ne_of_lt (hb9 ▸ hm0_0.lt)
 clear hb9
 replace hB := below_ext hB hE10 (Nat.le_refl _)
 replace hm0_0 := hE10.at hm0_0
 clear hE10
 replace hm1_0 : At W8 b1_0 #[wv 0 0, wv 0 1, wv 0 2, wv 0 3] 69 := hm1_0
 refine WL_nil ?_
 refine hK7 _ _ ?_
 clear hK7 K6
 refine WC_seq (fun K11 hK12 => ?_)
 refine WC_seq (fun K13 hK14 => ?_)
 refine WC_region ?_
 refine WL_val (dd := some 4) rfl rfl rfl (r_assign (v := .int .i64 0) rfl) ?_
 refine WL_nil ?_
 refine hK14 _ _ ?_
 clear hK14 K13
 refine WC_block ?_
 refine WC_loop (σ := (Nat)) [4, 5, 6, 7, 8, 9, 10, 11, 12, 13, 14, 15, 16, 17, 18, 19, 20, 21, 22, 23, 24, 25, 26, 27, 28] (fun i => [(4, .int .i64 (i : Int))]) (fun i W => (Below w.heap.size w W) ∧ (At W b0_0 _ 69) ∧ (At W b1_0 #[wv (bitsTo l (64 * i)) 0, wv (bitsTo l (64 * i)) 1, wv (bitsTo l (64 * i)) 2, wv (bitsTo l (64 * i)) 3] 69) ∧ (i ≤ 4) ∧ (True)) (fun i => 4 - i) (0) ⟨rfl, trivial⟩ ⟨hB, hm0_0, hm1_0, (by omega), trivial⟩ ?_
 clear hB hm0_0 hm1_0
 rintro i g16 W15 ⟨hB, hm0_0, hm1_0, hi, _⟩ J17 hJ18
 refine WC_seq (fun K19 hK20 => ?_)
 refine WC_seq (fun K21 hK22 => ?_)
 refine WC_region ?_
 refine WL_val (dd := some 6) rfl rfl rfl (r_move (v := .int .i64 _) rfl) ?_
 refine WL_val (dd := some 7) rfl rfl rfl (r_lss rfl rfl) ?_
 refine WL_nil ?_
 refine hK22 _ _ ?_
 clear hK22 K21
 refine WC_cond (b := _) rfl (fun hc0 => ?_) (fun hc0 => ?_)
 ·
  try with_reducible replace hc0 := of_decide_eq_true hc0
  refine WC_skip ?_
  refine hK20 _ _ ?_
  clear hK20 K19
  refine WC_seq (fun K23 hK24 => ?_)
  refine WC_block ?_
  refine WC_seq (fun K25 hK26 => ?_)
  refine WC_region ?_
  refine WL_val (dd := some 5) rfl rfl rfl (r_assign (v := .int .i64 0) rfl) ?_
  refine WL_nil ?_
  refine hK26 _ _ ?_
  clear hK26 K25
  refine WC_block ?_
  refine WC_loop (σ := (Nat)) [5, 10, 11, 12, 13, 14, 15, 16, 17, 18, 19, 20, 21, 22, 23, 24, 25, 26, 27, 28] (fun k => [(5, .int .i64 (k : Int))]) (fun k W => (Below w.heap.size w W) ∧ (At W b0_0 _ 69) ∧ (At W b1_0 #[wv (bitsTo l (64 * i + k)) 0, wv (bitsTo l (64 * i + k)) 1, wv (bitsTo l (64 * i + k)) 2, wv (bitsTo l (64 * i + k)) 3] 69) ∧ (k ≤ 64) ∧ (True)) (fun k => 64 - k) (0) ⟨rfl, trivial⟩ ⟨hB, hm0_0, hm1_0, (by omega), trivial⟩ ?_
  clear hB hm0_0 hm1_0
  rintro k g28 W27 ⟨hB, hm0_0, hm1_0, hk, _⟩ J29 hJ30
  refine WC_seq (fun K31 hK32 => ?_)
  refine WC_seq (fun K33 hK34 => ?_)
  refine WC_region ?_
  refine WL_val (dd := some 10) rfl rfl rfl (r_move (v := .int .i64 _) rfl) ?_
  refine WL_val (dd := some 11) rfl rfl rfl (r_lss rfl rfl) ?_
  refine WL_nil ?_
  refine hK34 _ _ ?_
  clear hK34 K33
  refine WC_cond (b := _) rfl (fun hc1 => ?_) (fun hc1 => ?_)
  ·
   try with_reducible replace hc1 := of_decide_eq_true hc1
   refine WC_skip ?_
   refine hK32 _ _ ?_
   clear hK32 K31
   refine WC_seq (fun K35 hK36 => ?_)
   refine WC_block ?_
   refine WC_seq (fun K37 hK38 => ?_)
   refine WC_region ?_
   refine WL_val (dd := some 14) rfl rfl rfl (r_move (v := x) rfl) ?_
   refine WL_val (dd := some 15) rfl rfl rfl (r_move (v := .int .i64 _) rfl) ?_
   refine WL_val (dd := some 16) rfl rfl rfl (r_mulI rfl rfl (by omega) (by omega)) ?_
   refine WL_val (dd := some 17) rfl rfl rfl (r_move (v := .int .i64 _) rfl) ?_
   refine WL_val (dd := some 18) rfl rfl rfl (r_addI rfl rfl (by omega) (by omega)) ?_
   refine WL_val (dd := some 19) rfl rfl rfl (r_idxS (v := x) rfl (Below.slT hB hl) rfl tb_el122 (by omega) (by first | omega | (simp only [flagsTo_len, litsTo_len, firstF_len, ptF_len]; omega))) ?_
   refine WL_val (dd := some 20) rfl rfl rfl (r_load1 (v := .bool _) rfl tb_sc4 (SlT.cell (Below.slT hB hl) encB_len false (by omega) (by first | omega | (simp only [flagsTo_len, litsTo_len, firstF_len, ptF_len]; omega)) 0 rfl)) ?_
   refine WL_nil ?_
   refine hK38 _ _ ?_
   clear hK38 K37
   refine WC_cond (b := _) rfl (fun hc2 => ?_) (fun hc2 => ?_)
   ·
    try with_reducible replace hc2 := of_decide_eq_true hc2
    replace hc2 : l.getD (64 * i + k) false = true := by rw [← hc2]; congr 1
    refine WC_draw Ext tb_mix (fun W39 hE40 => ?_)
    replace hB := below_ext hB hE40 (Nat.le_refl _)
    replace hm0_0 := hE40.at hm0_0
    replace hm1_0 := hE40.at hm1_0
    have hS := Ext.refl W39
    refine WT_take (dd := some 21) 0 rfl (by kernel_rfl) (by kernel_rfl) (by kernel_rfl) rfl rfl rfl (fun _wq _hq => r_move (v := .int .i64 _) rfl) hS ?_
    refine WT_take (dd := some 22) 1 rfl (by kernel_rfl) (by kernel_rfl) (by kernel_rfl) rfl rfl rfl (fun _wq _hq => r_move (v := .int .i64 _) rfl) hS ?_
    refine WT_take (dd := some 23) 2 rfl (by kernel_rfl) (by kernel_rfl) (by kernel_rfl) rfl rfl rfl (fun _wq _hq => r_idxA rfl rfl tb_ar69 (by omega) (by omega)) hS ?_
    refine WT_take (dd := some 24) 3 rfl (by kernel_rfl) (by kernel_rfl) (by kernel_rfl) rfl rfl rfl (fun _wq hq => r_load1 (v := wv _ i) rfl tb_sc67 (At.cell (hq.at hm1_0) (setA_get _ i (by omega)))) hS ?_
    refine WT_take (dd := some 25) 4 rfl (by kernel_rfl) (by kernel_rfl) (by kernel_rfl) rfl rfl rfl (fun _wq _hq => r_move (v := .int .i64 _) rfl) hS ?_
    refine WT_one (dd := some 26) 5 (by kernel_rfl) rfl rfl rfl rfl (Yd.call (r_call1 tb_c125 (v0 := .int .i64 _) rfl) (C_drawkniferef01_power k _ (by omega)) (fun v9_5 W41 hE42 hP9_5 => ⟨.inl (hS.trans hE42), ?_⟩))
    have hsz43 := (Below.size hB)
    have sv44_hB := hB
    have sv44_hm0_0 := hm0_0
    have sv44_hm1_0 := hm1_0
    replace hB := below_ext hB hE42 (Nat.le_refl _)
    replace hm0_0 := hE42.at hm0_0
    replace hm1_0 := hE42.at hm1_0
    replace hS := hS.trans hE42
    clear hE42
    clear hsz43
    obtain rfl := hP9_5
    refine WT_take (dd := some 27) 6 rfl (by kernel_rfl) (by kernel_rfl) (by kernel_rfl) rfl rfl rfl (fun _wq _hq => r_addN rfl (n := _) rfl rfl (by exact bits_sum_top l (by omega) (by omega))) hS ?_
    refine WT_take (dd := some 28) 7 rfl (by kernel_rfl) (by kernel_rfl) (by kernel_rfl) rfl rfl rfl (fun _wq _hq => r_idxA rfl rfl tb_ar69 (by omega) (by omega)) hS ?_
    refine WT_one (dd := none) 8 (by kernel_rfl) rfl rfl rfl rfl (Y_store1 (v := .int .u64 _) rfl rfl tb_sc67 rfl hm1_0 (by simp; omega) (fun W45 hG46 hm47 => ⟨.inr (by kernel_rfl), ?_⟩))
    replace hB := below_grown hB hG46 (Nat.le_refl _) (fun j hj => by cases hj; exact lo_b1_0)
    replace hm0_0 := At.grownNe hm0_0 ne_b0_0_b1_0 hG46
    clear hG46 hm1_0
    have hm1_0 := hm47
    clear hm47
    rw [setA_set (by omega) (bitsTo_wd l (by omega) (by omega) hc2)] at hm1_0
    refine WT_done (by kernel_rfl) ?_
    try clear sv44_hB sv44_hm0_0
    refine hK36 _ _ ?_
    clear hK36 K35
    refine WC_region ?_
    refine WL_val (dd := some 12) rfl rfl rfl (r_move (v := .int .i64 _) rfl) ?_
    refine WL_val (dd := some 13) rfl rfl rfl (r_addI rfl rfl (by omega) (by omega)) ?_
    refine WL_val (dd := some 5) rfl rfl rfl (r_assign (v := .int .i64 _) rfl) ?_
    refine WL_nil ?_
    refine hJ30 _ _ (k + 1) ?_ ?_ ?_ ?_
    · repeat (first | exact agree.mask _ _ _ | refine agree.updo ?_ rfl _ | refine agree.updL ?_ _ rfl | refine agree.maskS rfl ?_)
    · exact ⟨rfl, trivial⟩
    · exact ⟨hB, hm0_0, (by first | exact hm1_0 | (rw [show 64 * i + (k + 1) = 64 * i + k + 1 from rfl, bitsTo_skip (by rw [← hc2]; congr 1)]; exact hm1_0)), (by omega), trivial⟩
    · first | omega | (dsimp only; omega)
   ·
    try with_reducible replace hc2 := of_decide_eq_false hc2
    refine WC_skip ?_
    refine hK36 _ _ ?_
    clear hK36 K35
    refine WC_region ?_
    refine WL_val (dd := some 12) rfl rfl rfl (r_move (v := .int .i64 _) rfl) ?_
    refine WL_val (dd := some 13) rfl rfl rfl (r_addI rfl rfl (by omega) (by omega)) ?_
    refine WL_val (dd := some 5) rfl rfl rfl (r_assign (v := .int .i64 _) rfl) ?_
    refine WL_nil ?_
    refine hJ30 _ _ (k + 1) ?_ ?_ ?_ ?_
    · repeat (first | exact agree.mask _ _ _ | refine agree.updo ?_ rfl _ | refine agree.updL ?_ _ rfl | refine agree.maskS rfl ?_)
    · exact ⟨rfl, trivial⟩
    · exact ⟨hB, hm0_0, (by first | exact hm1_0 | (rw [show 64 * i + (k + 1) = 64 * i + k + 1 from rfl, bitsTo_skip (by rw [← hc2]; congr 1)]; exact hm1_0)), (by omega), trivial⟩
    · first | omega | (dsimp only; omega)
  ·
   try with_reducible replace hc1 := of_decide_eq_false hc1
   refine WC_exit ?_
   refine hK24 _ _ ?_
   clear hK32 K31
   clear hJ30 J29
   clear hK24 K23
   refine WC_region ?_
   refine WL_val (dd := some 8) rfl rfl rfl (r_move (v := .int .i64 _) rfl) ?_
   refine WL_val (dd := some 9) rfl rfl rfl (r_addI rfl rfl (by omega) (by omega)) ?_
   refine WL_val (dd := some 4) rfl rfl rfl (r_assign (v := .int .i64 _) rfl) ?_
   refine WL_nil ?_
   refine hJ18 _ _ (i + 1) ?_ ?_ ?_ ?_
   · repeat (first | exact agree.mask _ _ _ | refine agree.updo ?_ rfl _ | refine agree.updL ?_ _ rfl | refine agree.maskS rfl ?_)
   · exact ⟨rfl, trivial⟩
   · exact ⟨hB, hm0_0, (by have e : 64 * i + k = 64 * (i + 1) := (by omega); rw [← e]; exact hm1_0), (by omega), trivial⟩
   · first | omega | (dsimp only; omega)
 ·
  try with_reducible replace hc0 := of_decide_eq_false hc0
  refine WC_exit ?_
  refine hK12 _ _ ?_
  clear hK20 K19
  clear hJ18 J17
  clear hK12 K11
  refine WC_seq (fun K48 hK49 => ?_)
  refine WC_region ?_
  refine WL_val (dd := some 29) rfl rfl rfl (r_loadW rfl tb_ag69 rfl hm1_0) ?_
  refine WL_step (dd := none) rfl rfl rfl (Y_storeW rfl rfl tb_ag69 rfl hm0_0 rfl (by rfl) (fun W50 hG51 hm52 => ?_))
  replace hB := below_grown hB hG51 (Nat.le_refl _) (fun j hj => by cases hj; exact lo_b0_0)
  replace hm1_0 := At.grownNe hm1_0 (Ne.symm ne_b0_0_b1_0) hG51
  clear hG51 hm0_0
  have hm0_0 := hm52
  clear hm52
  refine WL_nil ?_
  refine hK49 _ _ ?_
  clear hK49 K48
  refine WC_ret ?_
  repeat (first | refine thenQ_ret ?_ | refine blockQ_ret ?_)
  refine ret_c rfl tb_ag69 hm0_0 rfl ?_
  refine ⟨hB, ?_⟩
  obtain rfl : i = 4 := by omega
  rfl

theorem C_drawkniferef01_All (n : Int) (w : World) (h0 : 0 ≤ n) (h1 : n ≤ 8) :
    Fn Try.prog 104 #[.int .i64 n] w fun v w' => OwT encB 1 4 w' w.heap.size v (firstF (2 ^ n.toNat)) := by
 refine Fn_intro (n := 17) Try.func104 rfl rfl (Nat.le_of_ble_eq_true rfl) ?_
 have hB : Below w.heap.size w w := Below.refl _ _
 obtain ⟨n, rfl⟩ := Int.eq_ofNat_of_zero_le h0
 have hn : n ≤ 8 := by omega
 have h8 := pow8 hn
 refine WC_seq (fun K1 hK2 => ?_)
 refine WC_region ?_
 refine WL_val (dd := some 2) rfl rfl rfl (r_assign (v := .slice none 0 0) rfl) ?_
 refine WL_nil ?_
 refine hK2 _ _ ?_
 clear hK2 K1
 refine WC_seq (fun K3 hK4 => ?_)
 refine WC_region ?_
 refine WL_step (dd := some 5) rfl rfl rfl (Y_make (n := 256) (N := w.heap.size) rfl rfl tb_el122 tb_z4 (by decide) (by decide) (Below.size hB) (fun v1_0 W5 hE6 ho1_0 => ?_))
 replace ho1_0 := OwT.made encB_len false rfl (by decide) ho1_0
 replace hB := below_ext hB hE6 (Nat.le_refl _)
 clear hE6
 rw [firstF_zero] at ho1_0
 refine WL_val (dd := some 3) rfl rfl rfl (r_assign (v := v1_0) rfl) ?_
 refine WL_nil ?_
 refine hK4 _ _ ?_
 clear hK4 K3
 refine WC_seq (fun K7 hK8 => ?_)
 refine WC_seq (fun K9 hK10 => ?_)
 refine WC_region ?_
 refine WL_val (dd := some 4) rfl rfl rfl (r_assign (v := .int .i64 0) rfl) ?_
 refine WL_nil ?_
 refine hK10 _ _ ?_
 clear hK10 K9
 refine WC_block ?_
 refine WC_loop (σ := (Nat)) [4, 6, 7, 8, 9, 10, 11, 12, 13, 14, 15] (fun k => [(4, .int .i64 (k : Int))]) (fun k W => (Below w.heap.size w W) ∧ (OwT encB 1 4 W w.heap.size v1_0 (firstF k)) ∧ (k ≤ 2 ^ n) ∧ (True)) (fun k => 2 ^ n - k) (0) ⟨rfl, trivial⟩ ⟨hB, ho1_0, (Nat.zero_le _), trivial⟩ ?_
 clear hB ho1_0
 rintro k g12 W11 ⟨hB, ho, hk, _⟩ J13 hJ14
 refine WC_seq (fun K15 hK16 => ?_)
 refine WC_seq (fun K17 hK18 => ?_)
 refine WC_region ?_
 refine WL_val (dd := some 6) rfl rfl rfl (r_move (v := .int .i64 _) rfl) ?_
 refine WL_val (dd := some 7) rfl rfl rfl (r_convN rfl Try.underlying3 Try.underlying67 (by simp only [topN]; omega)) ?_
 refine WL_val (dd := some 8) rfl rfl rfl (r_move (v := .int .i64 _) rfl) ?_
 refine WL_call (dd := some 9) rfl rfl rfl (r_call1 tb_c125 (v0 := .int .i64 _) rfl) (C_drawkniferef01_power _ _ (by first | assumption | omega)) (fun v3_3 W19 hE20 hP3_3 => ?_)
 have hsz21 := (Below.size hB)
 replace hB := below_ext hB hE20 (Nat.le_refl _)
 replace ho := hE20.ow ho
 clear hE20
 clear hsz21
 obtain rfl := hP3_3
 refine WL_val (dd := some 10) rfl rfl rfl (r_lss rfl rfl) ?_
 refine WL_nil ?_
 refine hK18 _ _ ?_
 clear hK18 K17
 refine WC_cond (b := _) rfl (fun hc0 => ?_) (fun hc0 => ?_)
 ·
  try with_reducible replace hc0 := of_decide_eq_true hc0
  refine WC_skip ?_
  refine hK16 _ _ ?_
  clear hK16 K15
  refine WC_seq (fun K22 hK23 => ?_)
  refine WC_block ?_
  refine WC_region ?_
  refine WL_val (dd := some 13) rfl rfl rfl (r_move (v := v1_0) rfl) ?_
  refine WL_val (dd := some 14) rfl rfl rfl (r_move (v := .int .i64 _) rfl) ?_
  refine WL_val (dd := some 15) rfl rfl rfl (r_idxS (v := v1_0) rfl ho.sl rfl tb_el122 (by omega) (by first | omega | (simp only [flagsTo_len, litsTo_len, firstF_len, ptF_len]; omega))) ?_
  refine WL_step (dd := none) rfl rfl rfl (Y_storeE (v := v1_0) (u := .bool true) (a := true) (j := _) rfl rfl (.inl ⟨tb_sc4, rfl⟩) encB_len rfl rfl ho (by omega) (by first | omega | (simp only [flagsTo_len, litsTo_len, firstF_len, ptF_len]; omega)) (fun W24 hG25 hm26 => ?_))
  replace hB := below_grown hB hG25 (Nat.le_refl _) (fun j hj => (OwT.lt ho j hj))
  clear hG25 ho
  have ho := hm26
  clear hm26
  rw [firstF_set] at ho
  refine WL_nil ?_
  refine hK23 _ _ ?_
  clear hK23 K22
  refine WC_region ?_
  refine WL_val (dd := some 11) rfl rfl rfl (r_move (v := .int .i64 _) rfl) ?_
  refine WL_val (dd := some 12) rfl rfl rfl (r_addI rfl rfl (by omega) (by omega)) ?_
  refine WL_val (dd := some 4) rfl rfl rfl (r_assign (v := .int .i64 _) rfl) ?_
  refine WL_nil ?_
  refine hJ14 _ _ (k + 1) ?_ ?_ ?_ ?_
  · repeat (first | exact agree.mask _ _ _ | refine agree.updo ?_ rfl _ | refine agree.updL ?_ _ rfl | refine agree.maskS rfl ?_)
  · exact ⟨rfl, trivial⟩
  · exact ⟨hB, (by exact ho), (by omega), trivial⟩
  · first | omega | (dsimp only; omega)
 ·
  try with_reducible replace hc0 := of_decide_eq_false hc0
  refine WC_exit ?_
  refine hK8 _ _ ?_
  clear hK16 K15
  clear hJ14 J13
  clear hK8 K7
  refine WC_seq (fun K27 hK28 => ?_)
  refine WC_region ?_
  refine WL_val (dd := some 16) rfl rfl rfl (r_move (v := v1_0) rfl) ?_
  refine WL_val (dd := some 2) rfl rfl rfl (r_assign (v := v1_0) rfl) ?_
  refine WL_nil ?_
  refine hK28 _ _ ?_
  clear hK28 K27
  refine WC_ret ?_
  repeat (first | refine thenQ_ret ?_ | refine blockQ_ret ?_)
  refine ret_t (v := v1_0) rfl ?_
  refine ⟨hB, ?_⟩
  obtain rfl : k = 2 ^ n := by omega
  exact ho

theorem C_drawkniferef01_Within (a b : Nat) (w : World) :
    Fn Try.prog 102 #[setV a, setV b] w fun v w' => v = .bool (withinB a b) := by
 refine Fn_intro (n := 27) Try.func102 rfl rfl (Nat.le_of_ble_eq_true rfl) ?_
 have hB : Below w.heap.size w w := Below.refl _ _
 refine WC_seq (fun K1 hK2 => ?_)
 refine WC_region ?_
 refine WL_step (dd := some 2) rfl rfl rfl (Y_box (c := #[_, _, _, _]) rfl rfl (fun b0_0 W3 hb4 hE5 hm0_0 => ?_))
 have lo_b0_0 : w.heap.size ≤ b0_0 := hb4 ▸ (Below.size hB)
 clear hb4
 replace hB := below_ext hB hE5 (Nat.le_refl _)
 clear hE5
 refine WL_step (dd := some 3) rfl rfl rfl (Y_box (c := #[_, _, _, _]) rfl rfl (fun b0_1 W6 hb7 hE8 hm0_1 => ?_))
 have lo_b0_1 : w.heap.size ≤ b0_1 := hb7 ▸ (Below.size hB)
 have ne_b0_0_b0_1 : b0_0 ≠ b0_1 := Nat.ne_of_lt (hb7 ▸ hm0_0.lt)
 clear hb7
 replace hB := below_ext hB hE8 (Nat.le_refl _)
 replace hm0_0 := hE8.at hm0_0
 clear hE8
 refine WL_val (dd := some 4) rfl rfl rfl (r_assign (v := .bool false) rfl) ?_
 refine WL_nil ?_
 refine hK2 _ _ ?_
 clear hK2 K1
 refine WC_seq (fun K9 hK10 => ?_)
 refine WC_draw Ext tb_mix (fun W11 hE12 => ?_)
 replace hB := below_ext hB hE12 (Nat.le_refl _)
 replace hm0_0 := hE12.at hm0_0
 replace hm0_1 := hE12.at hm0_1
 have hS := Ext.refl W11
 refine WT_take (dd := some 8) 0 rfl (by kernel_rfl) (by kernel_rfl) (by kernel_rfl) rfl rfl rfl (fun _wq hq => r_loadW rfl tb_ag69 rfl (hq.at hm0_0)) hS ?_
 refine WT_take (dd := some 10) 2 rfl (by kernel_rfl) (by kernel_rfl) (by kernel_rfl) rfl rfl rfl (fun _wq hq => r_loadW rfl tb_ag69 rfl (hq.at hm0_1)) hS ?_
 refine WT_one (dd := some 9) 1 (by kernel_rfl) rfl rfl rfl rfl (Yd.call (r_call1 tb_c128 (v0 := .agg #[_, _, _, _]) rfl) (C_drawkniferef01_Flags _ _) (fun v1_1 W13 hE14 hP1_1 => ⟨.inl (hS.trans hE14), ?_⟩))
 have hsz15 := (Below.size hB)
 have sv16_hB := hB
 have sv16_hm0_0 := hm0_0
 have sv16_hm0_1 := hm0_1
 replace hB := below_ext hB hE14 (Nat.le_refl _)
 replace hm0_0 := hE14.at hm0_0
 replace hm0_1 := hE14.at hm0_1
 replace hS := hS.trans hE14
 clear hE14
 replace hP1_1 := OwT.mono hP1_1 hsz15
 clear hsz15
 refine WT_one (dd := some 11) 3 (by kernel_rfl) rfl rfl rfl rfl (Yd.call (r_call1 tb_c128 (v0 := .agg #[_, _, _, _]) rfl) (C_drawkniferef01_Flags _ _) (fun v1_3 W17 hE18 hP1_3 => ⟨.inl (hS.trans hE18), ?_⟩))
 have hlt19 := OwT.lt2 hP1_1
 have hsz20 := (Below.size hB)
 replace hB := below_ext hB hE18 (Nat.le_refl _)
 replace hm0_0 := hE18.at hm0_0
 replace hm0_1 := hE18.at hm0_1
 replace hP1_1 := hE18.ow hP1_1
 replace hS := hS.trans hE18
 clear hE18
 have hap21 := Apart.new hlt19 hP1_3
 replace hP1_3 := OwT.mono hP1_3 hsz20
 clear hsz20
 refine WT_take (dd := some 5) 4 rfl (by kernel_rfl) (by kernel_rfl) (by kernel_rfl) rfl rfl rfl (fun _wq _hq => r_assign (v := v1_1) rfl) hS ?_
 refine WT_take (dd := some 6) 5 rfl (by kernel_rfl) (by kernel_rfl) (by kernel_rfl) rfl rfl rfl (fun _wq _hq => r_assign (v := v1_3) rfl) hS ?_
 refine WT_done (by kernel_rfl) ?_
 try clear sv16_hB sv16_hm0_0 sv16_hm0_1
 refine hK10 _ _ ?_
 clear hK10 K9
 refine WC_seq (fun K22 hK23 => ?_)
 refine WC_seq (fun K24 hK25 => ?_)
 refine WC_region ?_
 refine WL_val (dd := some 7) rfl rfl rfl (r_assign (v := .int .i64 0) rfl) ?_
 refine WL_nil ?_
 refine hK25 _ _ ?_
 clear hK25 K24
 refine WC_block ?_
 refine WC_loop (σ := (Nat)) [4, 7, 12, 13, 14, 15, 16, 17, 18, 19, 20, 21, 22, 23, 24, 25, 26] (fun k => [(7, .int .i64 (k : Int))]) (fun k W => (Below w.heap.size w W) ∧ (At W b0_0 _ 69) ∧ (At W b0_1 _ 69) ∧ (OwT encB 1 4 W w.heap.size v1_1 _) ∧ (Apart v1_1 v1_3) ∧ (OwT encB 1 4 W w.heap.size v1_3 _) ∧ (k ≤ 256) ∧ (∀ p, p < k → a.testBit p = true → b.testBit p = true) ∧ (True)) (fun k => 256 - k) (0) ⟨rfl, trivial⟩ ⟨hB, hm0_0, hm0_1, hP1_1, hap21, hP1_3, (by omega), upTo_zero, trivial⟩ ?_
 clear hB hm0_0 hm0_1 hP1_1 hap21 hP1_3
 rintro k g27 W26 ⟨hB, hm0_0, hm0_1, hP1_1, hap21, hP1_3, hk, hw, _⟩ J28 hJ29
 refine WC_seq (fun K30 hK31 => ?_)
 refine WC_seq (fun K32 hK33 => ?_)
 refine WC_region ?_
 refine WL_val (dd := some 12) rfl rfl rfl (r_move (v := .int .i64 _) rfl) ?_
 refine WL_val (dd := some 13) rfl rfl rfl (r_lss rfl rfl) ?_
 refine WL_nil ?_
 refine hK33 _ _ ?_
 clear hK33 K32
 refine WC_cond (b := _) rfl (fun hc0 => ?_) (fun hc0 => ?_)
 ·
  try with_reducible replace hc0 := of_decide_eq_true hc0
  refine WC_skip ?_
  refine hK31 _ _ ?_
  clear hK31 K30
  refine WC_seq (fun K34 hK35 => ?_)
  refine WC_block ?_
  refine WC_seq (fun K36 hK37 => ?_)
  refine WC_region ?_
  refine WL_val (dd := some 16) rfl rfl rfl (r_move (v := v1_1) rfl) ?_
  refine WL_val (dd := some 17) rfl rfl rfl (r_move (v := .int .i64 _) rfl) ?_
  refine WL_val (dd := some 18) rfl rfl rfl (r_idxS (v := v1_1) rfl hP1_1.sl rfl tb_el122 (by omega) (by first | omega | (simp only [flagsTo_len, litsTo_len, firstF_len, ptF_len]; omega))) ?_
  refine WL_val (dd := some 19) rfl rfl rfl (r_load1 (v := .bool _) rfl tb_sc4 (SlT.cell hP1_1.sl encB_len false (by omega) (by first | omega | (simp only [flagsTo_len, litsTo_len, firstF_len, ptF_len]; omega)) 0 rfl)) ?_
  refine WL_split (dd := some 20) rfl rfl rfl (r_move (v := .bool _) rfl) (fun hs5_4 => ?_) (fun hs5_4 => ?_)
  ·
   try with_reducible replace hs5_4 := of_decide_eq_true hs5_4
   refine WL_val (dd := some 21) rfl rfl rfl (r_move (v := v1_3) rfl) ?_
   refine WL_val (dd := some 22) rfl rfl rfl (r_move (v := .int .i64 _) rfl) ?_
   refine WL_val (dd := some 23) rfl rfl rfl (r_idxS (v := v1_3) rfl hP1_3.sl rfl tb_el122 (by omega) (by first | omega | (simp only [flagsTo_len, litsTo_len, firstF_len, ptF_len]; omega))) ?_
   refine WL_val (dd := some 24) rfl rfl rfl (r_load1 (v := .bool _) rfl tb_sc4 (SlT.cell hP1_3.sl encB_len false (by omega) (by first | omega | (simp only [flagsTo_len, litsTo_len, firstF_len, ptF_len]; omega)) 0 rfl)) ?_
   refine WL_val (dd := some 25) rfl rfl rfl (r_not rfl) ?_
   refine WL_val (dd := some 26) rfl rfl rfl (r_pick_t rfl (v := .bool _) rfl) ?_
   refine WL_nil ?_
   refine hK37 _ _ ?_
   clear hK37 K36
   refine WC_cond (b := _) rfl (fun hc1 => ?_) (fun hc1 => ?_)
   ·
    try with_reducible replace hc1 := of_decide_eq_true hc1
    refine WC_seq (fun K38 hK39 => ?_)
    refine WC_region ?_
    refine WL_val (dd := some 4) rfl rfl rfl (r_assign (v := .bool false) rfl) ?_
    refine WL_nil ?_
    refine hK39 _ _ ?_
    clear hK39 K38
    refine WC_ret ?_
    repeat (first | refine thenQ_ret ?_ | refine blockQ_ret ?_)
    try clear hK35 K34
    try clear hJ29 J28
    try clear hK23 K22
    refine ret_t (v := .bool false) rfl ?_
    refine ⟨hB, ?_⟩
    exact congrArg Value.bool (within_false (by omega) hs5_4 hc1).symm
   ·
    try with_reducible replace hc1 := of_decide_eq_false hc1
    refine WC_skip ?_
    refine hK35 _ _ ?_
    clear hK35 K34
    refine WC_region ?_
    refine WL_val (dd := some 14) rfl rfl rfl (r_move (v := .int .i64 _) rfl) ?_
    refine WL_val (dd := some 15) rfl rfl rfl (r_addI rfl rfl (by omega) (by omega)) ?_
    refine WL_val (dd := some 7) rfl rfl rfl (r_assign (v := .int .i64 _) rfl) ?_
    refine WL_nil ?_
    refine hJ29 _ _ (k + 1) ?_ ?_ ?_ ?_
    · repeat (first | exact agree.mask _ _ _ | refine agree.updo ?_ rfl _ | refine agree.updL ?_ _ rfl | refine agree.maskS rfl ?_)
    · exact ⟨rfl, trivial⟩
    · exact ⟨hB, hm0_0, hm0_1, hP1_1, hap21, hP1_3, (by omega), (upTo_succ hw (within_step (by omega) (by first | exact .inl hs5_4 | exact .inr hc1))), trivial⟩
    · first | omega | (dsimp only; omega)
  ·
   try with_reducible replace hs5_4 := of_decide_eq_false hs5_4
   refine WL_skip (dd := some 21) rfl rfl rfl ?_
   refine WL_skip (dd := some 22) rfl rfl rfl ?_
   refine WL_skip (dd := some 23) rfl rfl rfl ?_
   refine WL_skip (dd := some 24) rfl rfl rfl ?_
   refine WL_skip (dd := some 25) rfl rfl rfl ?_
   refine WL_val (dd := some 26) rfl rfl rfl (r_pick_f rfl (v := .bool false) rfl) ?_
   refine WL_nil ?_
   refine hK37 _ _ ?_
   clear hK37 K36
   refine WC_cond_false rfl ?_
   refine WC_skip ?_
   refine hK35 _ _ ?_
   clear hK35 K34
   refine WC_region ?_
   refine WL_val (dd := some 14) rfl rfl rfl (r_move (v := .int .i64 _) rfl) ?_
   refine WL_val (dd := some 15) rfl rfl rfl (r_addI rfl rfl (by omega) (by omega)) ?_
   refine WL_val (dd := some 7) rfl rfl rfl (r_assign (v := .int .i64 _) rfl) ?_
   refine WL_nil ?_
   refine hJ29 _ _ (k + 1) ?_ ?_ ?_ ?_
   · repeat (first | exact agree.mask _ _ _ | refine agree.updo ?_ rfl _ | refine agree.updL ?_ _ rfl | refine agree.maskS rfl ?_)
   · exact ⟨rfl, trivial⟩
   · exact ⟨hB, hm0_0, hm0_1, hP1_1, hap21, hP1_3, (by omega), (upTo_succ hw (within_step (by omega) (by first | exact .inl hs5_4 | exact .inr hc1))), trivial⟩
   · first | omega | (dsimp only; omega)
 ·
  try with_reducible replace hc0 := of_decide_eq_false hc0
  refine WC_exit ?_
  refine hK23 _ _ ?_
  clear hK31 K30
  clear hJ29 J28
  clear hK23 K22
  refine WC_seq (fun K40 hK41 => ?_)
  refine WC_region ?_
  refine WL_val (dd := some 4) rfl rfl rfl (r_assign (v := .bool true) rfl) ?_
  refine WL_nil ?_
  refine hK41 _ _ ?_
  clear hK41 K40
  refine WC_ret ?_
  repeat (first | refine thenQ_ret ?_ | refine blockQ_ret ?_)
  refine ret_t (v := .bool true) rfl ?_
  refine ⟨hB, ?_⟩
  exact congrArg Value.bool (within_true (by omega) hw).symm

theorem C_drawkniferef02_Literals (m u : Nat) (w : World) (hm : m < 256) (hv : u < 256) :
    Fn Try.prog 97 #[.agg #[.int .u8 (m : Int), .int .u8 (u : Int)]] w fun v w' => OwT encI 1 3 w' w.heap.size v (litsS m u) := by
 refine Fn_intro (n := 32) Try.func97 rfl rfl (Nat.le_of_ble_eq_true rfl) ?_
 have hB : Below w.heap.size w w := Below.refl _ _
 refine WC_seq (fun K1 hK2 => ?_)
 refine WC_region ?_
 refine WL_step (dd := some 1) rfl rfl rfl (Y_box (c := #[_, _]) rfl rfl (fun b0_0 W3 hb4 hE5 hm0_0 => ?_))
 have lo_b0_0 : w.heap.size ≤ b0_0 := hb4 ▸ (Below.size hB)
 clear hb4
 replace hB := below_ext hB hE5 (Nat.le_refl _)
 clear hE5
 refine WL_val (dd := some 2) rfl rfl rfl (r_assign (v := .slice none 0 0) rfl) ?_
 refine WL_nil ?_
 refine hK2 _ _ ?_
 clear hK2 K1
 refine WC_seq (fun K6 hK7 => ?_)
 refine WC_region ?_
 refine WL_val (dd := some 3) rfl rfl rfl (r_assign (v := .slice none 0 0) rfl) ?_
 refine WL_nil ?_
 refine hK7 _ _ ?_
 clear hK7 K6
 refine WC_seq (fun K8 hK9 => ?_)
 refine WC_draw Ext tb_mix (fun W10 hE11 => ?_)
 replace hB := below_ext hB hE11 (Nat.le_refl _)
 replace hm0_0 := hE11.at hm0_0
 have hS := Ext.refl W10
 refine WT_take (dd := some 7) 0 rfl (by kernel_rfl) (by kernel_rfl) (by kernel_rfl) rfl rfl rfl (fun _wq _hq => r_fieldAddr (b := _) (o := _) rfl tb_fo55_0) hS ?_
 refine WT_take (dd := some 8) 1 rfl (by kernel_rfl) (by kernel_rfl) (by kernel_rfl) rfl rfl rfl (fun _wq hq => r_load1 (v := .int .u8 _) rfl tb_sc5 (At.cell (hq.at hm0_0) rfl)) hS ?_
 refine WT_take (dd := some 9) 2 rfl (by kernel_rfl) (by kernel_rfl) (by kernel_rfl) rfl rfl rfl (fun _wq _hq => r_fieldAddr (b := _) (o := _) rfl tb_fo55_1) hS ?_
 refine WT_take (dd := some 10) 3 rfl (by kernel_rfl) (by kernel_rfl) (by kernel_rfl) rfl rfl rfl (fun _wq hq => r_load1 (v := .int .u8 _) rfl tb_sc5 (At.cell (hq.at hm0_0) rfl)) hS ?_
 refine WT_take (dd := some 4) 4 rfl (by kernel_rfl) (by kernel_rfl) (by kernel_rfl) rfl rfl rfl (fun _wq _hq => r_assign (v := .int .u8 _) rfl) hS ?_
 refine WT_take (dd := some 5) 5 rfl (by kernel_rfl) (by kernel_rfl) (by kernel_rfl) rfl rfl rfl (fun _wq _hq => r_assign (v := .int .u8 _) rfl) hS ?_
 refine WT_done (by kernel_rfl) ?_
 refine hK9 _ _ ?_
 clear hK9 K8
 refine WC_seq (fun K12 hK13 => ?_)
 refine WC_seq (fun K14 hK15 => ?_)
 refine WC_region ?_
 refine WL_val (dd := some 6) rfl rfl rfl (r_assign (v := .int .i64 0) rfl) ?_
 refine WL_nil ?_
 refine hK15 _ _ ?_
 clear hK15 K14
 refine WC_block ?_
 refine WC_loop (σ := (Nat) × (Value)) [3, 4, 5, 6, 11, 12, 13, 14, 15, 16, 17, 18, 19, 20, 21, 22, 23, 24, 25, 26, 27, 28, 29, 30] (fun (k, v0) => [(6, .int .i64 (k : Int)), (4, .int .u8 ((m / 2 ^ k : Nat) : Int)), (5, .int .u8 ((u / 2 ^ k : Nat) : Int)), (3, v0)]) (fun sg W => match sg with | (k, v0) => (Below w.heap.size w W) ∧ (At W b0_0 _ 55) ∧ (OwT encI 1 3 W w.heap.size v0 (litsTo m u k)) ∧ (k ≤ 8) ∧ (True)) (fun (k, v0) => 8 - k) ((0, .slice none 0 0)) ⟨rfl, congrArg (fun x : Nat => Value.int .u8 (x : Int)) (Nat.div_one _).symm, congrArg (fun x : Nat => Value.int .u8 (x : Int)) (Nat.div_one _).symm, rfl, trivial⟩ ⟨hB, hm0_0, OwT.nil, (by omega), trivial⟩ ?_
 clear hB hm0_0
 rintro ⟨k, v0⟩ g17 W16 ⟨hB, hm0_0, ho, hk, _⟩ J18 hJ19
 refine WC_seq (fun K20 hK21 => ?_)
 refine WC_seq (fun K22 hK23 => ?_)
 refine WC_region ?_
 refine WL_val (dd := some 11) rfl rfl rfl (r_move (v := .int .i64 _) rfl) ?_
 refine WL_val (dd := some 12) rfl rfl rfl (r_lss rfl rfl) ?_
 refine WL_nil ?_
 refine hK23 _ _ ?_
 clear hK23 K22
 refine WC_cond (b := _) rfl (fun hc0 => ?_) (fun hc0 => ?_)
 ·
  try with_reducible replace hc0 := of_decide_eq_true hc0
  refine WC_skip ?_
  refine hK21 _ _ ?_
  clear hK21 K20
  refine WC_seq (fun K24 hK25 => ?_)
  refine WC_block ?_
  refine WC_seq (fun K26 hK27 => ?_)
  refine WC_seq (fun K28 hK29 => ?_)
  have hmk : m / 2 ^ k < 256 := Nat.lt_of_le_of_lt (Nat.div_le_self _ _) hm
  have hvk : u / 2 ^ k < 256 := Nat.lt_of_le_of_lt (Nat.div_le_self _ _) hv
  refine WC_region ?_
  refine WL_val (dd := some 15) rfl rfl rfl (r_move (v := .int .u8 _) rfl) ?_
  refine WL_val (dd := some 16) rfl rfl rfl (r_remN (n := 2) rfl rfl rfl (by omega)) ?_
  refine WL_val (dd := some 17) rfl rfl rfl (r_eql rfl rfl) ?_
  refine WL_nil ?_
  refine hK29 _ _ ?_
  clear hK29 K28
  refine WC_cond (b := _) rfl (fun hc1 => ?_) (fun hc1 => ?_)
  ·
   try with_reducible replace hc1 := of_decide_eq_true hc1
   refine WC_region ?_
   refine WL_val (dd := some 18) rfl rfl rfl (r_move (v := v0) rfl) ?_
   refine WL_step (dd := some 19) rfl rfl rfl (Y_lit1 (u := .int .i64 2) rfl tb_el22 tb_zs3 rfl (by decide) (by decide) (fun b7_1 W30 hb31 hE32 hm7_1 => ?_))
   have lo_b7_1 : w.heap.size ≤ b7_1 := hb31 ▸ (Below.size hB)
   have no_v0_b7_1 := OwT.neB (b := b7_1) ho (Nat.le_of_eq hb31.symm)
   clear hb31
   replace hB := below_ext hB hE32 (Nat.le_refl _)
   replace hm0_0 := hE32.at hm0_0
   replace ho := hE32.ow ho
   clear hE32
   refine WL_step (dd := some 20) rfl rfl rfl (Y_append (v := v0) (v2 := .slice (some ⟨b7_1, 0, none⟩) 1 1) rfl rfl tb_el22 tb_zs3 (by decide) ho (sl_lit1 hm7_1 rfl) rfl (by have := Below.size hB; omega) (by simp only [litsTo_len]; omega) (by simp only [litsTo_len]; omega) (fun v7_2 W33 hG34 ho7_2 => ?_))
   replace ho7_2 := OwT.snoc (enc := encI) (x := _) rfl rfl rfl rfl ho7_2
   clear hm7_1
   replace hB := below_grown hB hG34 (Nat.le_refl _) (fun j hj => (OwT.lt ho j hj))
   replace hm0_0 := At.grownOw hm0_0 ho hG34 (by decide)
   clear hG34
   clear ho
   refine WL_val (dd := some 3) rfl rfl rfl (r_assign (v := v7_2) rfl) ?_
   refine WL_nil ?_
   refine hK27 _ _ ?_
   clear hK27 K26
   refine WC_seq (fun K36 hK37 => ?_)
   refine WC_region ?_
   refine WL_val (dd := some 27) rfl rfl rfl (r_move (v := .int .u8 _) rfl) ?_
   refine WL_val (dd := some 28) rfl rfl rfl (r_quoN (n := 2) rfl rfl rfl (by omega) (by first | assumption | (simp only [topN]; omega) | (simp only [topN]; decide))) ?_
   refine WL_val (dd := some 4) rfl rfl rfl (r_assign (v := .int .u8 _) rfl) ?_
   refine WL_nil ?_
   refine hK37 _ _ ?_
   clear hK37 K36
   refine WC_region ?_
   refine WL_val (dd := some 29) rfl rfl rfl (r_move (v := .int .u8 _) rfl) ?_
   refine WL_val (dd := some 30) rfl rfl rfl (r_quoN (n := 2) rfl rfl rfl (by omega) (by first | assumption | (simp only [topN]; omega) | (simp only [topN]; decide))) ?_
   refine WL_val (dd := some 5) rfl rfl rfl (r_assign (v := .int .u8 _) rfl) ?_
   refine WL_nil ?_
   refine hK25 _ _ ?_
   clear hK25 K24
   refine WC_region ?_
   refine WL_val (dd := some 13) rfl rfl rfl (r_move (v := .int .i64 _) rfl) ?_
   refine WL_val (dd := some 14) rfl rfl rfl (r_addI rfl rfl (by omega) (by omega)) ?_
   refine WL_val (dd := some 6) rfl rfl rfl (r_assign (v := .int .i64 _) rfl) ?_
   refine WL_nil ?_
   refine hJ19 _ _ ((k + 1, v7_2)) ?_ ?_ ?_ ?_
   · repeat (first | exact agree.mask _ _ _ | refine agree.updo ?_ rfl _ | refine agree.updL ?_ _ rfl | refine agree.maskS rfl ?_)
   · exact ⟨rfl, congrArg (fun x : Nat => Value.int .u8 (x : Int)) (div_pow m k), congrArg (fun x : Nat => Value.int .u8 (x : Int)) (div_pow u k), rfl, trivial⟩
   · exact ⟨hB, hm0_0, (by first | (rw [litsTo_succ, lit, if_pos (by omega)]; exact ho7_2) | (rw [litsTo_succ, lit, if_neg (by omega)]; exact ho7_2)), (by omega), trivial⟩
   · show 8 - (k + 1) < 8 - k; omega
  ·
   try with_reducible replace hc1 := of_decide_eq_false hc1
   refine WC_region ?_
   refine WL_val (dd := some 21) rfl rfl rfl (r_move (v := v0) rfl) ?_
   refine WL_val (dd := some 22) rfl rfl rfl (r_move (v := .int .u8 _) rfl) ?_
   refine WL_val (dd := some 23) rfl rfl rfl (r_remN (n := 2) rfl rfl rfl (by omega)) ?_
   refine WL_val (dd := some 24) rfl rfl rfl (r_convN rfl Try.underlying5 Try.underlying3 (by simp only [topN]; omega)) ?_
   refine WL_step (dd := some 25) rfl rfl rfl (Y_lit1 (u := .int .i64 _) rfl tb_el22 tb_zs3 rfl (by decide) (by decide) (fun b8_4 W38 hb39 hE40 hm8_4 => ?_))
   have lo_b8_4 : w.heap.size ≤ b8_4 := hb39 ▸ (Below.size hB)
   have no_v0_b8_4 := OwT.neB (b := b8_4) ho (Nat.le_of_eq hb39.symm)
   clear hb39
   replace hB := below_ext hB hE40 (Nat.le_refl _)
   replace hm0_0 := hE40.at hm0_0
   replace ho := hE40.ow ho
   clear hE40
   refine WL_step (dd := some 26) rfl rfl rfl (Y_append (v := v0) (v2 := .slice (some ⟨b8_4, 0, none⟩) 1 1) rfl rfl tb_el22 tb_zs3 (by decide) ho (sl_lit1 hm8_4 rfl) rfl (by have := Below.size hB; omega) (by simp only [litsTo_len]; omega) (by simp only [litsTo_len]; omega) (fun v8_5 W41 hG42 ho8_5 => ?_))
   replace ho8_5 := OwT.snoc (enc := encI) (x := _) rfl rfl rfl rfl ho8_5
   clear hm8_4
   replace hB := below_grown hB hG42 (Nat.le_refl _) (fun j hj => (OwT.lt ho j hj))
   replace hm0_0 := At.grownOw hm0_0 ho hG42 (by decide)
   clear hG42
   clear ho
   refine WL_val (dd := some 3) rfl rfl rfl (r_assign (v := v8_5) rfl) ?_
   refine WL_nil ?_
   refine hK27 _ _ ?_
   clear hK27 K26
   refine WC_seq (fun K44 hK45 => ?_)
   refine WC_region ?_
   refine WL_val (dd := some 27) rfl rfl rfl (r_move (v := .int .u8 _) rfl) ?_
   refine WL_val (dd := some 28) rfl rfl rfl (r_quoN (n := 2) rfl rfl rfl (by omega) (by first | assumption | (simp only [topN]; omega) | (simp only [topN]; decide))) ?_
   refine WL_val (dd := some 4) rfl rfl rfl (r_assign (v := .int .u8 _) rfl) ?_
   refine WL_nil ?_
   refine hK45 _ _ ?_
   clear hK45 K44
   refine WC_region ?_
   refine WL_val (dd := some 29) rfl rfl rfl (r_move (v := .int .u8 _) rfl) ?_
   refine WL_val (dd := some 30) rfl rfl rfl (r_quoN (n := 2) rfl rfl rfl (by omega) (by first | assumption | (simp only [topN]; omega) | (simp only [topN]; decide))) ?_
   refine WL_val (dd := some 5) rfl rfl rfl (r_assign (v := .int .u8 _) rfl) ?_
   refine WL_nil ?_
   refine hK25 _ _ ?_
   clear hK25 K24
   refine WC_region ?_
   refine WL_val (dd := some 13) rfl rfl rfl (r_move (v := .int .i64 _) rfl) ?_
   refine WL_val (dd := some 14) rfl rfl rfl (r_addI rfl rfl (by omega) (by omega)) ?_
   refine WL_val (dd := some 6) rfl rfl rfl (r_assign (v := .int .i64 _) rfl) ?_
   refine WL_nil ?_
   refine hJ19 _ _ ((k + 1, v8_5)) ?_ ?_ ?_ ?_
   · repeat (first | exact agree.mask _ _ _ | refine agree.updo ?_ rfl _ | refine agree.updL ?_ _ rfl | refine agree.maskS rfl ?_)
   · exact ⟨rfl, congrArg (fun x : Nat => Value.int .u8 (x : Int)) (div_pow m k), congrArg (fun x : Nat => Value.int .u8 (x : Int)) (div_pow u k), rfl, trivial⟩
   · exact ⟨hB, hm0_0, (by first | (rw [litsTo_succ, lit, if_pos (by omega)]; exact ho8_5) | (rw [litsTo_succ, lit, if_neg (by omega)]; exact ho8_5)), (by omega), trivial⟩
   · show 8 - (k + 1) < 8 - k; omega
 ·
  try with_reducible replace hc0 := of_decide_eq_false hc0
  refine WC_exit ?_
  refine hK13 _ _ ?_
  clear hK21 K20
  clear hJ19 J18
  clear hK13 K12
  refine WC_seq (fun K46 hK47 => ?_)
  refine WC_region ?_
  refine WL_val (dd := some 31) rfl rfl rfl (r_move (v := v0) rfl) ?_
  refine WL_val (dd := some 2) rfl rfl rfl (r_assign (v := v0) rfl) ?_
  refine WL_nil ?_
  refine hK47 _ _ ?_
  clear hK47 K46
  refine WC_ret ?_
  repeat (first | refine thenQ_ret ?_ | refine blockQ_ret ?_)
  refine ret_t (v := v0) rfl ?_
  refine ⟨hB, ?_⟩
  obtain rfl : k = 8 := by omega
  exact ho

end Go.Proofs.Ytpamgfbecgjjeaa
