/-
  The walks of the family of a set's primes.
-/
import Derived.Test.YtpamgfbecgjjeaaProg
import Derived.Test.YtpamgfbecgjjeaaWSet
import Derived.Test.YtpamgfbecgjjeaaWZdd3
import Derived.Test.YtpamgfbecgjjeaaWZdd5
import Derived.Test.YtpamgfbecgjjeaaT3
namespace Go.Proofs.Ytpamgfbecgjjeaa
set_option linter.unusedVariables false
set_option linter.unusedSimpArgs false
open Go Go.RowKit

theorem tb_fo128_1 : fieldO Try.prog 128 1 = some 1 := by kernel_rfl
theorem tb_sc29 : scalarB Try.prog 29 = true := by kernel_rfl
theorem tb_fo128_0 : fieldO Try.prog 128 0 = some 0 := by kernel_rfl
theorem tb_c32 : callB Try.prog 32 = true := by kernel_rfl
theorem tb_c114 : callB Try.prog 114 = true := by kernel_rfl
theorem tb_c23 : callB Try.prog 23 = true := by kernel_rfl
theorem tb_z156 : zeroI Try.prog 156 = some (.agg #[.int .u64 0, .int .u64 0, .int .u64 0, .int .u64 0, .int .u64 0, .int .u64 0, .int .u64 0, .int .u64 0]) := by kernel_rfl
theorem tb_c132 : callB Try.prog 132 = true := by kernel_rfl
theorem tb_c131 : callB Try.prog 131 = true := by kernel_rfl
theorem tb_ar156 : arrI Try.prog 156 = some (2, 4) := by kernel_rfl
theorem tb_c113 : callB Try.prog 113 = true := by kernel_rfl
theorem tb_c107 : callB Try.prog 107 = true := by kernel_rfl
theorem tb_ag156 : aggN Try.prog 156 = some 8 := by kernel_rfl
theorem tb_c35 : callB Try.prog 35 = true := by kernel_rfl
theorem tb_c133 : callB Try.prog 133 = true := by kernel_rfl

theorem C_tagged_both (s i : Nat) (w : World) (hi : i < 8) :
    Fn Try.prog 131 #[setV s, .int .i64 (i : Int)] w fun v w' => v = setV (sideTo (listS s) s i (listS s).length) := by
 refine Fn_intro (n := 24) Try.func131 rfl rfl (Nat.le_of_ble_eq_true rfl) ?_
 have hB : Below w.heap.size w w := Below.refl _ _
 refine WC_seq (fun K1 hK2 => ?_)
 refine WC_region ?_
 refine WL_step (dd := some 2) rfl rfl rfl (Y_box (c := #[_, _, _, _]) rfl rfl (fun b0_0 W3 hb4 hE5 hm0_0 => ?_))
 have lo_b0_0 : w.heap.size ≤ b0_0 := hb4 ▸ (Below.size hB)
 clear hb4
 replace hB := below_ext hB hE5 (Nat.le_refl _)
 clear hE5
 refine WL_step (dd := some 4) rfl rfl rfl (Y_alloc tb_z69 rfl (fun b0_1 W6 hb7 hE8 hm0_1 => ?_))
 have lo_b0_1 : w.heap.size ≤ b0_1 := hb7 ▸ (Below.size hB)
 have ne_b0_0_b0_1 : b0_0 ≠ b0_1 := Nat.ne_of_lt (hb7 ▸ hm0_0.lt)
 clear hb7
 replace hB := below_ext hB hE8 (Nat.le_refl _)
 replace hm0_0 := hE8.at hm0_0
 clear hE8
 replace hm0_1 : At W6 b0_1 #[wv 0 0, wv 0 1, wv 0 2, wv 0 3] 69 := hm0_1
 refine WL_nil ?_
 refine hK2 _ _ ?_
 clear hK2 K1
 refine WC_seq (fun K9 hK10 => ?_)
 refine WC_region ?_
 refine WL_val (dd := some 8) rfl rfl rfl (r_loadW rfl tb_ag69 rfl hm0_0) ?_
 refine WL_step (dd := some 5) rfl rfl rfl (Y_alloc tb_z69 rfl (fun b1_1 W11 hb12 hE13 hm1_1 => ?_))
 have lo_b1_1 : w.heap.size ≤ b1_1 := hb12 ▸ (Below.size hB)
 have ne_b0_0_b1_1 : b0_0 ≠ b1_1 := Nat.ne_of_lt (hb12 ▸ hm0_0.lt)
 have ne_b0_1_b1_1 : b0_1 ≠ b1_1 := Nat.ne_of_lt (hb12 ▸ hm0_1.lt)
 clear hb12
 replace hB := below_ext hB hE13 (Nat.le_refl _)
 replace hm0_0 := hE13.at hm0_0
 replace hm0_1 := hE13.at hm0_1
 clear hE13
 replace hm1_1 : At W11 b1_1 #[wv 0 0, wv 0 1, wv 0 2, wv 0 3] 69 := hm1_1
 refine WL_step (dd := none) rfl rfl rfl (Y_storeW rfl rfl tb_ag69 rfl hm1_1 rfl (by rfl) (fun W14 hG15 hm16 => ?_))
 replace hB := below_grown hB hG15 (Nat.le_refl _) (fun j hj => by cases hj; exact lo_b1_1)
 replace hm0_0 := At.grownNe hm0_0 ne_b0_0_b1_1 hG15
 replace hm0_1 := At.grownNe hm0_1 ne_b0_1_b1_1 hG15
 clear hG15 hm1_1
 have hm1_1 := hm16
 clear hm16
 refine WL_nil ?_
 refine hK10 _ _ ?_
 clear hK10 K9
 refine WC_seq (fun K17 hK18 => ?_)
 refine WC_seq (fun K19 hK20 => ?_)
 refine WC_region ?_
 refine WL_val (dd := some 9) rfl rfl rfl (r_loadW rfl tb_ag69 rfl hm0_0) ?_
 refine WL_call (dd := some 10) rfl rfl rfl (r_call1 tb_c108 (v0 := .agg #[_, _, _, _]) rfl) (C_set_List _ _) (fun v2_1 W21 hE22 hP2_1 => ?_)
 have hsz23 := (Below.size hB)
 replace hB := below_ext hB hE22 (Nat.le_refl _)
 replace hm0_0 := hE22.at hm0_0
 replace hm0_1 := hE22.at hm0_1
 replace hm1_1 := hE22.at hm1_1
 clear hE22
 replace hP2_1 := OwT.mono hP2_1 hsz23
 clear hsz23
 refine WL_val (dd := some 11) rfl rfl rfl (r_lenS (v := v2_1) rfl hP2_1.sl tb_el22) ?_
 refine WL_val (dd := some 12) rfl rfl rfl (r_move (v := .int .i64 0) rfl) ?_
 refine WL_nil ?_
 refine hK20 _ _ ?_
 clear hK20 K19
 refine WC_block ?_
 refine WC_loop (σ := (Nat)) [7, 12, 13, 14, 15, 16, 17, 18, 19, 20, 21, 22] (fun k => [(12, .int .i64 (k : Int))]) (fun k W => (Below w.heap.size w W) ∧ (At W b0_0 _ 69) ∧ (At W b0_1 _ 69) ∧ (OwT encI 1 3 W w.heap.size v2_1 _) ∧ (At W b1_1 #[wv (sideTo (listS s) s i k) 0, wv (sideTo (listS s) s i k) 1, wv (sideTo (listS s) s i k) 2, wv (sideTo (listS s) s i k) 3] 69) ∧ (k ≤ (listS s).length) ∧ (True)) (fun k => (listS s).length - k) (0) ⟨rfl, trivial⟩ ⟨hB, hm0_0, hm0_1, hP2_1, hm1_1, (Nat.zero_le _), trivial⟩ ?_
 clear hB hm0_0 hm0_1 hm1_1 hP2_1
 rintro k g25 W24 ⟨hB, hm0_0, hm0_1, hP2_1, hm1_1, hk, _⟩ J26 hJ27
 refine WC_seq (fun K28 hK29 => ?_)
 have hll := listS_len s
 refine WC_region ?_
 refine WL_val (dd := some 13) rfl rfl rfl (r_lss rfl rfl) ?_
 refine WL_nil ?_
 refine hK29 _ _ ?_
 clear hK29 K28
 refine WC_seq (fun K30 hK31 => ?_)
 refine WC_cond (b := _) rfl (fun hc0 => ?_) (fun hc0 => ?_)
 ·
  try with_reducible replace hc0 := of_decide_eq_true hc0
  refine WC_skip ?_
  refine hK31 _ _ ?_
  clear hK31 K30
  refine WC_seq (fun K32 hK33 => ?_)
  refine WC_block ?_
  refine WC_seq (fun K34 hK35 => ?_)
  obtain ⟨p, hp1, hp2, hp3⟩ := listS_get (s := s) (i := k) (by omega)
  have h7 := pow7 (show i < 8 by omega)
  refine WC_region ?_
  refine WL_val (dd := some 14) rfl rfl rfl (r_idxS (v := v2_1) rfl hP2_1.sl rfl tb_el22 (by omega) (by first | omega | (simp only [flagsTo_len, litsTo_len, firstF_len, ptF_len]; omega))) ?_
  refine WL_val (dd := some 15) rfl rfl rfl (r_load1 (v := .int .i64 _) rfl tb_sc3 (SlT.cell hP2_1.sl encI_len 0 (by omega) (by first | omega | (simp only [flagsTo_len, litsTo_len, firstF_len, ptF_len]; omega)) 0 rfl)) ?_
  refine WL_val (dd := some 7) rfl rfl rfl (r_assign (v := .int .i64 _) rfl) ?_
  refine WL_nil ?_
  refine hK35 _ _ ?_
  clear hK35 K34
  have hp4 : (listS s).getD (k : Int).toNat 0 = (p : Int) := hp3
  rw [hp4]
  refine WC_draw Ext tb_mix (fun W36 hE37 => ?_)
  replace hB := below_ext hB hE37 (Nat.le_refl _)
  replace hm0_0 := hE37.at hm0_0
  replace hm0_1 := hE37.at hm0_1
  replace hP2_1 := hE37.ow hP2_1
  replace hm1_1 := hE37.at hm1_1
  have hS := Ext.refl W36
  refine WT_take (dd := some 16) 0 rfl (by kernel_rfl) (by kernel_rfl) (by kernel_rfl) rfl rfl rfl (fun _wq hq => r_loadW rfl tb_ag69 rfl (hq.at hm1_1)) hS ?_
  refine WT_take (dd := some 17) 1 rfl (by kernel_rfl) (by kernel_rfl) (by kernel_rfl) rfl rfl rfl (fun _wq _hq => r_move (v := .int .i64 _) rfl) hS ?_
  refine WT_take (dd := some 18) 2 rfl (by kernel_rfl) (by kernel_rfl) (by kernel_rfl) rfl rfl rfl (fun _wq _hq => r_move (v := .int .i64 _) rfl) hS ?_
  refine WT_take (dd := some 19) 3 rfl (by kernel_rfl) (by kernel_rfl) (by kernel_rfl) rfl rfl rfl (fun _wq _hq => r_shl (m := 1) rfl rfl (by omega) (by simp only [IntKind.bits]; omega) (by simp only [topN, Int.toNat_natCast]; omega)) hS ?_
  refine WT_take (dd := some 20) 4 rfl (by kernel_rfl) (by kernel_rfl) (by kernel_rfl) rfl rfl rfl (fun _wq _hq => r_xor (n := _) rfl rfl rfl (by simp only [topN]; omega) (by simp only [topN, Int.toNat_natCast]; omega)) hS ?_
  refine WT_one (dd := some 21) 5 (by kernel_rfl) rfl rfl rfl rfl (Yd.call (r_call2 tb_c129 (v0 := .agg #[_, _, _, _]) rfl (v1 := .int .i64 _) rfl) (C_set_With _ _ _) (fun v5_5 W38 hE39 hP5_5 => ⟨.inl (hS.trans hE39), ?_⟩))
  have hsz40 := (Below.size hB)
  have sv41_hB := hB
  have sv41_hm0_0 := hm0_0
  have sv41_hm0_1 := hm0_1
  have sv41_hP2_1 := hP2_1
  have sv41_hm1_1 := hm1_1
  replace hB := below_ext hB hE39 (Nat.le_refl _)
  replace hm0_0 := hE39.at hm0_0
  replace hm0_1 := hE39.at hm0_1
  replace hP2_1 := hE39.ow hP2_1
  replace hm1_1 := hE39.at hm1_1
  replace hS := hS.trans hE39
  clear hE39
  clear hsz40
  obtain rfl := hP5_5
  refine WT_one (dd := none) 6 (by kernel_rfl) rfl rfl rfl rfl (Y_storeW rfl rfl tb_ag69 rfl hm1_1 rfl (by rfl) (fun W42 hG43 hm44 => ⟨.inr (by kernel_rfl), ?_⟩))
  replace hB := below_grown hB hG43 (Nat.le_refl _) (fun j hj => by cases hj; exact lo_b1_1)
  replace hm0_0 := At.grownNe hm0_0 ne_b0_0_b1_1 hG43
  replace hm0_1 := At.grownNe hm0_1 ne_b0_1_b1_1 hG43
  replace hP2_1 := OwT.grownAt hP2_1 hm1_1 hG43 (by decide)
  clear hG43 hm1_1
  have hm1_1 := hm44
  clear hm44
  refine WT_done (by kernel_rfl) ?_
  try clear sv41_hB sv41_hm0_0 sv41_hm0_1 sv41_hP2_1
  refine hK33 _ _ ?_
  clear hK33 K32
  refine WC_region ?_
  refine WL_val (dd := some 22) rfl rfl rfl (r_addI rfl rfl (by omega) (by omega)) ?_
  refine WL_val (dd := some 12) rfl rfl rfl (r_move (v := .int .i64 _) rfl) ?_
  refine WL_nil ?_
  refine hJ27 _ _ (k + 1) ?_ ?_ ?_ ?_
  · repeat (first | exact agree.mask _ _ _ | refine agree.updo ?_ rfl _ | refine agree.updL ?_ _ rfl | refine agree.maskS rfl ?_)
  · exact ⟨rfl, trivial⟩
  · exact ⟨hB, hm0_0, hm0_1, hP2_1, (by rw [sideTo_succ (by omega), hp3, Int.toNat_natCast, ← Nat.one_mul (2 ^ i)]; exact hm1_1), (by omega), trivial⟩
  · show (listS s).length - (k + 1) < (listS s).length - k; omega
 ·
  try with_reducible replace hc0 := of_decide_eq_false hc0
  refine WC_exit ?_
  refine hK18 _ _ ?_
  clear hK31 K30
  clear hJ27 J26
  clear hK18 K17
  refine WC_seq (fun K45 hK46 => ?_)
  refine WC_region ?_
  refine WL_val (dd := some 23) rfl rfl rfl (r_loadW rfl tb_ag69 rfl hm1_1) ?_
  refine WL_step (dd := none) rfl rfl rfl (Y_storeW rfl rfl tb_ag69 rfl hm0_1 rfl (by rfl) (fun W47 hG48 hm49 => ?_))
  replace hB := below_grown hB hG48 (Nat.le_refl _) (fun j hj => by cases hj; exact lo_b0_1)
  replace hm0_0 := At.grownNe hm0_0 ne_b0_0_b0_1 hG48
  replace hP2_1 := OwT.grownAt hP2_1 hm0_1 hG48 (by decide)
  replace hm1_1 := At.grownNe hm1_1 (Ne.symm ne_b0_1_b1_1) hG48
  clear hG48 hm0_1
  have hm0_1 := hm49
  clear hm49
  refine WL_nil ?_
  refine hK46 _ _ ?_
  clear hK46 K45
  refine WC_ret ?_
  repeat (first | refine thenQ_ret ?_ | refine blockQ_ret ?_)
  refine ret_c rfl tb_ag69 hm0_1 rfl ?_
  refine ⟨hB, ?_⟩
  obtain rfl : k = (listS s).length := by omega
  rfl

theorem C___tagged_chain__did (N bc bz : Nat) (e : Int) (id : Nat) (er : Int) (w : World) (hN0 : N ≤ w.heap.size) (hc : At w bc #[.pointer (some ⟨bz, 0, none⟩), .int .i64 e] 128) (loc : N ≤ bc) :
    FnG Try.prog 114 #[.pointer (some ⟨bc, 0, none⟩), .int .i64 (id : Int), .int .i64 er] w fun v w' => w.grownBy w' (some bc) ∧ At w' bc #[.pointer (some ⟨bz, 0, none⟩), .int .i64 (didE e er)] 128 ∧ v = .int .i64 ((didV e er id : Nat) : Int) := by
 refine FnG_intro (n := 22) Try.func114 rfl rfl (Nat.le_of_ble_eq_true rfl) ?_
 have hB : Below N w w := Below.refl _ _
 have hg0 : w.grownBy w (some bc) := World.grownBy.refl w (some bc)
 refine WC_seq (fun K1 hK2 => ?_)
 refine WC_region ?_
 refine WL_val (dd := some 6) rfl rfl rfl (r_assign (v := .int .i64 0) rfl) ?_
 refine WL_nil ?_
 refine hK2 _ _ ?_
 clear hK2 K1
 refine WC_seq (fun K3 hK4 => ?_)
 refine WC_seq (fun K5 hK6 => ?_)
 refine WC_region ?_
 refine WL_val (dd := some 7) rfl rfl rfl (r_move (v := .pointer (some ⟨bc, 0, none⟩)) rfl) ?_
 refine WL_val (dd := some 8) rfl rfl rfl (r_nilCheck_ptr rfl) ?_
 refine WL_val (dd := some 9) rfl rfl rfl (r_fieldAddr (b := _) (o := _) rfl tb_fo128_1) ?_
 refine WL_val (dd := some 10) rfl rfl rfl (r_load1 (v := .int .i64 _) rfl tb_sc29 (At.cell hc rfl)) ?_
 refine WL_val (dd := some 11) rfl rfl rfl (r_eql rfl rfl) ?_
 refine WL_nil ?_
 refine hK6 _ _ ?_
 clear hK6 K5
 refine WC_cond (b := _) rfl (fun hc0 => ?_) (fun hc0 => ?_)
 ·
  try with_reducible replace hc0 := of_decide_eq_true hc0
  refine WC_region ?_
  refine WL_val (dd := some 12) rfl rfl rfl (r_move (v := .pointer (some ⟨bc, 0, none⟩)) rfl) ?_
  refine WL_val (dd := some 13) rfl rfl rfl (r_move (v := .int .i64 _) rfl) ?_
  refine WL_val (dd := some 14) rfl rfl rfl (r_nilCheck_ptr rfl) ?_
  refine WL_val (dd := some 15) rfl rfl rfl (r_fieldAddr (b := _) (o := _) rfl tb_fo128_1) ?_
  refine WL_step (dd := none) rfl rfl rfl (Y_store1 (v := .int .i64 _) rfl rfl tb_sc29 rfl hc (by simp) (fun W7 hG8 hm9 => ?_))
  replace hg0 := grownBy_trans hg0 hG8
  replace hB := below_grown hB hG8 hN0 (fun j hj => by cases hj; exact loc)
  clear hG8 hc
  have hc := hm9
  clear hm9
  replace hc : At _ _ #[_, _] _ := hc
  refine WL_nil ?_
  refine hK4 _ _ ?_
  clear hK4 K3
  refine WC_seq (fun K10 hK11 => ?_)
  refine WC_seq (fun K12 hK13 => ?_)
  refine WC_region ?_
  refine WL_val (dd := some 16) rfl rfl rfl (r_move (v := .pointer (some ⟨bc, 0, none⟩)) rfl) ?_
  refine WL_val (dd := some 17) rfl rfl rfl (r_nilCheck_ptr rfl) ?_
  refine WL_val (dd := some 18) rfl rfl rfl (r_fieldAddr (b := _) (o := _) rfl tb_fo128_1) ?_
  refine WL_val (dd := some 19) rfl rfl rfl (r_load1 (v := .int .i64 _) rfl tb_sc29 (At.cell hc rfl)) ?_
  refine WL_val (dd := some 20) rfl rfl rfl (r_neq rfl rfl) ?_
  refine WL_nil ?_
  refine hK13 _ _ ?_
  clear hK13 K12
  refine WC_cond (b := _) rfl (fun hc1 => ?_) (fun hc1 => ?_)
  ·
   try with_reducible replace hc1 := of_decide_eq_true hc1
   refine WC_seq (fun K14 hK15 => ?_)
   refine WC_region ?_
   refine WL_val (dd := some 6) rfl rfl rfl (r_assign (v := .int .i64 0) rfl) ?_
   refine WL_nil ?_
   refine hK15 _ _ ?_
   clear hK15 K14
   refine WC_ret ?_
   repeat (first | refine thenQ_ret ?_ | refine blockQ_ret ?_)
   try clear hK11 K10
   refine ret_t (v := .int .i64 0) rfl ?_
   have hde : didE e er = er := if_pos hc0
   rw [hde]
   exact ⟨hg0, hc, by unfold didV; rw [hde, if_neg hc1]; rfl⟩
  ·
   try with_reducible replace hc1 := of_decide_eq_false hc1
   refine WC_skip ?_
   refine hK11 _ _ ?_
   clear hK11 K10
   refine WC_seq (fun K16 hK17 => ?_)
   refine WC_region ?_
   refine WL_val (dd := some 21) rfl rfl rfl (r_move (v := .int .i64 _) rfl) ?_
   refine WL_val (dd := some 6) rfl rfl rfl (r_assign (v := .int .i64 _) rfl) ?_
   refine WL_nil ?_
   refine hK17 _ _ ?_
   clear hK17 K16
   refine WC_ret ?_
   repeat (first | refine thenQ_ret ?_ | refine blockQ_ret ?_)
   refine ret_t (v := .int .i64 _) rfl ?_
   have hde : didE e er = er := if_pos hc0
   rw [hde]
   exact ⟨hg0, hc, by unfold didV; rw [hde, if_pos (Decidable.of_not_not hc1)]⟩
 ·
  try with_reducible replace hc0 := of_decide_eq_false hc0
  refine WC_skip ?_
  refine hK4 _ _ ?_
  clear hK4 K3
  refine WC_seq (fun K18 hK19 => ?_)
  refine WC_seq (fun K20 hK21 => ?_)
  refine WC_region ?_
  refine WL_val (dd := some 16) rfl rfl rfl (r_move (v := .pointer (some ⟨bc, 0, none⟩)) rfl) ?_
  refine WL_val (dd := some 17) rfl rfl rfl (r_nilCheck_ptr rfl) ?_
  refine WL_val (dd := some 18) rfl rfl rfl (r_fieldAddr (b := _) (o := _) rfl tb_fo128_1) ?_
  refine WL_val (dd := some 19) rfl rfl rfl (r_load1 (v := .int .i64 _) rfl tb_sc29 (At.cell hc rfl)) ?_
  refine WL_val (dd := some 20) rfl rfl rfl (r_neq rfl rfl) ?_
  refine WL_nil ?_
  refine hK21 _ _ ?_
  clear hK21 K20
  refine WC_cond (b := _) rfl (fun hc1 => ?_) (fun hc1 => ?_)
  ·
   try with_reducible replace hc1 := of_decide_eq_true hc1
   refine WC_seq (fun K22 hK23 => ?_)
   refine WC_region ?_
   refine WL_val (dd := some 6) rfl rfl rfl (r_assign (v := .int .i64 0) rfl) ?_
   refine WL_nil ?_
   refine hK23 _ _ ?_
   clear hK23 K22
   refine WC_ret ?_
   repeat (first | refine thenQ_ret ?_ | refine blockQ_ret ?_)
   try clear hK19 K18
   refine ret_t (v := .int .i64 0) rfl ?_
   have hde : didE e er = e := if_neg hc0
   rw [hde]
   exact ⟨hg0, hc, by unfold didV; rw [hde, if_neg hc0]; rfl⟩
  ·
   try with_reducible replace hc1 := of_decide_eq_false hc1
   refine WC_skip ?_
   refine hK19 _ _ ?_
   clear hK19 K18
   refine WC_seq (fun K24 hK25 => ?_)
   refine WC_region ?_
   refine WL_val (dd := some 21) rfl rfl rfl (r_move (v := .int .i64 _) rfl) ?_
   refine WL_val (dd := some 6) rfl rfl rfl (r_assign (v := .int .i64 _) rfl) ?_
   refine WL_nil ?_
   refine hK25 _ _ ?_
   clear hK25 K24
   refine WC_ret ?_
   repeat (first | refine thenQ_ret ?_ | refine blockQ_ret ?_)
   refine ret_t (v := .int .i64 _) rfl ?_
   exact absurd (Decidable.of_not_not hc1) hc0

set_option maxRecDepth 10000 in
theorem C___tagged_chain__with (N ba bm bz bc R : Nat) (ns : List Nd) (e : Int) (f i : Nat) (w : World) (hN0 : N ≤ w.heap.size) (hz : At w bz #[.pointer (some ⟨ba, 0, none⟩)] 100) (hD : Dia 147 150 N ba bm R w ns) (hc : At w bc #[.pointer (some ⟨bz, 0, none⟩), .int .i64 e] 128) (loc : N ≤ bc) (hf : f < ns.length + 2) (hi : i < 24) :
    FnG Try.prog 133 #[.pointer (some ⟨bc, 0, none⟩), .int .i64 (f : Int), .int .i64 (i : Int)] w fun v w' => ∃ (ns' : List Nd) (e' : Int) (id : Nat), v = .int .i64 (id : Int) ∧ Dc 150 128 N bc bz ba bm w w' ∧ At w' bz #[.pointer (some ⟨ba, 0, none⟩)] 100 ∧ Dia 147 150 N ba bm R w' ns' ∧ At w' bc #[.pointer (some ⟨bz, 0, none⟩), .int .i64 e'] 128 ∧ PutW ns ns' R e e' f i id := by
 refine FnG_intro (n := 29) Try.func133 rfl rfl (Nat.le_of_ble_eq_true rfl) ?_
 have hB : Below N w w := Below.refl _ _
 have hX : Dc 150 128 N bc bz ba bm w w := Dc.refl
 have hwf := hD.wf
 have hroom := hD.room
 have htop := hD.top
 have hpl : 2 ^ i ≤ 8388608 := by have := Nat.pow_le_pow_right (show 0 < 2 by decide) (show i ≤ 23 by omega); simpa using this
 refine WC_seq (fun K1 hK2 => ?_)
 refine WC_region ?_
 refine WL_val (dd := some 6) rfl rfl rfl (r_assign (v := .int .i64 0) rfl) ?_
 refine WL_nil ?_
 refine hK2 _ _ ?_
 clear hK2 K1
 refine WC_seq (fun K3 hK4 => ?_)
 refine WC_draw (fun a b => Dc 150 128 N bc bz ba bm a b) tb_mix (fun W5 hE6 => ?_)
 replace hz := hE6.at hz
 replace hc := hE6.at hc
 replace hD := Dia.ext hE6 hD
 replace hX := Dc.trans hX (Dc.ext hE6)
 replace hB := below_ext hB hE6 hN0
 have hwk0 : Wc 128 bc bz W5 := ⟨_, hc⟩
 have hS : Dc 150 128 N bc bz ba bm W5 W5 := Dc.refl
 refine WT_take (dd := some 7) 0 rfl (by kernel_rfl) (by kernel_rfl) (by kernel_rfl) rfl rfl rfl (fun _wq _hq => r_move (v := .pointer (some ⟨bc, 0, none⟩)) rfl) hS ?_
 refine WT_take (dd := some 8) 1 rfl (by kernel_rfl) (by kernel_rfl) (by kernel_rfl) rfl rfl rfl (fun _wq _hq => r_move (v := .pointer (some ⟨bc, 0, none⟩)) rfl) hS ?_
 refine WT_take (dd := some 9) 2 rfl (by kernel_rfl) (by kernel_rfl) (by kernel_rfl) rfl rfl rfl (fun _wq _hq => r_nilCheck_ptr rfl) hS ?_
 refine WT_take (dd := some 10) 3 rfl (by kernel_rfl) (by kernel_rfl) (by kernel_rfl) rfl rfl rfl (fun _wq _hq => r_fieldAddr (b := _) (o := _) rfl tb_fo128_0) hS ?_
 refine WT_take (dd := some 11) 4 rfl (by kernel_rfl) (by kernel_rfl) (by kernel_rfl) rfl rfl rfl (fun _wq hq => r_load1 (v := .pointer (some ⟨bz, 0, none⟩)) rfl tb_sc24 (Wc.c0 (Dc.wk hq hwk0))) hS ?_
 refine WT_take (dd := some 12) 5 rfl (by kernel_rfl) (by kernel_rfl) (by kernel_rfl) rfl rfl rfl (fun _wq _hq => r_move (v := .int .i64 _) rfl) hS ?_
 refine WT_take (dd := some 13) 6 rfl (by kernel_rfl) (by kernel_rfl) (by kernel_rfl) rfl rfl rfl (fun _wq _hq => r_move (v := .pointer (some ⟨bc, 0, none⟩)) rfl) hS ?_
 refine WT_take (dd := some 14) 7 rfl (by kernel_rfl) (by kernel_rfl) (by kernel_rfl) rfl rfl rfl (fun _wq _hq => r_move (v := .pointer (some ⟨bc, 0, none⟩)) rfl) hS ?_
 refine WT_take (dd := some 15) 8 rfl (by kernel_rfl) (by kernel_rfl) (by kernel_rfl) rfl rfl rfl (fun _wq _hq => r_nilCheck_ptr rfl) hS ?_
 refine WT_take (dd := some 16) 9 rfl (by kernel_rfl) (by kernel_rfl) (by kernel_rfl) rfl rfl rfl (fun _wq _hq => r_fieldAddr (b := _) (o := _) rfl tb_fo128_0) hS ?_
 refine WT_take (dd := some 17) 10 rfl (by kernel_rfl) (by kernel_rfl) (by kernel_rfl) rfl rfl rfl (fun _wq hq => r_load1 (v := .pointer (some ⟨bz, 0, none⟩)) rfl tb_sc24 (Wc.c0 (Dc.wk hq hwk0))) hS ?_
 refine WT_take (dd := some 18) 11 rfl (by kernel_rfl) (by kernel_rfl) (by kernel_rfl) rfl rfl rfl (fun _wq _hq => r_move (v := .int .i64 _) rfl) hS ?_
 refine WT_take (dd := some 19) 12 rfl (by kernel_rfl) (by kernel_rfl) (by kernel_rfl) rfl rfl rfl (fun _wq _hq => r_shl (m := 1) rfl rfl (by omega) (by simp only [IntKind.bits]; omega) (by simp only [topN, Int.toNat_natCast, Nat.one_mul]; omega)) hS ?_
 refine WT_one (dd := some 20) 13 (by kernel_rfl) rfl rfl rfl rfl (Y_lit1 (u := .int .i64 _) rfl tb_el22 tb_zs3 rfl (by decide) (by decide) (fun b1_13 W7 hb8 hE9 hm1_13 => ⟨.inl (Dc.trans hS (Dc.ext hE9)), ?_⟩))
 have lo_b1_13 : N ≤ b1_13 := hb8 ▸ (Nat.le_trans hN0 (Below.size hB))
 clear hb8
 have sv10_hz := hz
 have sv10_hc := hc
 have sv10_hB := hB
 replace hz := hE9.at hz
 replace hc := hE9.at hc
 replace hD := Dia.ext hE9 hD
 replace hX := Dc.trans hX (Dc.ext hE9)
 replace hB := below_ext hB hE9 hN0
 replace hS := Dc.trans hS (Dc.ext hE9)
 clear hE9
 have ho11 := own_lit1 (enc := encI) (a := ((1 * 2 ^ i : Nat) : Int)) hm1_13 rfl rfl lo_b1_13
 clear hm1_13
 refine WT_one (dd := some 21) 14 (by kernel_rfl) rfl rfl rfl rfl (Yd.callG (r_call2 tb_c32 (v0 := .pointer (some ⟨bz, 0, none⟩)) rfl (v1 := .slice (some ⟨b1_13, 0, none⟩) 1 1) rfl) (C___zdd_Zdd__Of N ba bm bz R ns _ [((1 * 2 ^ i : Nat) : Int)] _ (Nat.le_trans hN0 (Below.size hB)) hz hD ho11.sl (show 1 ≤ 1000000 by decide)) (fun v1_14 W12 hP1_14 => ⟨.inl (Dc.trans hS (Dc.zdd hD (PE.dx hP1_14) (by decide) (by decide))), ?_⟩))
 replace hS := Dc.trans hS (Dc.zdd hD (PE.dx hP1_14) (by decide) (by decide))
 obtain ⟨ns1_14, id1_14, er1_14, rfl, hx1_14, hDn1_14, hg1_14⟩ := hP1_14
 replace hz := At.dx hD hx1_14 hz (by decide) (by decide)
 replace hc := At.dx hD hx1_14 hc (by decide) (by decide)
 replace hX := Dc.trans hX (Dc.zdd hD hx1_14 (by decide) (by decide))
 replace hB := Below.dx hB (Nat.le_refl _) hN0 hx1_14
 replace ho11 := OwT.dx hD hx1_14 ho11 (by decide) (by decide)
 replace hD := hDn1_14
 have hgA := pe_ok hg1_14 (by rw [Nat.one_mul]; exact one_ok hi)
 have hvA := hgA.valid
 have hf1 : f < ns1_14.length + 2 := by have := pre_len hgA.pre; omega
 have hw1 := hD.wf
 refine WT_take (dd := some 22) 15 rfl (by kernel_rfl) (by kernel_rfl) (by kernel_rfl) rfl rfl rfl (fun _wq _hq => r_ext2_0 (h := rfl)) hS ?_
 refine WT_take (dd := some 23) 16 rfl (by kernel_rfl) (by kernel_rfl) (by kernel_rfl) rfl rfl rfl (fun _wq _hq => r_ext2_1 (h := rfl)) hS ?_
 refine WT_one (dd := some 24) 17 (by kernel_rfl) rfl rfl rfl rfl (Yd.callG (r_call3 tb_c114 (v0 := .pointer (some ⟨bc, 0, none⟩)) rfl (v1 := .int .i64 _) rfl (v2 := .int .i64 _) rfl) (C___tagged_chain__did N bc bz _ _ _ _ (Nat.le_trans hN0 (Below.size hB)) hc loc) (fun v1_17 W14 hP1_17 => ⟨.inl (Dc.trans hS (Dc.did hP1_17.1 loc hP1_17.2.1)), ?_⟩))
 replace hS := Dc.trans hS (Dc.did hP1_17.1 loc hP1_17.2.1)
 obtain ⟨hG1_17, hc1_17, rfl⟩ := hP1_17
 replace hX := Dc.trans hX (Dc.did hG1_17 loc hc1_17)
 replace hz := At.grownAt hz hc hG1_17 (by decide)
 replace hD := Dia.grownAt hD hc hG1_17 (by decide) (by decide)
 replace hB := below_grown hB hG1_17 hN0 (fun j hj => by cases hj; exact loc)
 replace ho11 := OwT.grownAt ho11 hc hG1_17 (by decide)
 replace hc := hc1_17
 clear hG1_17
 refine WT_one (dd := some 25) 18 (by kernel_rfl) rfl rfl rfl rfl (Yd.callG (r_call3 tb_c23 (v0 := .pointer (some ⟨bz, 0, none⟩)) rfl (v1 := .int .i64 _) rfl (v2 := .int .i64 _) rfl) (C___zdd_Zdd__Join N ba bm bz R ns1_14 f (didV e er1_14 id1_14) _ (Nat.le_trans hN0 (Below.size hB)) hz hD hf1 (didV_v hvA)) (fun v1_18 W16 hP1_18 => ⟨.inl (Dc.trans hS (Dc.zdd hD (PO.dx hP1_18) (by decide) (by decide))), ?_⟩))
 replace hS := Dc.trans hS (Dc.zdd hD (PO.dx hP1_18) (by decide) (by decide))
 obtain ⟨ns1_18, id1_18, er1_18, rfl, hx1_18, hDn1_18, hg1_18⟩ := hP1_18
 replace hz := At.dx hD hx1_18 hz (by decide) (by decide)
 replace hc := At.dx hD hx1_18 hc (by decide) (by decide)
 replace hB := Below.dx hB (Nat.le_refl _) hN0 hx1_18
 replace ho11 := OwT.dx hD hx1_18 ho11 (by decide) (by decide)
 replace hX := Dc.trans hX (Dc.zdd hD hx1_18 (by decide) (by decide))
 replace hD := hDn1_18
 refine WT_take (dd := some 26) 19 rfl (by kernel_rfl) (by kernel_rfl) (by kernel_rfl) rfl rfl rfl (fun _wq _hq => r_ext2_0 (h := rfl)) hS ?_
 refine WT_take (dd := some 27) 20 rfl (by kernel_rfl) (by kernel_rfl) (by kernel_rfl) rfl rfl rfl (fun _wq _hq => r_ext2_1 (h := rfl)) hS ?_
 refine WT_one (dd := some 28) 21 (by kernel_rfl) rfl rfl rfl rfl (Yd.callG (r_call3 tb_c114 (v0 := .pointer (some ⟨bc, 0, none⟩)) rfl (v1 := .int .i64 _) rfl (v2 := .int .i64 _) rfl) (C___tagged_chain__did N bc bz _ _ _ _ (Nat.le_trans hN0 (Below.size hB)) hc loc) (fun v1_21 W18 hP1_21 => ⟨.inl (Dc.trans hS (Dc.did hP1_21.1 loc hP1_21.2.1)), ?_⟩))
 replace hS := Dc.trans hS (Dc.did hP1_21.1 loc hP1_21.2.1)
 obtain ⟨hG1_21, hc1_21, rfl⟩ := hP1_21
 replace hX := Dc.trans hX (Dc.did hG1_21 loc hc1_21)
 replace hz := At.grownAt hz hc hG1_21 (by decide)
 replace hD := Dia.grownAt hD hc hG1_21 (by decide) (by decide)
 replace hB := below_grown hB hG1_21 hN0 (fun j hj => by cases hj; exact loc)
 replace ho11 := OwT.grownAt ho11 hc hG1_21 (by decide)
 replace hc := hc1_21
 clear hG1_21
 refine WT_take (dd := some 6) 22 rfl (by kernel_rfl) (by kernel_rfl) (by kernel_rfl) rfl rfl rfl (fun _wq _hq => r_assign (v := .int .i64 _) rfl) hS ?_
 refine WT_done (by kernel_rfl) ?_
 try clear sv10_hz sv10_hB
 refine hK4 _ _ ?_
 clear hK4 K3
 refine WC_ret ?_
 repeat (first | refine thenQ_ret ?_ | refine blockQ_ret ?_)
 refine ret_t (v := .int .i64 _) rfl ?_
 exact ⟨_, _, _, rfl, hX, hz, hD, hc, put_w hw1 hgA hg1_18 hf hi⟩

def PrAt (fu : Nat) : Prop := ∀ (N ba bm bz bc R : Nat) (ns : List Nd) (e : Int) (s n i : Nat) (w : World), (N ≤ w.heap.size) → (At w bz #[.pointer (some ⟨ba, 0, none⟩)] 100) → (Dia 147 150 N ba bm R w ns) → (At w bc #[.pointer (some ⟨bz, 0, none⟩), .int .i64 e] 128) → (N ≤ bc) → (n ≤ 8) → (Fre n s i) → n + 1 - i ≤ fu →
  FnG Try.prog 107 #[.pointer (some ⟨bc, 0, none⟩), setV s, setV (allS n), .int .i64 (n : Int), .int .i64 (i : Int)] w fun v w' => ∃ (ns' : List Nd) (e' : Int) (id : Nat), v = .int .i64 (id : Int) ∧ Dc 150 128 N bc bz ba bm w w' ∧ At w' bz #[.pointer (some ⟨ba, 0, none⟩)] 100 ∧ Dia 147 150 N ba bm R w' ns' ∧ At w' bc #[.pointer (some ⟨bz, 0, none⟩), .int .i64 e'] 128 ∧ PrW ns ns' R e e' n i s id
theorem hx_size (w : World) : (sizeOf 69).run Try.prog w = .ok 4 w := by
  obtain ⟨j0, hj0, hs0⟩ := Option.map_eq_some_iff.1 (show (Try.prog.info? 69).map (·.size) = some 4 by kernel_rfl)
  simp [sizeOf, typeInfo, hj0, hs0]
theorem hx_part {s i k : Nat} (hk : k < 2) (w : World) : (part 69 (pairA (sideS s i false) (sideS s i true)) (k * 4)).run Try.prog w = .ok (setV (sdB s i k)) w := by
  obtain ⟨j0, hj0, hs0⟩ := Option.map_eq_some_iff.1 (show (Try.prog.info? 69).map (·.size) = some 4 by kernel_rfl)
  have : k = 0 ∨ k = 1 := by omega
  rcases this with rfl | rfl <;> simp [part, isAgg, sizeOf, typeInfo, hj0, hs0, run_underlying Try.underlying69, pairA, sdB] <;> rfl

set_option maxRecDepth 20000 in
theorem C_primes (q : Nat) (N ba bm bz bc R : Nat) (ns : List Nd) (e : Int) (s n i : Nat) (w : World) (ih : PrAt q) (hN0 : N ≤ w.heap.size) (hz : At w bz #[.pointer (some ⟨ba, 0, none⟩)] 100) (hD : Dia 147 150 N ba bm R w ns) (hc : At w bc #[.pointer (some ⟨bz, 0, none⟩), .int .i64 e] 128) (loc : N ≤ bc) (h8 : n ≤ 8) (hfr : Fre n s i) (hn : n + 1 - i ≤ q + 1) :
    FnG Try.prog 107 #[.pointer (some ⟨bc, 0, none⟩), setV s, setV (allS n), .int .i64 (n : Int), .int .i64 (i : Int)] w fun v w' => ∃ (ns' : List Nd) (e' : Int) (id : Nat), v = .int .i64 (id : Int) ∧ Dc 150 128 N bc bz ba bm w w' ∧ At w' bz #[.pointer (some ⟨ba, 0, none⟩)] 100 ∧ Dia 147 150 N ba bm R w' ns' ∧ At w' bc #[.pointer (some ⟨bz, 0, none⟩), .int .i64 e'] 128 ∧ PrW ns ns' R e e' n i s id := by
 refine FnG_intro (n := 99) Try.func107 rfl rfl (Nat.le_of_ble_eq_true rfl) ?_
 have hB : Below N w w := Below.refl _ _
 have hX : Dc 150 128 N bc bz ba bm w w := Dc.refl
 have hwf := hD.wf
 have hroom := hD.room
 have htop := hD.top
 refine WC_seq (fun K1 hK2 => ?_)
 refine WC_region ?_
 refine WL_step (dd := some 6) rfl rfl rfl (Y_box (c := #[_, _, _, _]) rfl rfl (fun b0_0 W3 hb4 hE5 hm0_0 => ?_))
 have lo_b0_0 : N ≤ b0_0 := hb4 ▸ (Nat.le_trans hN0 (Below.size hB))
 have lz_b0_0 : w.heap.size ≤ b0_0 := hb4 ▸ hX.dx.size
 clear hb4
 replace hz := hE5.at hz
 replace hc := hE5.at hc
 replace hD := Dia.ext hE5 hD
 replace hX := Dc.trans hX (Dc.ext hE5)
 replace hB := below_ext hB hE5 hN0
 clear hE5
 refine WL_step (dd := some 7) rfl rfl rfl (Y_box (c := #[_, _, _, _]) rfl rfl (fun b0_1 W6 hb7 hE8 hm0_1 => ?_))
 have lo_b0_1 : N ≤ b0_1 := hb7 ▸ (Nat.le_trans hN0 (Below.size hB))
 have ne_b0_0_b0_1 : b0_0 ≠ b0_1 := Nat.ne_of_lt (hb7 ▸ hm0_0.lt)
 have lz_b0_1 : w.heap.size ≤ b0_1 := hb7 ▸ hX.dx.size
 clear hb7
 replace hz := hE8.at hz
 replace hc := hE8.at hc
 replace hD := Dia.ext hE8 hD
 replace hX := Dc.trans hX (Dc.ext hE8)
 replace hB := below_ext hB hE8 hN0
 replace hm0_0 := hE8.at hm0_0
 clear hE8
 refine WL_val (dd := some 10) rfl rfl rfl (r_assign (v := .int .i64 0) rfl) ?_
 refine WL_nil ?_
 refine hK2 _ _ ?_
 clear hK2 K1
 refine WC_seq (fun K9 hK10 => ?_)
 refine WC_block ?_
 refine WC_seq (fun K11 hK12 => ?_)
 refine WC_region ?_
 refine WL_val (dd := some 19) rfl rfl rfl (r_move (v := .pointer (some ⟨bc, 0, none⟩)) rfl) ?_
 refine WL_val (dd := some 20) rfl rfl rfl (r_nilCheck_ptr rfl) ?_
 refine WL_val (dd := some 21) rfl rfl rfl (r_fieldAddr (b := _) (o := _) rfl tb_fo128_1) ?_
 refine WL_val (dd := some 22) rfl rfl rfl (r_load1 (v := .int .i64 _) rfl tb_sc29 (At.cell hc rfl)) ?_
 refine WL_val (dd := some 23) rfl rfl rfl (r_neq rfl rfl) ?_
 refine WL_split (dd := some 24) rfl rfl rfl (r_move (v := .bool _) rfl) (fun hs1_5 => ?_) (fun hs1_5 => ?_)
 ·
  try with_reducible replace hs1_5 := of_decide_eq_true hs1_5
  refine WL_skip (dd := some 25) rfl rfl rfl ?_
  refine WL_skip (dd := some 26) rfl rfl rfl ?_
  refine WL_skip (dd := some 27) rfl rfl rfl ?_
  refine WL_val (dd := some 28) rfl rfl rfl (r_pick_t rfl (v := .bool true) rfl) ?_
  refine WL_val (dd := some 18) rfl rfl rfl (r_assign (v := .bool true) rfl) ?_
  refine WL_nil ?_
  refine hK12 _ _ ?_
  clear hK12 K11
  refine WC_cond_true rfl ?_
  refine WC_seq (fun K13 hK14 => ?_)
  refine WC_region ?_
  refine WL_val (dd := some 10) rfl rfl rfl (r_assign (v := .int .i64 0) rfl) ?_
  refine WL_nil ?_
  refine hK14 _ _ ?_
  clear hK14 K13
  refine WC_ret ?_
  repeat (first | refine thenQ_ret ?_ | refine blockQ_ret ?_)
  try clear hK10 K9
  refine ret_t (v := .int .i64 0) rfl ?_
  exact ⟨ns, e, 0, rfl, hX, hz, hD, hc, pr_err hs1_5⟩
 ·
  try with_reducible replace hs1_5 := of_decide_eq_false hs1_5
  refine WL_val (dd := some 25) rfl rfl rfl (r_loadW rfl tb_ag69 rfl hm0_0) ?_
  refine WL_val (dd := some 26) (v := setV 0) rfl rfl rfl (tb_build69_ ) ?_
  refine WL_val (dd := some 27) rfl rfl rfl (tb_eq69 rfl rfl) ?_
  refine WL_val (dd := some 28) rfl rfl rfl (r_pick_f rfl (v := .bool _) rfl) ?_
  refine WL_val (dd := some 18) rfl rfl rfl (r_assign (v := .bool _) rfl) ?_
  refine WL_nil ?_
  refine hK12 _ _ ?_
  clear hK12 K11
  refine WC_cond (b := _) rfl (fun hc0 => ?_) (fun hc0 => ?_)
  ·
   try with_reducible replace hc0 := of_decide_eq_true hc0
   refine WC_seq (fun K15 hK16 => ?_)
   refine WC_region ?_
   refine WL_val (dd := some 10) rfl rfl rfl (r_assign (v := .int .i64 0) rfl) ?_
   refine WL_nil ?_
   refine hK16 _ _ ?_
   clear hK16 K15
   refine WC_ret ?_
   repeat (first | refine thenQ_ret ?_ | refine blockQ_ret ?_)
   try clear hK10 K9
   refine ret_t (v := .int .i64 0) rfl ?_
   exact ⟨ns, e, 0, rfl, hX, hz, hD, hc, pr_0 (Decidable.of_not_not hs1_5) h8 (int_eqS hc0)⟩
  ·
   try with_reducible replace hc0 := of_decide_eq_false hc0
   refine WC_seq (fun K17 hK18 => ?_)
   refine WC_region ?_
   refine WL_val (dd := some 30) rfl rfl rfl (r_loadW rfl tb_ag69 rfl hm0_0) ?_
   refine WL_val (dd := some 31) rfl rfl rfl (r_loadW rfl tb_ag69 rfl hm0_1) ?_
   refine WL_val (dd := some 32) rfl rfl rfl (tb_eq69 rfl rfl) ?_
   refine WL_val (dd := some 29) rfl rfl rfl (r_assign (v := .bool _) rfl) ?_
   refine WL_nil ?_
   refine hK18 _ _ ?_
   clear hK18 K17
   refine WC_cond (b := _) rfl (fun hc1 => ?_) (fun hc1 => ?_)
   ·
    try with_reducible replace hc1 := of_decide_eq_true hc1
    refine WC_seq (fun K19 hK20 => ?_)
    refine WC_region ?_
    refine WL_val (dd := some 10) rfl rfl rfl (r_assign (v := .int .i64 1) rfl) ?_
    refine WL_nil ?_
    refine hK20 _ _ ?_
    clear hK20 K19
    refine WC_ret ?_
    repeat (first | refine thenQ_ret ?_ | refine blockQ_ret ?_)
    try clear hK10 K9
    refine ret_t (v := .int .i64 1) rfl ?_
    exact ⟨ns, e, 1, rfl, hX, hz, hD, hc, pr_1 (Decidable.of_not_not hs1_5) h8 (int_eqS hc1)⟩
   ·
    try with_reducible replace hc1 := of_decide_eq_false hc1
    refine WC_skip ?_
    refine hK10 _ _ ?_
    clear hK10 K9
    refine WC_seq (fun K21 hK22 => ?_)
    have he : e = 0 := Decidable.of_not_not hs1_5
    subst he
    have h0 : ¬ eqS s 0 = true := fun h => hc0 (eqS_int h)
    have h1 : ¬ eqS s (allS n) = true := fun h => hc1 (eqS_int h)
    have hi : i < n := hfr.lt h8 h0 h1
    have hi8 : i < 8 := by omega
    refine WC_region ?_
    refine WL_step (dd := some 11) rfl rfl rfl (Y_alloc tb_z156 rfl (fun b5_0 W23 hb24 hE25 hm5_0 => ?_))
    have lo_b5_0 : N ≤ b5_0 := hb24 ▸ (Nat.le_trans hN0 (Below.size hB))
    have lz_b5_0 : w.heap.size ≤ b5_0 := hb24 ▸ hX.dx.size
    clear hb24
    replace hz := hE25.at hz
    replace hc := hE25.at hc
    replace hD := Dia.ext hE25 hD
    replace hX := Dc.trans hX (Dc.ext hE25)
    replace hB := below_ext hB hE25 hN0
    replace hm0_0 := hE25.at hm0_0
    replace hm0_1 := hE25.at hm0_1
    clear hE25
    refine WL_nil ?_
    refine hK22 _ _ ?_
    clear hK22 K21
    refine WC_seq (fun K26 hK27 => ?_)
    refine WC_seq (fun K28 hK29 => ?_)
    replace hm5_0 := sidesA_at (s := s) (i := i) hm5_0
    refine WC_region ?_
    refine WL_val (dd := some 33) rfl rfl rfl (r_move (v := .int .i64 0) rfl) ?_
    refine WL_nil ?_
    refine hK29 _ _ ?_
    clear hK29 K28
    refine WC_block ?_
    refine WC_loop (σ := (Nat)) [12, 33, 34, 35, 36, 37, 38, 39, 40, 41, 42, 43, 44, 45] (fun k => [(33, .int .i64 (k : Int))]) (fun k W => (At W bz _ 100) ∧ (At W bc _ 128) ∧ (Dia 147 150 N ba bm R W ns) ∧ (Dc 150 128 N bc bz ba bm w W) ∧ (Below N w W) ∧ (At W b0_0 _ 69) ∧ (At W b0_1 _ 69) ∧ (At W b5_0 (sidesA s i k) 156) ∧ (k ≤ 2) ∧ (True)) (fun k => 2 - k) (0) ⟨rfl, trivial⟩ ⟨hz, hc, hD, hX, hB, hm0_0, hm0_1, hm5_0, (Nat.zero_le _), trivial⟩ ?_
    clear hz hc hD hX hB hm0_0 hm0_1 hm5_0
    rintro k g31 W30 ⟨hz, hc, hD, hX, hB, hm0_0, hm0_1, hm5_0, hk, _⟩ J32 hJ33
    refine WC_seq (fun K34 hK35 => ?_)
    refine WC_region ?_
    refine WL_val (dd := some 34) rfl rfl rfl (r_lss rfl rfl) ?_
    refine WL_nil ?_
    refine hK35 _ _ ?_
    clear hK35 K34
    refine WC_seq (fun K36 hK37 => ?_)
    refine WC_cond (b := _) rfl (fun hc2 => ?_) (fun hc2 => ?_)
    ·
     try with_reducible replace hc2 := of_decide_eq_true hc2
     refine WC_skip ?_
     refine hK37 _ _ ?_
     clear hK37 K36
     refine WC_seq (fun K38 hK39 => ?_)
     refine WC_block ?_
     refine WC_seq (fun K40 hK41 => ?_)
     refine WC_region ?_
     refine WL_val (dd := some 35) rfl rfl rfl (r_move (v := .int .i64 _) rfl) ?_
     refine WL_val (dd := some 12) rfl rfl rfl (r_assign (v := .int .i64 _) rfl) ?_
     refine WL_nil ?_
     refine hK41 _ _ ?_
     clear hK41 K40
     refine WC_region ?_
     refine WL_val (dd := some 36) rfl rfl rfl (r_move (v := .int .i64 _) rfl) ?_
     refine WL_val (dd := some 37) rfl rfl rfl (r_loadW rfl tb_ag69 rfl hm0_0) ?_
     refine WL_val (dd := some 38) rfl rfl rfl (r_move (v := .int .i64 _) rfl) ?_
     refine WL_val (dd := some 39) rfl rfl rfl (r_move (v := .int .i64 _) rfl) ?_
     refine WL_val (dd := some 40) rfl rfl rfl (r_eql rfl rfl) ?_
     refine WL_call (dd := some 41) rfl rfl rfl (r_call3 tb_c132 (v0 := .agg #[_, _, _, _]) rfl (v1 := .int .i64 _) rfl (v2 := .bool _) rfl) (C_set_Half _ _ _ _) (fun v9_5 W42 hE43 hP9_5 => ?_)
     have hsz44 := (Nat.le_trans hN0 (Below.size hB))
     replace hz := hE43.at hz
     replace hc := hE43.at hc
     replace hD := Dia.ext hE43 hD
     replace hX := Dc.trans hX (Dc.ext hE43)
     replace hB := below_ext hB hE43 hN0
     replace hm0_0 := hE43.at hm0_0
     replace hm0_1 := hE43.at hm0_1
     replace hm5_0 := hE43.at hm5_0
     clear hE43
     clear hsz44
     obtain rfl := hP9_5
     rw [if_pos (show 0 ≤ (i : Int) ∧ (i : Int) < 8 by omega)]
     simp only [Int.toNat_natCast]
     refine WL_val (dd := some 42) rfl rfl rfl (r_move (v := .int .i64 _) rfl) ?_
     refine WL_call (dd := some 43) rfl rfl rfl (r_call2 tb_c131 (v0 := .agg #[_, _, _, _]) rfl (v1 := .int .i64 _) rfl) (C_tagged_both (halfS s i (decide ((k : Int) = 1))) i _ (by omega)) (fun v9_7 W45 hE46 hP9_7 => ?_)
     have hsz47 := (Nat.le_trans hN0 (Below.size hB))
     replace hz := hE46.at hz
     replace hc := hE46.at hc
     replace hD := Dia.ext hE46 hD
     replace hX := Dc.trans hX (Dc.ext hE46)
     replace hB := below_ext hB hE46 hN0
     replace hm0_0 := hE46.at hm0_0
     replace hm0_1 := hE46.at hm0_1
     replace hm5_0 := hE46.at hm5_0
     clear hE46
     replace hP9_7 : v9_7 = setV (sideS s i (decide ((k : Int) = 1))) := hP9_7
     obtain rfl := hP9_7
     clear hsz47
     refine WL_val (dd := some 44) rfl rfl rfl (r_idxA rfl rfl tb_ar156 (by omega) (by omega)) ?_
     refine WL_step (dd := none) rfl rfl rfl (Y_storeP rfl rfl tb_ag69 rfl hm5_0 (by rw [sidesA_size]; omega) (by rfl) (fun W48 hG49 hm50 => ?_))
     replace hz := At.grownAt hz hm5_0 hG49 (by decide)
     replace hc := At.grownAt hc hm5_0 hG49 (by decide)
     replace hD := Dia.grownAt hD hm5_0 hG49 (by decide) (by decide)
     replace hX := Dc.new hX lz_b5_0 lo_b5_0 hG49 hm5_0 (by decide)
     replace hB := below_grown hB hG49 hN0 (fun j hj => by cases hj; exact lo_b5_0)
     replace hm0_0 := At.grownAt hm0_0 hm5_0 hG49 (by decide)
     replace hm0_1 := At.grownAt hm0_1 hm5_0 hG49 (by decide)
     clear hG49 hm5_0
     have hm5_0 := hm50
     clear hm50
     try simp only [Int.toNat_natCast] at hm5_0
     rw [sidesA_put (by omega)] at hm5_0
     refine WL_nil ?_
     refine hK39 _ _ ?_
     clear hK39 K38
     refine WC_region ?_
     refine WL_val (dd := some 45) rfl rfl rfl (r_addI rfl rfl (by omega) (by omega)) ?_
     refine WL_val (dd := some 33) rfl rfl rfl (r_move (v := .int .i64 _) rfl) ?_
     refine WL_nil ?_
     refine hJ33 _ _ (k + 1) ?_ ?_ ?_ ?_
     · repeat (first | exact agree.mask _ _ _ | refine agree.updo ?_ rfl _ | refine agree.updL ?_ _ rfl | refine agree.maskS rfl ?_)
     · exact ⟨rfl, trivial⟩
     · exact ⟨hz, hc, hD, hX, hB, hm0_0, hm0_1, (by exact hm5_0), (by omega), trivial⟩
     · first | omega | (dsimp only; omega)
    ·
     try with_reducible replace hc2 := of_decide_eq_false hc2
     refine WC_exit ?_
     refine hK27 _ _ ?_
     clear hK37 K36
     clear hJ33 J32
     clear hK27 K26
     refine WC_seq (fun K51 hK52 => ?_)
     obtain rfl : k = 2 := by omega
     replace hm5_0 : At _ _ (pairA (sideS s i false) (sideS s i true)) _ := hm5_0
     refine WC_draw (fun a b => Dc 150 128 N bc bz ba bm a b) tb_mix (fun W53 hE54 => ?_)
     replace hz := hE54.at hz
     replace hc := hE54.at hc
     replace hD := Dia.ext hE54 hD
     replace hX := Dc.trans hX (Dc.ext hE54)
     replace hB := below_ext hB hE54 hN0
     replace hm0_0 := hE54.at hm0_0
     replace hm0_1 := hE54.at hm0_1
     replace hm5_0 := hE54.at hm5_0
     have hwk0 : Wc 128 bc bz W53 := ⟨_, hc⟩
     have hS : Dc 150 128 N bc bz ba bm W53 W53 := Dc.refl
     refine WT_take (dd := some 46) 0 rfl (by kernel_rfl) (by kernel_rfl) (by kernel_rfl) rfl rfl rfl (fun _wq _hq => r_move (v := .pointer (some ⟨bc, 0, none⟩)) rfl) hS ?_
     refine WT_take (dd := some 47) 1 rfl (by kernel_rfl) (by kernel_rfl) (by kernel_rfl) rfl rfl rfl (fun _wq _hq => r_idxA rfl rfl tb_ar156 (by omega) (by omega)) hS ?_
     refine WT_take (dd := some 48) 2 rfl (by kernel_rfl) (by kernel_rfl) (by kernel_rfl) rfl rfl rfl (fun _wq hq => r_load4 rfl tb_ag69 (At.cell (At.dc hD hc hq hm5_0 (by decide) (by decide) (by decide)) rfl) (At.cell (At.dc hD hc hq hm5_0 (by decide) (by decide) (by decide)) rfl) (At.cell (At.dc hD hc hq hm5_0 (by decide) (by decide) (by decide)) rfl) (At.cell (At.dc hD hc hq hm5_0 (by decide) (by decide) (by decide)) rfl)) hS ?_
     refine WT_take (dd := some 49) 3 rfl (by kernel_rfl) (by kernel_rfl) (by kernel_rfl) rfl rfl rfl (fun _wq _hq => r_idxA rfl rfl tb_ar156 (by omega) (by omega)) hS ?_
     refine WT_take (dd := some 50) 4 rfl (by kernel_rfl) (by kernel_rfl) (by kernel_rfl) rfl rfl rfl (fun _wq hq => r_load4 rfl tb_ag69 (At.cell (At.dc hD hc hq hm5_0 (by decide) (by decide) (by decide)) rfl) (At.cell (At.dc hD hc hq hm5_0 (by decide) (by decide) (by decide)) rfl) (At.cell (At.dc hD hc hq hm5_0 (by decide) (by decide) (by decide)) rfl) (At.cell (At.dc hD hc hq hm5_0 (by decide) (by decide) (by decide)) rfl)) hS ?_
     refine WT_take (dd := some 52) 6 rfl (by kernel_rfl) (by kernel_rfl) (by kernel_rfl) rfl rfl rfl (fun _wq hq => r_loadW rfl tb_ag69 rfl (At.dc hD hc hq hm0_1 (by decide) (by decide) (by decide))) hS ?_
     refine WT_take (dd := some 53) 7 rfl (by kernel_rfl) (by kernel_rfl) (by kernel_rfl) rfl rfl rfl (fun _wq _hq => r_move (v := .int .i64 _) rfl) hS ?_
     refine WT_take (dd := some 54) 8 rfl (by kernel_rfl) (by kernel_rfl) (by kernel_rfl) rfl rfl rfl (fun _wq _hq => r_move (v := .int .i64 _) rfl) hS ?_
     refine WT_take (dd := some 55) 9 rfl (by kernel_rfl) (by kernel_rfl) (by kernel_rfl) rfl rfl rfl (fun _wq _hq => r_addI rfl rfl (by omega) (by omega)) hS ?_
     refine WT_one (dd := some 51) 5 (by kernel_rfl) rfl rfl rfl rfl (Yd.call (r_call2 tb_c113 (v0 := .agg #[_, _, _, _]) rfl (v1 := .agg #[_, _, _, _]) rfl) (C_set_And _ _ _) (fun v11_5 W55 hE56 hP11_5 => ⟨.inl (Dc.trans hS (Dc.ext hE56)), ?_⟩))
     have hsz57 := (Nat.le_trans hN0 (Below.size hB))
     have sv58_hz := hz
     have sv58_hc := hc
     have sv58_hB := hB
     have sv58_hm0_0 := hm0_0
     have sv58_hm0_1 := hm0_1
     have sv58_hm5_0 := hm5_0
     replace hz := hE56.at hz
     replace hc := hE56.at hc
     replace hD := Dia.ext hE56 hD
     replace hX := Dc.trans hX (Dc.ext hE56)
     replace hB := below_ext hB hE56 hN0
     replace hm0_0 := hE56.at hm0_0
     replace hm0_1 := hE56.at hm0_1
     replace hm5_0 := hE56.at hm5_0
     replace hS := Dc.trans hS (Dc.ext hE56)
     clear hE56
     clear hsz57
     obtain rfl := hP11_5
     refine WT_one (dd := some 56) 10 (by kernel_rfl) rfl rfl rfl rfl (Yd.callG (r_call5 tb_c107 (v0 := .pointer (some ⟨bc, 0, none⟩)) rfl (v1 := .agg #[_, _, _, _]) rfl (v2 := .agg #[_, _, _, _]) rfl (v3 := .int .i64 _) rfl (v4 := .int .i64 _) rfl) (ih N ba bm bz bc R ns 0 (comB s i) n (i + 1) _ (Nat.le_trans hN0 (Below.size hB)) hz hD hc loc h8 (com_fre h8 hfr hi) (by omega)) (fun v11_10 W59 hP11_10 => ⟨.inl (Dc.trans hS ((by obtain ⟨_, _, _, _, h, _⟩ := hP11_10; exact h))), ?_⟩))
     replace hS := Dc.trans hS ((by obtain ⟨_, _, _, _, h, _⟩ := hP11_10; exact h))
     obtain ⟨ns11_10, e11_10, id11_10, rfl, hx11_10, hz11_10, hD11_10, hc11_10, hp11_10⟩ := hP11_10
     replace hX := Dc.trans hX hx11_10
     replace hB := Below.dx hB (Nat.le_refl _) hN0 hx11_10.dx
     replace hm0_0 := At.dc hD hc hx11_10 hm0_0 (by decide) (by decide) (by decide)
     replace hm0_1 := At.dc hD hc hx11_10 hm0_1 (by decide) (by decide) (by decide)
     replace hm5_0 := At.dc hD hc hx11_10 hm5_0 (by decide) (by decide) (by decide)
     replace hz := hz11_10
     replace hD := hD11_10
     replace hc := hc11_10
     clear hx11_10
     refine WT_take (dd := some 13) 11 rfl (by kernel_rfl) (by kernel_rfl) (by kernel_rfl) rfl rfl rfl (fun _wq _hq => r_assign (v := .int .i64 _) rfl) hS ?_
     refine WT_done (by kernel_rfl) ?_
     try clear sv58_hz sv58_hc sv58_hB sv58_hm0_0 sv58_hm0_1 sv58_hm5_0
     refine hK52 _ _ ?_
     clear hK52 K51
     refine WC_seq (fun K61 hK62 => ?_)
     refine WC_region ?_
     refine WL_val (dd := some 57) rfl rfl rfl (r_move (v := .int .i64 _) rfl) ?_
     refine WL_val (dd := some 14) rfl rfl rfl (r_assign (v := .int .i64 _) rfl) ?_
     refine WL_nil ?_
     refine hK62 _ _ ?_
     clear hK62 K61
     refine WC_seq (fun K63 hK64 => ?_)
     refine WC_seq (fun K65 hK66 => ?_)
     refine WC_region ?_
     refine WL_val (dd := some 58) rfl rfl rfl (r_loadW rfl tb_ag156 rfl hm5_0) ?_
     refine WL_val (dd := some 59) rfl rfl rfl (r_move (v := .int .i64 0) rfl) ?_
     refine WL_nil ?_
     refine hK66 _ _ ?_
     clear hK66 K65
     refine WC_block ?_
     refine WC_loop (σ := (Nat) × (Nat) × (List Nd) × (Int)) [14, 15, 16, 17, 59, 60, 61, 62, 63, 64, 65, 66, 67, 68, 69, 70, 71, 72, 73, 74, 75, 76, 77, 78, 79, 80, 81, 82, 83, 84, 85, 86, 87, 88, 89, 90, 91, 92, 93, 94, 95, 96, 97] (fun (k, oid, nsc, ec) => [(59, .int .i64 (k : Int)), (14, .int .i64 (oid : Int))]) (fun sg W => match sg with | (k, oid, nsc, ec) => (At W bz _ 100) ∧ (Dc 150 128 N bc bz ba bm w W) ∧ (Below N w W) ∧ (At W b0_0 _ 69) ∧ (At W b0_1 _ 69) ∧ (At W b5_0 _ 156) ∧ (Dia 147 150 N ba bm R W nsc) ∧ (At W bc #[.pointer (some ⟨bz, 0, none⟩), .int .i64 ec] 128) ∧ (k ≤ 2) ∧ (LpW ns nsc R n i s k ec id11_10 oid) ∧ (True)) (fun (k, oid, nsc, ec) => 2 - k) ((0, id11_10, ns11_10, e11_10)) ⟨rfl, rfl, trivial⟩ ⟨hz, hX, hB, hm0_0, hm0_1, hm5_0, hD, hc, (Nat.zero_le _), (lp_start hp11_10), trivial⟩ ?_
     clear hz hc hD hX hB hm0_0 hm0_1 hm5_0
     rintro ⟨k, oid, nsc, ec⟩ g68 W67 ⟨hz, hX, hB, hm0_0, hm0_1, hm5_0, hD, hc, hk, hlp, _⟩ J69 hJ70
     refine WC_seq (fun K71 hK72 => ?_)
     refine WC_region ?_
     refine WL_val (dd := some 60) rfl rfl rfl (r_lss rfl rfl) ?_
     refine WL_nil ?_
     refine hK72 _ _ ?_
     clear hK72 K71
     refine WC_seq (fun K73 hK74 => ?_)
     refine WC_cond (b := _) rfl (fun hc3 => ?_) (fun hc3 => ?_)
     ·
      try with_reducible replace hc3 := of_decide_eq_true hc3
      refine WC_skip ?_
      refine hK74 _ _ ?_
      clear hK74 K73
      refine WC_seq (fun K75 hK76 => ?_)
      refine WC_block ?_
      refine WC_seq (fun K77 hK78 => ?_)
      refine WC_region ?_
      refine WL_val (dd := some 61) rfl rfl rfl (r_move (v := .int .i64 _) rfl) ?_
      refine WL_val (dd := some 62) (v := setV (sdB s i k)) rfl rfl rfl (r_indexP rfl rfl Try.underlying156 (by omega) (hx_size _) (hx_part (by omega) _)) ?_
      refine WL_step (dd := some 16) rfl rfl rfl (Y_alloc tb_z69 rfl (fun b15_2 W79 hb80 hE81 hm15_2 => ?_))
      have lo_b15_2 : N ≤ b15_2 := hb80 ▸ (Nat.le_trans hN0 (Below.size hB))
      have ne_b0_0_b15_2 : b0_0 ≠ b15_2 := Nat.ne_of_lt (hb80 ▸ hm0_0.lt)
      have ne_b0_1_b15_2 : b0_1 ≠ b15_2 := Nat.ne_of_lt (hb80 ▸ hm0_1.lt)
      have lz_b15_2 : w.heap.size ≤ b15_2 := hb80 ▸ hX.dx.size
      clear hb80
      replace hz := hE81.at hz
      replace hX := Dc.trans hX (Dc.ext hE81)
      replace hB := below_ext hB hE81 hN0
      replace hm0_0 := hE81.at hm0_0
      replace hm0_1 := hE81.at hm0_1
      replace hm5_0 := hE81.at hm5_0
      replace hD := Dia.ext hE81 hD
      replace hc := hE81.at hc
      clear hE81
      replace hm15_2 : At W79 b15_2 #[wv 0 0, wv 0 1, wv 0 2, wv 0 3] 69 := hm15_2
      refine WL_val (dd := some 15) rfl rfl rfl (r_assign (v := .int .i64 _) rfl) ?_
      refine WL_step (dd := none) rfl rfl rfl (Y_storeW rfl rfl tb_ag69 rfl hm15_2 rfl (by rfl) (fun W82 hG83 hm84 => ?_))
      replace hz := At.grownAt hz hm15_2 hG83 (by decide)
      replace hX := Dc.new hX lz_b15_2 lo_b15_2 hG83 hm15_2 (by decide)
      replace hB := below_grown hB hG83 hN0 (fun j hj => by cases hj; exact lo_b15_2)
      replace hm0_0 := At.grownNe hm0_0 ne_b0_0_b15_2 hG83
      replace hm0_1 := At.grownNe hm0_1 ne_b0_1_b15_2 hG83
      replace hm5_0 := At.grownAt hm5_0 hm15_2 hG83 (by decide)
      replace hD := Dia.grownAt hD hm15_2 hG83 (by decide) (by decide)
      replace hc := At.grownAt hc hm15_2 hG83 (by decide)
      clear hG83 hm15_2
      have hm15_2 := hm84
      clear hm84
      refine WL_nil ?_
      refine hK78 _ _ ?_
      clear hK78 K77
      refine WC_seq (fun K85 hK86 => ?_)
      have hvc := hlp.vc
      have hvo := hlp.vo
      refine WC_draw (fun a b => Dc 150 128 N bc bz ba bm a b) tb_mix (fun W87 hE88 => ?_)
      replace hz := hE88.at hz
      replace hX := Dc.trans hX (Dc.ext hE88)
      replace hB := below_ext hB hE88 hN0
      replace hm0_0 := hE88.at hm0_0
      replace hm0_1 := hE88.at hm0_1
      replace hm5_0 := hE88.at hm5_0
      replace hD := Dia.ext hE88 hD
      replace hc := hE88.at hc
      replace hm15_2 := hE88.at hm15_2
      have hwk0 : Wc 128 bc bz W87 := ⟨_, hc⟩
      have hS : Dc 150 128 N bc bz ba bm W87 W87 := Dc.refl
      refine WT_take (dd := some 63) 0 rfl (by kernel_rfl) (by kernel_rfl) (by kernel_rfl) rfl rfl rfl (fun _wq _hq => r_move (v := .pointer (some ⟨bc, 0, none⟩)) rfl) hS ?_
      refine WT_take (dd := some 64) 1 rfl (by kernel_rfl) (by kernel_rfl) (by kernel_rfl) rfl rfl rfl (fun _wq _hq => r_move (v := .pointer (some ⟨bc, 0, none⟩)) rfl) hS ?_
      refine WT_take (dd := some 65) 2 rfl (by kernel_rfl) (by kernel_rfl) (by kernel_rfl) rfl rfl rfl (fun _wq _hq => r_nilCheck_ptr rfl) hS ?_
      refine WT_take (dd := some 66) 3 rfl (by kernel_rfl) (by kernel_rfl) (by kernel_rfl) rfl rfl rfl (fun _wq _hq => r_fieldAddr (b := _) (o := _) rfl tb_fo128_0) hS ?_
      refine WT_take (dd := some 67) 4 rfl (by kernel_rfl) (by kernel_rfl) (by kernel_rfl) rfl rfl rfl (fun _wq hq => r_load1 (v := .pointer (some ⟨bz, 0, none⟩)) rfl tb_sc24 (Wc.c0 (Dc.wk hq hwk0))) hS ?_
      refine WT_take (dd := some 68) 5 rfl (by kernel_rfl) (by kernel_rfl) (by kernel_rfl) rfl rfl rfl (fun _wq _hq => r_move (v := .pointer (some ⟨bc, 0, none⟩)) rfl) hS ?_
      refine WT_take (dd := some 69) 6 rfl (by kernel_rfl) (by kernel_rfl) (by kernel_rfl) rfl rfl rfl (fun _wq hq => r_loadW rfl tb_ag69 rfl (At.dc hD hc hq hm15_2 (by decide) (by decide) (by decide))) hS ?_
      refine WT_take (dd := some 70) 7 rfl (by kernel_rfl) (by kernel_rfl) (by kernel_rfl) rfl rfl rfl (fun _wq hq => r_loadW rfl tb_ag69 rfl (At.dc hD hc hq hm0_1 (by decide) (by decide) (by decide))) hS ?_
      refine WT_take (dd := some 71) 8 rfl (by kernel_rfl) (by kernel_rfl) (by kernel_rfl) rfl rfl rfl (fun _wq _hq => r_move (v := .int .i64 _) rfl) hS ?_
      refine WT_take (dd := some 72) 9 rfl (by kernel_rfl) (by kernel_rfl) (by kernel_rfl) rfl rfl rfl (fun _wq _hq => r_move (v := .int .i64 _) rfl) hS ?_
      refine WT_take (dd := some 73) 10 rfl (by kernel_rfl) (by kernel_rfl) (by kernel_rfl) rfl rfl rfl (fun _wq _hq => r_addI rfl rfl (by omega) (by omega)) hS ?_
      refine WT_take (dd := some 75) 12 rfl (by kernel_rfl) (by kernel_rfl) (by kernel_rfl) rfl rfl rfl (fun _wq _hq => r_move (v := .int .i64 _) rfl) hS ?_
      refine WT_one (dd := some 74) 11 (by kernel_rfl) rfl rfl rfl rfl (Yd.callG (r_call5 tb_c107 (v0 := .pointer (some ⟨bc, 0, none⟩)) rfl (v1 := .agg #[_, _, _, _]) rfl (v2 := .agg #[_, _, _, _]) rfl (v3 := .int .i64 _) rfl (v4 := .int .i64 _) rfl) (ih N ba bm bz bc R nsc ec (sdB s i k) n (i + 1) _ (Nat.le_trans hN0 (Below.size hB)) hz hD hc loc h8 (sd_fre h8 hfr hi k) (by omega)) (fun v16_11 W89 hP16_11 => ⟨.inl (Dc.trans hS ((by obtain ⟨_, _, _, _, h, _⟩ := hP16_11; exact h))), ?_⟩))
      replace hS := Dc.trans hS ((by obtain ⟨_, _, _, _, h, _⟩ := hP16_11; exact h))
      obtain ⟨ns16_11, e16_11, id16_11, rfl, hx16_11, hz16_11, hD16_11, hc16_11, hp16_11⟩ := hP16_11
      replace hX := Dc.trans hX hx16_11
      replace hB := Below.dx hB (Nat.le_refl _) hN0 hx16_11.dx
      replace hm0_0 := At.dc hD hc hx16_11 hm0_0 (by decide) (by decide) (by decide)
      replace hm0_1 := At.dc hD hc hx16_11 hm0_1 (by decide) (by decide) (by decide)
      replace hm5_0 := At.dc hD hc hx16_11 hm5_0 (by decide) (by decide) (by decide)
      replace hm15_2 := At.dc hD hc hx16_11 hm15_2 (by decide) (by decide) (by decide)
      replace hz := hz16_11
      replace hD := hD16_11
      replace hc := hc16_11
      clear hx16_11
      have hwa := hD.wf
      have hla := pre_len hp16_11.pre
      refine WT_one (dd := some 76) 13 (by kernel_rfl) rfl rfl rfl rfl (Yd.callG (r_call3 tb_c35 (v0 := .pointer (some ⟨bz, 0, none⟩)) rfl (v1 := .int .i64 _) rfl (v2 := .int .i64 _) rfl) (C___zdd_Zdd__Less N ba bm bz R ns16_11 id16_11 id11_10 _ (Nat.le_trans hN0 (Below.size hB)) hz hD hp16_11.v (by omega)) (fun v16_13 W91 hP16_13 => ⟨.inl (Dc.trans hS (Dc.zdd hD (PO.dx hP16_13) (by decide) (by decide))), ?_⟩))
      replace hS := Dc.trans hS (Dc.zdd hD (PO.dx hP16_13) (by decide) (by decide))
      obtain ⟨ns16_13, id16_13, er16_13, rfl, hx16_13, hDn16_13, hg16_13⟩ := hP16_13
      replace hz := At.dx hD hx16_13 hz (by decide) (by decide)
      replace hX := Dc.trans hX (Dc.zdd hD hx16_13 (by decide) (by decide))
      replace hB := Below.dx hB (Nat.le_refl _) hN0 hx16_13
      replace hm0_0 := At.dx hD hx16_13 hm0_0 (by decide) (by decide)
      replace hm0_1 := At.dx hD hx16_13 hm0_1 (by decide) (by decide)
      replace hm5_0 := At.dx hD hx16_13 hm5_0 (by decide) (by decide)
      replace hc := At.dx hD hx16_13 hc (by decide) (by decide)
      replace hm15_2 := At.dx hD hx16_13 hm15_2 (by decide) (by decide)
      replace hD := hDn16_13
      have hwb := hD.wf
      have hlb := pre_len hg16_13.pre
      refine WT_take (dd := some 77) 14 rfl (by kernel_rfl) (by kernel_rfl) (by kernel_rfl) rfl rfl rfl (fun _wq _hq => r_ext2_0 (h := rfl)) hS ?_
      refine WT_take (dd := some 78) 15 rfl (by kernel_rfl) (by kernel_rfl) (by kernel_rfl) rfl rfl rfl (fun _wq _hq => r_ext2_1 (h := rfl)) hS ?_
      refine WT_one (dd := some 79) 16 (by kernel_rfl) rfl rfl rfl rfl (Yd.callG (r_call3 tb_c114 (v0 := .pointer (some ⟨bc, 0, none⟩)) rfl (v1 := .int .i64 _) rfl (v2 := .int .i64 _) rfl) (C___tagged_chain__did N bc bz _ _ _ _ (Nat.le_trans hN0 (Below.size hB)) hc loc) (fun v16_16 W93 hP16_16 => ⟨.inl (Dc.trans hS (Dc.did hP16_16.1 loc hP16_16.2.1)), ?_⟩))
      replace hS := Dc.trans hS (Dc.did hP16_16.1 loc hP16_16.2.1)
      obtain ⟨hG16_16, hc16_16, rfl⟩ := hP16_16
      replace hX := Dc.trans hX (Dc.did hG16_16 loc hc16_16)
      have sv95_hz := hz
      have sv95_hB := hB
      have sv95_hm0_0 := hm0_0
      have sv95_hm0_1 := hm0_1
      have sv95_hm5_0 := hm5_0
      have sv95_hc := hc
      have sv95_hm15_2 := hm15_2
      replace hz := At.grownAt hz hc hG16_16 (by decide)
      replace hB := below_grown hB hG16_16 hN0 (fun j hj => by cases hj; exact loc)
      replace hm0_0 := At.grownAt hm0_0 hc hG16_16 (by decide)
      replace hm0_1 := At.grownAt hm0_1 hc hG16_16 (by decide)
      replace hm5_0 := At.grownAt hm5_0 hc hG16_16 (by decide)
      replace hD := Dia.grownAt hD hc hG16_16 (by decide) (by decide)
      replace hm15_2 := At.grownAt hm15_2 hc hG16_16 (by decide)
      replace hc := hc16_16
      clear hG16_16
      refine WT_take (dd := some 17) 17 rfl (by kernel_rfl) (by kernel_rfl) (by kernel_rfl) rfl rfl rfl (fun _wq _hq => r_assign (v := .int .i64 _) rfl) hS ?_
      refine WT_done (by kernel_rfl) ?_
      try clear sv95_hz sv95_hB sv95_hm0_0 sv95_hm0_1 sv95_hm5_0 sv95_hm15_2
      refine hK86 _ _ ?_
      clear hK86 K85
      refine WC_draw (fun a b => Dc 150 128 N bc bz ba bm a b) tb_mix (fun W96 hE97 => ?_)
      replace hz := hE97.at hz
      replace hB := below_ext hB hE97 hN0
      replace hm0_0 := hE97.at hm0_0
      replace hm0_1 := hE97.at hm0_1
      replace hm5_0 := hE97.at hm5_0
      replace hD := Dia.ext hE97 hD
      replace hc := hE97.at hc
      replace hm15_2 := hE97.at hm15_2
      replace hX := Dc.trans hX (Dc.ext hE97)
      have hwk0 : Wc 128 bc bz W96 := ⟨_, hc⟩
      have hS : Dc 150 128 N bc bz ba bm W96 W96 := Dc.refl
      refine WT_take (dd := some 80) 0 rfl (by kernel_rfl) (by kernel_rfl) (by kernel_rfl) rfl rfl rfl (fun _wq _hq => r_move (v := .pointer (some ⟨bc, 0, none⟩)) rfl) hS ?_
      refine WT_take (dd := some 81) 1 rfl (by kernel_rfl) (by kernel_rfl) (by kernel_rfl) rfl rfl rfl (fun _wq _hq => r_move (v := .pointer (some ⟨bc, 0, none⟩)) rfl) hS ?_
      refine WT_take (dd := some 82) 2 rfl (by kernel_rfl) (by kernel_rfl) (by kernel_rfl) rfl rfl rfl (fun _wq _hq => r_nilCheck_ptr rfl) hS ?_
      refine WT_take (dd := some 83) 3 rfl (by kernel_rfl) (by kernel_rfl) (by kernel_rfl) rfl rfl rfl (fun _wq _hq => r_fieldAddr (b := _) (o := _) rfl tb_fo128_0) hS ?_
      refine WT_take (dd := some 84) 4 rfl (by kernel_rfl) (by kernel_rfl) (by kernel_rfl) rfl rfl rfl (fun _wq hq => r_load1 (v := .pointer (some ⟨bz, 0, none⟩)) rfl tb_sc24 (Wc.c0 (Dc.wk hq hwk0))) hS ?_
      refine WT_take (dd := some 85) 5 rfl (by kernel_rfl) (by kernel_rfl) (by kernel_rfl) rfl rfl rfl (fun _wq _hq => r_move (v := .int .i64 _) rfl) hS ?_
      refine WT_take (dd := some 86) 6 rfl (by kernel_rfl) (by kernel_rfl) (by kernel_rfl) rfl rfl rfl (fun _wq _hq => r_move (v := .pointer (some ⟨bc, 0, none⟩)) rfl) hS ?_
      refine WT_take (dd := some 87) 7 rfl (by kernel_rfl) (by kernel_rfl) (by kernel_rfl) rfl rfl rfl (fun _wq _hq => r_move (v := .int .i64 _) rfl) hS ?_
      refine WT_take (dd := some 88) 8 rfl (by kernel_rfl) (by kernel_rfl) (by kernel_rfl) rfl rfl rfl (fun _wq _hq => r_move (v := .int .i64 _) rfl) hS ?_
      refine WT_take (dd := some 89) 9 rfl (by kernel_rfl) (by kernel_rfl) (by kernel_rfl) rfl rfl rfl (fun _wq _hq => r_mulI rfl rfl (by omega) (by omega)) hS ?_
      refine WT_take (dd := some 90) 10 rfl (by kernel_rfl) (by kernel_rfl) (by kernel_rfl) rfl rfl rfl (fun _wq _hq => r_move (v := .int .i64 _) rfl) hS ?_
      refine WT_take (dd := some 91) 11 rfl (by kernel_rfl) (by kernel_rfl) (by kernel_rfl) rfl rfl rfl (fun _wq _hq => r_addI rfl rfl (by omega) (by omega)) hS ?_
      refine WT_one (dd := some 92) 12 (by kernel_rfl) rfl rfl rfl rfl (Yd.callG (r_call3 tb_c133 (v0 := .pointer (some ⟨bc, 0, none⟩)) rfl (v1 := .int .i64 _) rfl (v2 := .int .i64 _) rfl) (C___tagged_chain__with N ba bm bz bc R ns16_13 (didE e16_11 er16_13) (didV e16_11 er16_13 id16_13) (2 * i + k) _ (Nat.le_trans hN0 (Below.size hB)) hz hD hc loc (didV_v hg16_13.valid) (by omega)) (fun v17_12 W98 hP17_12 => ⟨.inl (Dc.trans hS ((by obtain ⟨_, _, _, _, h, _⟩ := hP17_12; exact h))), ?_⟩))
      replace hS := Dc.trans hS ((by obtain ⟨_, _, _, _, h, _⟩ := hP17_12; exact h))
      obtain ⟨ns17_12, e17_12, id17_12, rfl, hx17_12, hz17_12, hD17_12, hc17_12, hp17_12⟩ := hP17_12
      replace hB := Below.dx hB (Nat.le_refl _) hN0 hx17_12.dx
      replace hm0_0 := At.dc hD hc hx17_12 hm0_0 (by decide) (by decide) (by decide)
      replace hm0_1 := At.dc hD hc hx17_12 hm0_1 (by decide) (by decide) (by decide)
      replace hm5_0 := At.dc hD hc hx17_12 hm5_0 (by decide) (by decide) (by decide)
      replace hm15_2 := At.dc hD hc hx17_12 hm15_2 (by decide) (by decide) (by decide)
      replace hX := Dc.trans hX hx17_12
      replace hz := hz17_12
      replace hD := hD17_12
      replace hc := hc17_12
      clear hx17_12
      have hwc := hD.wf
      have hlc := pre_len hp17_12.pre
      refine WT_one (dd := some 93) 13 (by kernel_rfl) rfl rfl rfl rfl (Yd.callG (r_call3 tb_c33 (v0 := .pointer (some ⟨bz, 0, none⟩)) rfl (v1 := .int .i64 _) rfl (v2 := .int .i64 _) rfl) (C___zdd_Zdd__Union N ba bm bz R ns17_12 oid id17_12 _ (Nat.le_trans hN0 (Below.size hB)) hz hD (by omega) hp17_12.v) (fun v17_13 W100 hP17_13 => ⟨.inl (Dc.trans hS (Dc.zdd hD (PO.dx hP17_13) (by decide) (by decide))), ?_⟩))
      replace hS := Dc.trans hS (Dc.zdd hD (PO.dx hP17_13) (by decide) (by decide))
      obtain ⟨ns17_13, id17_13, er17_13, rfl, hx17_13, hDn17_13, hg17_13⟩ := hP17_13
      replace hz := At.dx hD hx17_13 hz (by decide) (by decide)
      replace hB := Below.dx hB (Nat.le_refl _) hN0 hx17_13
      replace hm0_0 := At.dx hD hx17_13 hm0_0 (by decide) (by decide)
      replace hm0_1 := At.dx hD hx17_13 hm0_1 (by decide) (by decide)
      replace hm5_0 := At.dx hD hx17_13 hm5_0 (by decide) (by decide)
      replace hc := At.dx hD hx17_13 hc (by decide) (by decide)
      replace hm15_2 := At.dx hD hx17_13 hm15_2 (by decide) (by decide)
      replace hX := Dc.trans hX (Dc.zdd hD hx17_13 (by decide) (by decide))
      replace hD := hDn17_13
      have hwd := hD.wf
      refine WT_take (dd := some 94) 14 rfl (by kernel_rfl) (by kernel_rfl) (by kernel_rfl) rfl rfl rfl (fun _wq _hq => r_ext2_0 (h := rfl)) hS ?_
      refine WT_take (dd := some 95) 15 rfl (by kernel_rfl) (by kernel_rfl) (by kernel_rfl) rfl rfl rfl (fun _wq _hq => r_ext2_1 (h := rfl)) hS ?_
      refine WT_one (dd := some 96) 16 (by kernel_rfl) rfl rfl rfl rfl (Yd.callG (r_call3 tb_c114 (v0 := .pointer (some ⟨bc, 0, none⟩)) rfl (v1 := .int .i64 _) rfl (v2 := .int .i64 _) rfl) (C___tagged_chain__did N bc bz _ _ _ _ (Nat.le_trans hN0 (Below.size hB)) hc loc) (fun v17_16 W102 hP17_16 => ⟨.inl (Dc.trans hS (Dc.did hP17_16.1 loc hP17_16.2.1)), ?_⟩))
      replace hS := Dc.trans hS (Dc.did hP17_16.1 loc hP17_16.2.1)
      obtain ⟨hG17_16, hc17_16, rfl⟩ := hP17_16
      replace hX := Dc.trans hX (Dc.did hG17_16 loc hc17_16)
      have sv104_hz := hz
      have sv104_hB := hB
      have sv104_hm0_0 := hm0_0
      have sv104_hm0_1 := hm0_1
      have sv104_hm5_0 := hm5_0
      have sv104_hc := hc
      have sv104_hm15_2 := hm15_2
      replace hz := At.grownAt hz hc hG17_16 (by decide)
      replace hB := below_grown hB hG17_16 hN0 (fun j hj => by cases hj; exact loc)
      replace hm0_0 := At.grownAt hm0_0 hc hG17_16 (by decide)
      replace hm0_1 := At.grownAt hm0_1 hc hG17_16 (by decide)
      replace hm5_0 := At.grownAt hm5_0 hc hG17_16 (by decide)
      replace hD := Dia.grownAt hD hc hG17_16 (by decide) (by decide)
      replace hm15_2 := At.grownAt hm15_2 hc hG17_16 (by decide)
      replace hc := hc17_16
      clear hG17_16
      refine WT_take (dd := some 14) 17 rfl (by kernel_rfl) (by kernel_rfl) (by kernel_rfl) rfl rfl rfl (fun _wq _hq => r_assign (v := .int .i64 _) rfl) hS ?_
      refine WT_done (by kernel_rfl) ?_
      try clear sv104_hz sv104_hB sv104_hm0_0 sv104_hm0_1 sv104_hm5_0 sv104_hm15_2
      refine hK76 _ _ ?_
      clear hK76 K75
      refine WC_region ?_
      refine WL_val (dd := some 97) rfl rfl rfl (r_addI rfl rfl (by omega) (by omega)) ?_
      refine WL_val (dd := some 59) rfl rfl rfl (r_move (v := .int .i64 _) rfl) ?_
      refine WL_nil ?_
      refine hJ70 _ _ ((k + 1, didV e17_12 er17_13 id17_13, ns17_13, didE e17_12 er17_13)) ?_ ?_ ?_ ?_
      · repeat (first | exact agree.mask _ _ _ | refine agree.updo ?_ rfl _ | refine agree.updL ?_ _ rfl | refine agree.maskS rfl ?_)
      · exact ⟨rfl, rfl, trivial⟩
      · exact ⟨hz, hX, hB, hm0_0, hm0_1, hm5_0, hD, (by exact hc), (by omega), (lp_step h8 hfr hi (by omega) hlp hwa hwb hwc hwd hp16_11 hg16_13 hp17_12 hg17_13), trivial⟩
      · show 2 - (k + 1) < 2 - k; omega
     ·
      try with_reducible replace hc3 := of_decide_eq_false hc3
      refine WC_exit ?_
      refine hK64 _ _ ?_
      clear hK74 K73
      clear hJ70 J69
      clear hK64 K63
      refine WC_seq (fun K105 hK106 => ?_)
      refine WC_region ?_
      refine WL_val (dd := some 98) rfl rfl rfl (r_move (v := .int .i64 _) rfl) ?_
      refine WL_val (dd := some 10) rfl rfl rfl (r_assign (v := .int .i64 _) rfl) ?_
      refine WL_nil ?_
      refine hK106 _ _ ?_
      clear hK106 K105
      refine WC_ret ?_
      repeat (first | refine thenQ_ret ?_ | refine blockQ_ret ?_)
      refine ret_t (v := .int .i64 _) rfl ?_
      obtain rfl : k = 2 := by omega
      exact ⟨_, _, _, rfl, hX, hz, hD, hc, lp_end h8 hfr hi hlp⟩

end Go.Proofs.Ytpamgfbecgjjeaa
