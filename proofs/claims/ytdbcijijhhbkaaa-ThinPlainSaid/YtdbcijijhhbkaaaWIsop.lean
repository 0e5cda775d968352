/-
  The walks of package isop.
-/
import Derived.Test.YtdbcijijhhbkaaaProg
import Derived.Test.YtdbcijijhhbkaaaWAll
import Derived.Test.YtdbcijijhhbkaaaIsop
namespace Go.Proofs.Ytdbcijijhhbkaaa
set_option linter.unusedVariables false
set_option linter.unusedSimpArgs false
open Go Go.RowKit

theorem tb_c94 : callB Try.prog 94 = true := by kernel_rfl
theorem tb_el27 : elemI Try.prog 27 = some (34, 2, 2) := by kernel_rfl
theorem tb_fo106_0 : fieldO Try.prog 106 0 = some 0 := by kernel_rfl
theorem tb_c30 : callB Try.prog 30 = true := by kernel_rfl
theorem tb_ag106 : aggN Try.prog 106 = some 5 := by kernel_rfl
theorem tb_ar134 : arrI Try.prog 134 = some (2, 4) := by kernel_rfl
theorem tb_c97 : callB Try.prog 97 = true := by kernel_rfl
theorem tb_c138 : callB Try.prog 138 = true := by kernel_rfl
theorem tb_sc27 : scalarB Try.prog 27 = true := by kernel_rfl
theorem tb_zs34 : (zeroI Try.prog 34).map (fun z => z.cells.size) = some 2 := by kernel_rfl
theorem tb_fo106_1 : fieldO Try.prog 106 1 = some 1 := by kernel_rfl
theorem tb_z134 : zeroI Try.prog 134 = some (.agg #[.int .u64 0, .int .u64 0, .int .u64 0, .int .u64 0, .int .u64 0, .int .u64 0, .int .u64 0, .int .u64 0]) := by kernel_rfl
theorem tb_c33 : callB Try.prog 33 = true := by kernel_rfl
theorem tb_z27 : zeroI Try.prog 27 = some (.slice none 0 0) := by kernel_rfl
theorem tb_c137 : callB Try.prog 137 = true := by kernel_rfl
theorem tb_c115 : callB Try.prog 115 = true := by kernel_rfl

theorem C_isop_Side (s : Nat) (i : Int) (one : Bool) (w : World) :
    Fn Try.prog 33 #[setV s, .int .i64 i, .bool one] w fun v w' => v = setV (if 0 ≤ i ∧ i < 8 then sideS s i.toNat one else 0) := by
 refine Fn_intro (n := 31) Try.func33 rfl rfl (Nat.le_of_ble_eq_true rfl) ?_
 have hB : Below w.heap.size w w := Below.refl _ _
 refine WC_seq (fun K1 hK2 => ?_)
 refine WC_region ?_
 refine WL_step (dd := some 3) rfl rfl rfl (Y_box (c := #[_, _, _, _]) rfl rfl (fun b0_0 W3 hb4 hE5 hm0_0 => ?_))
 have lo_b0_0 : w.heap.size ≤ b0_0 := hb4 ▸ (Below.size hB)
 clear hb4
 replace hB := below_ext hB hE5 (Nat.le_refl _)
 clear hE5
 refine WL_step (dd := some 6) rfl rfl rfl (Y_alloc tb_z24 rfl (fun b0_1 W6 hb7 hE8 hm0_1 => ?_))
 have lo_b0_1 : w.heap.size ≤ b0_1 := hb7 ▸ (Below.size hB)
 have ne_b0_0_b0_1 : b0_0 ≠ b0_1 := Nat.ne_of_lt (hb7 ▸ hm0_0.lt)
 clear hb7
 replace hB := below_ext hB hE8 (Nat.le_refl _)
 replace hm0_0 := hE8.at hm0_0
 clear hE8
 replace hm0_1 : At W6 b0_1 #[wv 0 0, wv 0 1, wv 0 2, wv 0 3] 24 := hm0_1
 refine WL_nil ?_
 refine hK2 _ _ ?_
 clear hK2 K1
 refine WC_seq (fun K9 hK10 => ?_)
 refine WC_region ?_
 refine WL_val (dd := some 11) rfl rfl rfl (r_loadW rfl tb_ag24 rfl hm0_0) ?_
 refine WL_val (dd := some 12) rfl rfl rfl (r_move (v := .int .i64 _) rfl) ?_
 refine WL_val (dd := some 13) rfl rfl rfl (r_move (v := .bool _) rfl) ?_
 refine WL_call (dd := some 14) rfl rfl rfl (r_call3 tb_c94 (v0 := .agg #[_, _, _, _]) rfl (v1 := .int .i64 _) rfl (v2 := .bool _) rfl) (C_set_Half _ _ _ _) (fun v1_3 W11 hE12 hP1_3 => ?_)
 have hsz13 := (Below.size hB)
 replace hB := below_ext hB hE12 (Nat.le_refl _)
 replace hm0_0 := hE12.at hm0_0
 replace hm0_1 := hE12.at hm0_1
 clear hE12
 clear hsz13
 obtain rfl := hP1_3
 generalize hH : (if 0 ≤ i ∧ i < 8 then halfS s i.toNat one else 0) = H
 refine WL_step (dd := some 7) rfl rfl rfl (Y_alloc tb_z24 rfl (fun b1_4 W14 hb15 hE16 hm1_4 => ?_))
 have lo_b1_4 : w.heap.size ≤ b1_4 := hb15 ▸ (Below.size hB)
 have ne_b0_0_b1_4 : b0_0 ≠ b1_4 := Nat.ne_of_lt (hb15 ▸ hm0_0.lt)
 have ne_b0_1_b1_4 : b0_1 ≠ b1_4 := Nat.ne_of_lt (hb15 ▸ hm0_1.lt)
 clear hb15
 replace hB := below_ext hB hE16 (Nat.le_refl _)
 replace hm0_0 := hE16.at hm0_0
 replace hm0_1 := hE16.at hm0_1
 clear hE16
 replace hm1_4 : At W14 b1_4 #[wv 0 0, wv 0 1, wv 0 2, wv 0 3] 24 := hm1_4
 refine WL_step (dd := none) rfl rfl rfl (Y_storeW rfl rfl tb_ag24 rfl hm1_4 rfl (by rfl) (fun W17 hG18 hm19 => ?_))
 replace hB := below_grown hB hG18 (Nat.le_refl _) (fun j hj => by cases hj; exact lo_b1_4)
 replace hm0_0 := At.grownNe hm0_0 ne_b0_0_b1_4 hG18
 replace hm0_1 := At.grownNe hm0_1 ne_b0_1_b1_4 hG18
 clear hG18 hm1_4
 have hm1_4 := hm19
 clear hm19
 refine WL_nil ?_
 refine hK10 _ _ ?_
 clear hK10 K9
 refine WC_seq (fun K20 hK21 => ?_)
 refine WC_region ?_
 refine WL_val (dd := some 15) rfl rfl rfl (r_loadW rfl tb_ag24 rfl hm1_4) ?_
 refine WL_step (dd := some 8) rfl rfl rfl (Y_alloc tb_z24 rfl (fun b2_1 W22 hb23 hE24 hm2_1 => ?_))
 have lo_b2_1 : w.heap.size ≤ b2_1 := hb23 ▸ (Below.size hB)
 have ne_b0_0_b2_1 : b0_0 ≠ b2_1 := Nat.ne_of_lt (hb23 ▸ hm0_0.lt)
 have ne_b0_1_b2_1 : b0_1 ≠ b2_1 := Nat.ne_of_lt (hb23 ▸ hm0_1.lt)
 have ne_b1_4_b2_1 : b1_4 ≠ b2_1 := Nat.ne_of_lt (hb23 ▸ hm1_4.lt)
 clear hb23
 replace hB := below_ext hB hE24 (Nat.le_refl _)
 replace hm0_0 := hE24.at hm0_0
 replace hm0_1 := hE24.at hm0_1
 replace hm1_4 := hE24.at hm1_4
 clear hE24
 replace hm2_1 : At W22 b2_1 #[wv 0 0, wv 0 1, wv 0 2, wv 0 3] 24 := hm2_1
 refine WL_step (dd := none) rfl rfl rfl (Y_storeW rfl rfl tb_ag24 rfl hm2_1 rfl (by rfl) (fun W25 hG26 hm27 => ?_))
 replace hB := below_grown hB hG26 (Nat.le_refl _) (fun j hj => by cases hj; exact lo_b2_1)
 replace hm0_0 := At.grownNe hm0_0 ne_b0_0_b2_1 hG26
 replace hm0_1 := At.grownNe hm0_1 ne_b0_1_b2_1 hG26
 replace hm1_4 := At.grownNe hm1_4 ne_b1_4_b2_1 hG26
 clear hG26 hm2_1
 have hm2_1 := hm27
 clear hm27
 refine WL_nil ?_
 refine hK21 _ _ ?_
 clear hK21 K20
 refine WC_seq (fun K28 hK29 => ?_)
 refine WC_seq (fun K30 hK31 => ?_)
 refine WC_region ?_
 refine WL_val (dd := some 16) rfl rfl rfl (r_loadW rfl tb_ag24 rfl hm1_4) ?_
 refine WL_call (dd := some 17) rfl rfl rfl (r_call1 tb_c83 (v0 := .agg #[_, _, _, _]) rfl) (C_set_List _ _) (fun v3_1 W32 hE33 hP3_1 => ?_)
 have hsz34 := (Below.size hB)
 replace hB := below_ext hB hE33 (Nat.le_refl _)
 replace hm0_0 := hE33.at hm0_0
 replace hm0_1 := hE33.at hm0_1
 replace hm1_4 := hE33.at hm1_4
 replace hm2_1 := hE33.at hm2_1
 clear hE33
 replace hP3_1 := OwT.mono hP3_1 hsz34
 clear hsz34
 refine WL_val (dd := some 18) rfl rfl rfl (r_lenS (v := v3_1) rfl hP3_1.sl tb_el57) ?_
 refine WL_val (dd := some 19) rfl rfl rfl (r_move (v := .int .i64 0) rfl) ?_
 refine WL_nil ?_
 refine hK31 _ _ ?_
 clear hK31 K30
 refine WC_block ?_
 refine WC_loop (σ := (Nat)) [10, 19, 20, 21, 22, 23, 24, 25, 26, 27, 28, 29] (fun k => [(19, .int .i64 (k : Int))]) (fun k W => (Below w.heap.size w W) ∧ (At W b0_0 _ 24) ∧ (At W b0_1 _ 24) ∧ (At W b1_4 _ 24) ∧ (OwT encI 1 3 W w.heap.size v3_1 _) ∧ (At W b2_1 #[wv (sideTo (listS H) H i.toNat k) 0, wv (sideTo (listS H) H i.toNat k) 1, wv (sideTo (listS H) H i.toNat k) 2, wv (sideTo (listS H) H i.toNat k) 3] 24) ∧ (k ≤ (listS H).length) ∧ (True)) (fun k => (listS H).length - k) (0) ⟨rfl, trivial⟩ ⟨hB, hm0_0, hm0_1, hm1_4, hP3_1, hm2_1, (Nat.zero_le _), trivial⟩ ?_
 clear hB hm0_0 hm0_1 hm1_4 hm2_1 hP3_1
 rintro k g36 W35 ⟨hB, hm0_0, hm0_1, hm1_4, hP3_1, hm2_1, hk, _⟩ J37 hJ38
 refine WC_seq (fun K39 hK40 => ?_)
 have hll := listS_len H
 refine WC_region ?_
 refine WL_val (dd := some 20) rfl rfl rfl (r_lss rfl rfl) ?_
 refine WL_nil ?_
 refine hK40 _ _ ?_
 clear hK40 K39
 refine WC_seq (fun K41 hK42 => ?_)
 refine WC_cond (b := _) rfl (fun hc0 => ?_) (fun hc0 => ?_)
 ·
  try with_reducible replace hc0 := of_decide_eq_true hc0
  refine WC_skip ?_
  refine hK42 _ _ ?_
  clear hK42 K41
  refine WC_seq (fun K43 hK44 => ?_)
  refine WC_block ?_
  refine WC_seq (fun K45 hK46 => ?_)
  have hi8 : 0 ≤ i ∧ i < 8 := side_in hH hc0
  obtain ⟨p, hp1, hp2, hp3⟩ := listS_get (s := H) (i := k) (by omega)
  have h7 := pow7 (show i.toNat < 8 by omega)
  refine WC_region ?_
  refine WL_val (dd := some 21) rfl rfl rfl (r_idxS (v := v3_1) rfl hP3_1.sl rfl tb_el57 (by omega) (by first | omega | (simp only [flagsTo_len, litsTo_len, firstF_len, ptF_len]; omega))) ?_
  refine WL_val (dd := some 22) rfl rfl rfl (r_load1 (v := .int .i64 _) rfl tb_sc3 (SlT.cell hP3_1.sl encI_len 0 (by omega) (by first | omega | (simp only [flagsTo_len, litsTo_len, firstF_len, ptF_len]; omega)) 0 rfl)) ?_
  refine WL_val (dd := some 10) rfl rfl rfl (r_assign (v := .int .i64 _) rfl) ?_
  refine WL_nil ?_
  refine hK46 _ _ ?_
  clear hK46 K45
  have hp4 : (listS H).getD (k : Int).toNat 0 = (p : Int) := hp3
  rw [hp4]
  refine WC_draw Ext tb_mix (fun W47 hE48 => ?_)
  replace hB := below_ext hB hE48 (Nat.le_refl _)
  replace hm0_0 := hE48.at hm0_0
  replace hm0_1 := hE48.at hm0_1
  replace hm1_4 := hE48.at hm1_4
  replace hP3_1 := hE48.ow hP3_1
  replace hm2_1 := hE48.at hm2_1
  have hS := Ext.refl W47
  refine WT_take (dd := some 23) 0 rfl (by kernel_rfl) (by kernel_rfl) (by kernel_rfl) rfl rfl rfl (fun _wq hq => r_loadW rfl tb_ag24 rfl (hq.at hm2_1)) hS ?_
  refine WT_take (dd := some 24) 1 rfl (by kernel_rfl) (by kernel_rfl) (by kernel_rfl) rfl rfl rfl (fun _wq _hq => r_move (v := .int .i64 _) rfl) hS ?_
  refine WT_take (dd := some 25) 2 rfl (by kernel_rfl) (by kernel_rfl) (by kernel_rfl) rfl rfl rfl (fun _wq _hq => r_move (v := .int .i64 _) rfl) hS ?_
  refine WT_take (dd := some 26) 3 rfl (by kernel_rfl) (by kernel_rfl) (by kernel_rfl) rfl rfl rfl (fun _wq _hq => r_shl (m := 1) rfl rfl (by omega) (by simp only [IntKind.bits]; omega) (by simp only [topN]; omega)) hS ?_
  refine WT_take (dd := some 27) 4 rfl (by kernel_rfl) (by kernel_rfl) (by kernel_rfl) rfl rfl rfl (fun _wq _hq => r_xor (n := _) rfl rfl rfl (by simp only [topN]; omega) (by simp only [topN]; omega)) hS ?_
  refine WT_one (dd := some 28) 5 (by kernel_rfl) rfl rfl rfl rfl (Yd.call (r_call2 tb_c89 (v0 := .agg #[_, _, _, _]) rfl (v1 := .int .i64 _) rfl) (C_set_With _ _ _) (fun v6_5 W49 hE50 hP6_5 => ⟨.inl (hS.trans hE50), ?_⟩))
  have hsz51 := (Below.size hB)
  have sv52_hB := hB
  have sv52_hm0_0 := hm0_0
  have sv52_hm0_1 := hm0_1
  have sv52_hm1_4 := hm1_4
  have sv52_hP3_1 := hP3_1
  have sv52_hm2_1 := hm2_1
  replace hB := below_ext hB hE50 (Nat.le_refl _)
  replace hm0_0 := hE50.at hm0_0
  replace hm0_1 := hE50.at hm0_1
  replace hm1_4 := hE50.at hm1_4
  replace hP3_1 := hE50.ow hP3_1
  replace hm2_1 := hE50.at hm2_1
  replace hS := hS.trans hE50
  clear hE50
  clear hsz51
  obtain rfl := hP6_5
  refine WT_one (dd := none) 6 (by kernel_rfl) rfl rfl rfl rfl (Y_storeW rfl rfl tb_ag24 rfl hm2_1 rfl (by rfl) (fun W53 hG54 hm55 => ⟨.inr (by kernel_rfl), ?_⟩))
  replace hB := below_grown hB hG54 (Nat.le_refl _) (fun j hj => by cases hj; exact lo_b2_1)
  replace hm0_0 := At.grownNe hm0_0 ne_b0_0_b2_1 hG54
  replace hm0_1 := At.grownNe hm0_1 ne_b0_1_b2_1 hG54
  replace hm1_4 := At.grownNe hm1_4 ne_b1_4_b2_1 hG54
  replace hP3_1 := OwT.grownAt hP3_1 hm2_1 hG54 (by decide)
  clear hG54 hm2_1
  have hm2_1 := hm55
  clear hm55
  refine WT_done (by kernel_rfl) ?_
  try clear sv52_hB sv52_hm0_0 sv52_hm0_1 sv52_hm1_4 sv52_hP3_1
  refine hK44 _ _ ?_
  clear hK44 K43
  refine WC_region ?_
  refine WL_val (dd := some 29) rfl rfl rfl (r_addI rfl rfl (by omega) (by omega)) ?_
  refine WL_val (dd := some 19) rfl rfl rfl (r_move (v := .int .i64 _) rfl) ?_
  refine WL_nil ?_
  refine hJ38 _ _ (k + 1) ?_ ?_ ?_ ?_
  · repeat (first | exact agree.mask _ _ _ | refine agree.updo ?_ rfl _ | refine agree.updL ?_ _ rfl | refine agree.maskS rfl ?_)
  · exact ⟨rfl, trivial⟩
  · exact ⟨hB, hm0_0, hm0_1, hm1_4, hP3_1, (by rw [sideTo_succ (by omega), hp3, Int.toNat_natCast, ← Nat.one_mul (2 ^ i.toNat)]; exact hm2_1), (by omega), trivial⟩
  · first | omega | (dsimp only; omega)
 ·
  try with_reducible replace hc0 := of_decide_eq_false hc0
  refine WC_exit ?_
  refine hK29 _ _ ?_
  clear hK42 K41
  clear hJ38 J37
  clear hK29 K28
  refine WC_seq (fun K56 hK57 => ?_)
  refine WC_region ?_
  refine WL_val (dd := some 30) rfl rfl rfl (r_loadW rfl tb_ag24 rfl hm2_1) ?_
  refine WL_step (dd := none) rfl rfl rfl (Y_storeW rfl rfl tb_ag24 rfl hm0_1 rfl (by rfl) (fun W58 hG59 hm60 => ?_))
  replace hB := below_grown hB hG59 (Nat.le_refl _) (fun j hj => by cases hj; exact lo_b0_1)
  replace hm0_0 := At.grownNe hm0_0 ne_b0_0_b0_1 hG59
  replace hm1_4 := At.grownNe hm1_4 (Ne.symm ne_b0_1_b1_4) hG59
  replace hP3_1 := OwT.grownAt hP3_1 hm0_1 hG59 (by decide)
  replace hm2_1 := At.grownNe hm2_1 (Ne.symm ne_b0_1_b2_1) hG59
  clear hG59 hm0_1
  have hm0_1 := hm60
  clear hm60
  refine WL_nil ?_
  refine hK57 _ _ ?_
  clear hK57 K56
  refine WC_ret ?_
  repeat (first | refine thenQ_ret ?_ | refine blockQ_ret ?_)
  refine ret_c rfl tb_ag24 hm0_1 rfl ?_
  refine ⟨hB, ?_⟩
  obtain rfl : k = (listS H).length := by omega
  rw [side_val hH]

theorem C__isop_maker__held (n : Nat) (x : Value) (l : List Cb) (w : World) (h8 : n ≤ 8) (hl : SlT encC 2 w x l) (hr : ∀ c, c ∈ l → c.m < 2 ^ n ∧ c.v &&& c.m = c.v) (hlb : l.length ≤ 100000) :
    Fn Try.prog 138 #[.agg #[.int .i64 (n : Int), wv (allS n) 0, wv (allS n) 1, wv (allS n) 2, wv (allS n) 3], x] w fun v w' => v = setV (ptsU l n l.length) := by
 refine Fn_intro (n := 28) Try.func138 rfl rfl (Nat.le_of_ble_eq_true rfl) ?_
 have hB : Below w.heap.size w w := Below.refl _ _
 refine WC_seq (fun K1 hK2 => ?_)
 refine WC_region ?_
 refine WL_step (dd := some 2) rfl rfl rfl (Y_box (c := #[_, _, _, _, _]) rfl rfl (fun b0_0 W3 hb4 hE5 hm0_0 => ?_))
 have lo_b0_0 : w.heap.size ≤ b0_0 := hb4 ▸ (Below.size hB)
 clear hb4
 replace hB := below_ext hB hE5 (Nat.le_refl _)
 clear hE5
 refine WL_step (dd := some 4) rfl rfl rfl (Y_alloc tb_z24 rfl (fun b0_1 W6 hb7 hE8 hm0_1 => ?_))
 have lo_b0_1 : w.heap.size ≤ b0_1 := hb7 ▸ (Below.size hB)
 clear hb7
 replace hB := below_ext hB hE8 (Nat.le_refl _)
 replace hm0_0 := hE8.at hm0_0
 clear hE8
 replace hm0_1 : At W6 b0_1 #[wv 0 0, wv 0 1, wv 0 2, wv 0 3] 24 := hm0_1
 refine WL_nil ?_
 refine hK2 _ _ ?_
 clear hK2 K1
 refine WC_seq (fun K9 hK10 => ?_)
 refine WC_region ?_
 refine WL_step (dd := some 5) rfl rfl rfl (Y_alloc tb_z24 rfl (fun b1_0 W11 hb12 hE13 hm1_0 => ?_))
 have lo_b1_0 : w.heap.size ≤ b1_0 := hb12 ▸ (Below.size hB)
 have ne_b0_1_b1_0 : b0_1 ≠ b1_0 := Nat.ne_of_lt (hb12 ▸ hm0_1.lt)
 clear hb12
 replace hB := below_ext hB hE13 (Nat.le_refl _)
 replace hm0_0 := hE13.at hm0_0
 replace hm0_1 := hE13.at hm0_1
 clear hE13
 replace hm1_0 : At W11 b1_0 #[wv 0 0, wv 0 1, wv 0 2, wv 0 3] 24 := hm1_0
 refine WL_nil ?_
 refine hK10 _ _ ?_
 clear hK10 K9
 refine WC_seq (fun K14 hK15 => ?_)
 refine WC_seq (fun K16 hK17 => ?_)
 refine WC_region ?_
 refine WL_val (dd := some 10) rfl rfl rfl (r_move (v := x) rfl) ?_
 refine WL_val (dd := some 11) rfl rfl rfl (r_lenS (v := x) rfl (Below.slT hB hl) tb_el27) ?_
 refine WL_val (dd := some 12) rfl rfl rfl (r_move (v := .int .i64 0) rfl) ?_
 refine WL_nil ?_
 refine hK17 _ _ ?_
 clear hK17 K16
 refine WC_block ?_
 refine WC_loop (σ := (Nat)) [7, 8, 9, 12, 13, 14, 15, 16, 17, 18, 19, 20, 21, 22, 23, 24, 25, 26] (fun k => [(12, .int .i64 (k : Int))]) (fun k W => (Below w.heap.size w W) ∧ (At W b0_0 _ 106) ∧ (At W b0_1 _ 24) ∧ (At W b1_0 #[wv (ptsU l n k) 0, wv (ptsU l n k) 1, wv (ptsU l n k) 2, wv (ptsU l n k) 3] 24) ∧ (k ≤ l.length) ∧ (True)) (fun k => l.length - k) (0) ⟨rfl, trivial⟩ ⟨hB, hm0_0, hm0_1, hm1_0, (Nat.zero_le _), trivial⟩ ?_
 clear hB hm0_0 hm0_1 hm1_0
 rintro k g19 W18 ⟨hB, hm0_0, hm0_1, hm1_0, hk, _⟩ J20 hJ21
 refine WC_seq (fun K22 hK23 => ?_)
 refine WC_region ?_
 refine WL_val (dd := some 13) rfl rfl rfl (r_lss rfl rfl) ?_
 refine WL_nil ?_
 refine hK23 _ _ ?_
 clear hK23 K22
 refine WC_seq (fun K24 hK25 => ?_)
 refine WC_cond (b := _) rfl (fun hc0 => ?_) (fun hc0 => ?_)
 ·
  try with_reducible replace hc0 := of_decide_eq_true hc0
  refine WC_skip ?_
  refine hK25 _ _ ?_
  clear hK25 K24
  refine WC_seq (fun K26 hK27 => ?_)
  refine WC_block ?_
  refine WC_seq (fun K28 hK29 => ?_)
  obtain ⟨hr1, hr2⟩ := hr (l.getD k ⟨0, 0⟩) (getD_mem (by omega))
  have hle256 := pow_le256 h8
  have hr3 : (l.getD k ⟨0, 0⟩).v ≤ (l.getD k ⟨0, 0⟩).m := by rw [← hr2]; exact Nat.and_le_right
  have hrr : rightB (l.getD k ⟨0, 0⟩).m (l.getD k ⟨0, 0⟩).v (n : Int) = true := rightB_iff.2 ⟨by omega, by omega, hr1, hr2⟩
  refine WC_region ?_
  refine WL_val (dd := some 14) rfl rfl rfl (r_idxS (v := x) rfl (Below.slT hB hl) rfl tb_el27 (by omega) (by first | omega | (simp only [flagsTo_len, litsTo_len, firstF_len, ptF_len]; omega))) ?_
  refine WL_val (dd := some 15) rfl rfl rfl (r_load2 rfl tb_ag34 (SlT.cell (Below.slT hB hl) encC_len ⟨0, 0⟩ (by omega) (by first | omega | (simp only [flagsTo_len, litsTo_len, firstF_len, ptF_len]; omega)) 0 rfl) (SlT.cell (Below.slT hB hl) encC_len ⟨0, 0⟩ (by omega) (by first | omega | (simp only [flagsTo_len, litsTo_len, firstF_len, ptF_len]; omega)) 1 rfl)) ?_
  refine WL_step (dd := some 7) rfl rfl rfl (Y_alloc tb_z34 rfl (fun b4_2 W30 hb31 hE32 hm4_2 => ?_))
  have lo_b4_2 : w.heap.size ≤ b4_2 := hb31 ▸ (Below.size hB)
  clear hb31
  replace hB := below_ext hB hE32 (Nat.le_refl _)
  replace hm0_0 := hE32.at hm0_0
  replace hm0_1 := hE32.at hm0_1
  replace hm1_0 := hE32.at hm1_0
  clear hE32
  refine WL_step (dd := none) rfl rfl rfl (Y_storeW rfl rfl tb_ag34 rfl hm4_2 rfl (by rfl) (fun W33 hG34 hm35 => ?_))
  replace hB := below_grown hB hG34 (Nat.le_refl _) (fun j hj => by cases hj; exact lo_b4_2)
  replace hm0_0 := At.grownAt hm0_0 hm4_2 hG34 (by decide)
  replace hm0_1 := At.grownAt hm0_1 hm4_2 hG34 (by decide)
  replace hm1_0 := At.grownAt hm1_0 hm4_2 hG34 (by decide)
  clear hG34 hm4_2
  have hm4_2 := hm35
  clear hm35
  refine WL_nil ?_
  refine hK29 _ _ ?_
  clear hK29 K28
  refine WC_seq (fun K36 hK37 => ?_)
  refine WC_region ?_
  refine WL_val (dd := some 17) rfl rfl rfl (r_loadW rfl tb_ag34 rfl hm4_2) ?_
  refine WL_val (dd := some 18) rfl rfl rfl (r_fieldAddr (b := _) (o := _) rfl tb_fo106_0) ?_
  refine WL_val (dd := some 19) rfl rfl rfl (r_load1 (v := .int .i64 _) rfl tb_sc3 (At.cell hm0_0 rfl)) ?_
  refine WL_call (dd := some 20) rfl rfl rfl (r_call2 tb_c29 (v0 := .agg #[_, _]) rfl (v1 := .int .i64 _) rfl) (C_cube_Points _ _ (n : Int) _ (by show (l.getD k ⟨0, 0⟩).m < 256; omega) (by show (l.getD k ⟨0, 0⟩).v < 256; omega)) (fun v5_3 W38 hE39 hP5_3 => ?_)
  have hsz40 := (Below.size hB)
  replace hB := below_ext hB hE39 (Nat.le_refl _)
  replace hm0_0 := hE39.at hm0_0
  replace hm0_1 := hE39.at hm0_1
  replace hm1_0 := hE39.at hm1_0
  replace hm4_2 := hE39.at hm4_2
  clear hE39
  rw [if_pos (show rightB (l.getD ((k : Nat) : Int).toNat ⟨0, 0⟩).m (l.getD ((k : Nat) : Int).toNat ⟨0, 0⟩).v (n : Int) = true from hrr)] at hP5_3
  obtain rfl := hP5_3
  clear hsz40
  refine WL_val (dd := some 16) rfl rfl rfl (r_move (v := .tuple #[.agg #[_, _, _, _], .int .i64 _]) rfl) ?_
  refine WL_val (dd := some 21) rfl rfl rfl (r_ext2_0 (h := rfl)) ?_
  refine WL_val (dd := some 22) rfl rfl rfl (r_ext2_1 (h := rfl)) ?_
  refine WL_step (dd := some 8) rfl rfl rfl (Y_alloc tb_z24 rfl (fun b5_7 W41 hb42 hE43 hm5_7 => ?_))
  have lo_b5_7 : w.heap.size ≤ b5_7 := hb42 ▸ (Below.size hB)
  have ne_b0_1_b5_7 : b0_1 ≠ b5_7 := Nat.ne_of_lt (hb42 ▸ hm0_1.lt)
  have ne_b1_0_b5_7 : b1_0 ≠ b5_7 := Nat.ne_of_lt (hb42 ▸ hm1_0.lt)
  clear hb42
  replace hB := below_ext hB hE43 (Nat.le_refl _)
  replace hm0_0 := hE43.at hm0_0
  replace hm0_1 := hE43.at hm0_1
  replace hm1_0 := hE43.at hm1_0
  replace hm4_2 := hE43.at hm4_2
  clear hE43
  replace hm5_7 : At W41 b5_7 #[wv 0 0, wv 0 1, wv 0 2, wv 0 3] 24 := hm5_7
  refine WL_step (dd := none) rfl rfl rfl (Y_storeW rfl rfl tb_ag24 rfl hm5_7 rfl (by rfl) (fun W44 hG45 hm46 => ?_))
  replace hB := below_grown hB hG45 (Nat.le_refl _) (fun j hj => by cases hj; exact lo_b5_7)
  replace hm0_0 := At.grownAt hm0_0 hm5_7 hG45 (by decide)
  replace hm0_1 := At.grownNe hm0_1 ne_b0_1_b5_7 hG45
  replace hm1_0 := At.grownNe hm1_0 ne_b1_0_b5_7 hG45
  replace hm4_2 := At.grownAt hm4_2 hm5_7 hG45 (by decide)
  clear hG45 hm5_7
  have hm5_7 := hm46
  clear hm46
  refine WL_val (dd := some 9) rfl rfl rfl (r_assign (v := .int .i64 _) rfl) ?_
  refine WL_nil ?_
  refine hK37 _ _ ?_
  clear hK37 K36
  refine WC_region ?_
  refine WL_val (dd := some 23) rfl rfl rfl (r_loadW rfl tb_ag24 rfl hm1_0) ?_
  refine WL_val (dd := some 24) rfl rfl rfl (r_loadW rfl tb_ag24 rfl hm5_7) ?_
  refine WL_call (dd := some 25) rfl rfl rfl (r_call2 tb_c30 (v0 := .agg #[_, _, _, _]) rfl (v1 := .agg #[_, _, _, _]) rfl) (C_set_Or _ _ _) (fun v6_2 W47 hE48 hP6_2 => ?_)
  have hsz49 := (Below.size hB)
  replace hB := below_ext hB hE48 (Nat.le_refl _)
  replace hm0_0 := hE48.at hm0_0
  replace hm0_1 := hE48.at hm0_1
  replace hm1_0 := hE48.at hm1_0
  replace hm4_2 := hE48.at hm4_2
  replace hm5_7 := hE48.at hm5_7
  clear hE48
  clear hsz49
  obtain rfl := hP6_2
  refine WL_step (dd := none) rfl rfl rfl (Y_storeW rfl rfl tb_ag24 rfl hm1_0 rfl (by rfl) (fun W50 hG51 hm52 => ?_))
  replace hB := below_grown hB hG51 (Nat.le_refl _) (fun j hj => by cases hj; exact lo_b1_0)
  replace hm0_0 := At.grownAt hm0_0 hm1_0 hG51 (by decide)
  replace hm0_1 := At.grownNe hm0_1 ne_b0_1_b1_0 hG51
  replace hm4_2 := At.grownAt hm4_2 hm1_0 hG51 (by decide)
  replace hm5_7 := At.grownNe hm5_7 (Ne.symm ne_b1_0_b5_7) hG51
  clear hG51 hm1_0
  have hm1_0 := hm52
  clear hm52
  refine WL_nil ?_
  refine hK27 _ _ ?_
  clear hK27 K26
  refine WC_region ?_
  refine WL_val (dd := some 26) rfl rfl rfl (r_addI rfl rfl (by omega) (by omega)) ?_
  refine WL_val (dd := some 12) rfl rfl rfl (r_move (v := .int .i64 _) rfl) ?_
  refine WL_nil ?_
  refine hJ21 _ _ (k + 1) ?_ ?_ ?_ ?_
  · repeat (first | exact agree.mask _ _ _ | refine agree.updo ?_ rfl _ | refine agree.updL ?_ _ rfl | refine agree.maskS rfl ?_)
  · exact ⟨rfl, trivial⟩
  · exact ⟨hB, hm0_0, hm0_1, (by exact hm1_0), (by omega), trivial⟩
  · first | omega | (dsimp only; omega)
 ·
  try with_reducible replace hc0 := of_decide_eq_false hc0
  refine WC_exit ?_
  refine hK15 _ _ ?_
  clear hK25 K24
  clear hJ21 J20
  clear hK15 K14
  refine WC_seq (fun K53 hK54 => ?_)
  refine WC_region ?_
  refine WL_val (dd := some 27) rfl rfl rfl (r_loadW rfl tb_ag24 rfl hm1_0) ?_
  refine WL_step (dd := none) rfl rfl rfl (Y_storeW rfl rfl tb_ag24 rfl hm0_1 rfl (by rfl) (fun W55 hG56 hm57 => ?_))
  replace hB := below_grown hB hG56 (Nat.le_refl _) (fun j hj => by cases hj; exact lo_b0_1)
  replace hm0_0 := At.grownAt hm0_0 hm0_1 hG56 (by decide)
  replace hm1_0 := At.grownNe hm1_0 (Ne.symm ne_b0_1_b1_0) hG56
  clear hG56 hm0_1
  have hm0_1 := hm57
  clear hm57
  refine WL_nil ?_
  refine hK54 _ _ ?_
  clear hK54 K53
  refine WC_ret ?_
  repeat (first | refine thenQ_ret ?_ | refine blockQ_ret ?_)
  refine ret_c rfl tb_ag24 hm0_1 rfl ?_
  refine ⟨hB, ?_⟩
  obtain rfl : k = l.length := by omega
  rfl

theorem CT0 (n f i on may N bm bons bmays bi brest bout rest : Nat) (v0 : Value) (out : List Cb) (w : World) (hN0 : N ≤ w.heap.size) (hih : ∀ (on may i : Nat) (w : World), n ≤ 8 → Good n on may i → n + 1 - i ≤ f → f ≤ 9 → Fn Try.prog 97 #[.agg #[.int .i64 (n : Int), wv (allS n) 0, wv (allS n) 1, wv (allS n) 2, wv (allS n) 3], setV on, setV may, .int .i64 (i : Int)] w fun v w' => OwT encC 2 34 w' w.heap.size v (coverL n f on may i)) (h8 : n ≤ 8) (hg : Good n on may i) (hi : i < n) (hf : n + 1 - (i + 1) ≤ f) (hf9 : f ≤ 8) (hm : At w bm #[.int .i64 (n : Int), wv (allS n) 0, wv (allS n) 1, wv (allS n) 2, wv (allS n) 3] 106) (hons : At w bons (pairA (sideS on i false) (sideS on i true)) 134) (hmays : At w bmays (pairA (sideS may i false) (sideS may i true)) 134) (hbi : At w bi #[.int .i64 (i : Int)] 3) (hrest : At w brest #[wv rest 0, wv rest 1, wv rest 2, wv rest 3] 24) (hout : At w bout #[v0] 27) (hown : OwT encC 2 34 w N v0 out) (hlen : out.length ≤ 20000) (lor : N ≤ brest) (loo : N ≤ bout) :
    FnG Try.prog 137 #[.int .i64 0, .pointer (some ⟨bm, 0, none⟩), .pointer (some ⟨bons, 0, none⟩), .pointer (some ⟨bmays, 0, none⟩), .pointer (some ⟨bi, 0, none⟩), .pointer (some ⟨brest, 0, none⟩), .pointer (some ⟨bout, 0, none⟩)] w fun v w' => Below N w w' ∧ At w' bm #[.int .i64 (n : Int), wv (allS n) 0, wv (allS n) 1, wv (allS n) 2, wv (allS n) 3] 106 ∧ At w' bons (pairA (sideS on i false) (sideS on i true)) 134 ∧ At w' bmays (pairA (sideS may i false) (sideS may i true)) 134 ∧ At w' bi #[.int .i64 (i : Int)] 3 ∧ At w' brest #[wv (rest ||| andNot (sideS on i false) (ptsU (coverL n f (andNot (sideS on i false) (sideS may i true)) (sideS may i false) (i + 1)) n (coverL n f (andNot (sideS on i false) (sideS may i true)) (sideS may i false) (i + 1)).length)) 0, wv (rest ||| andNot (sideS on i false) (ptsU (coverL n f (andNot (sideS on i false) (sideS may i true)) (sideS may i false) (i + 1)) n (coverL n f (andNot (sideS on i false) (sideS may i true)) (sideS may i false) (i + 1)).length)) 1, wv (rest ||| andNot (sideS on i false) (ptsU (coverL n f (andNot (sideS on i false) (sideS may i true)) (sideS may i false) (i + 1)) n (coverL n f (andNot (sideS on i false) (sideS may i true)) (sideS may i false) (i + 1)).length)) 2, wv (rest ||| andNot (sideS on i false) (ptsU (coverL n f (andNot (sideS on i false) (sideS may i true)) (sideS may i false) (i + 1)) n (coverL n f (andNot (sideS on i false) (sideS may i true)) (sideS may i false) (i + 1)).length)) 3] 24 ∧ ∃ v1, At w' bout #[v1] 27 ∧ OwT encC 2 34 w' N v1 (out ++ (coverL n f (andNot (sideS on i false) (sideS may i true)) (sideS may i false) (i + 1)).map (litC i 0)) := by
 refine FnG_intro (n := 60) Try.func137 rfl rfl (Nat.le_of_ble_eq_true rfl) ?_
 have hB : Below N w w := Below.refl _ _
 have hi8 : i < 8 := by omega
 refine WC_seq (fun K1 hK2 => ?_)
 refine WC_draw Ext tb_mix (fun W3 hE4 => ?_)
 replace hm := hE4.at hm
 replace hons := hE4.at hons
 replace hmays := hE4.at hmays
 replace hbi := hE4.at hbi
 replace hrest := hE4.at hrest
 replace hout := hE4.at hout
 replace hown := hE4.ow hown
 replace hB := below_ext hB hE4 hN0
 have hS := Ext.refl W3
 refine WT_take (dd := some 11) 0 rfl (by kernel_rfl) (by kernel_rfl) (by kernel_rfl) rfl rfl rfl (fun _wq hq => r_loadW rfl tb_ag106 rfl (hq.at hm)) hS ?_
 refine WT_take (dd := some 12) 1 rfl (by kernel_rfl) (by kernel_rfl) (by kernel_rfl) rfl rfl rfl (fun _wq _hq => r_move (v := .int .i64 0) rfl) hS ?_
 refine WT_take (dd := some 13) 2 rfl (by kernel_rfl) (by kernel_rfl) (by kernel_rfl) rfl rfl rfl (fun _wq _hq => r_idxA rfl rfl tb_ar134 (by omega) (by omega)) hS ?_
 refine WT_take (dd := some 14) 3 rfl (by kernel_rfl) (by kernel_rfl) (by kernel_rfl) rfl rfl rfl (fun _wq hq => r_load4 rfl tb_ag24 (At.cell (hq.at hons) rfl) (At.cell (hq.at hons) rfl) (At.cell (hq.at hons) rfl) (At.cell (hq.at hons) rfl)) hS ?_
 refine WT_take (dd := some 15) 4 rfl (by kernel_rfl) (by kernel_rfl) (by kernel_rfl) rfl rfl rfl (fun _wq _hq => r_move (v := .int .i64 0) rfl) hS ?_
 refine WT_take (dd := some 16) 5 rfl (by kernel_rfl) (by kernel_rfl) (by kernel_rfl) rfl rfl rfl (fun _wq _hq => r_subI rfl rfl (by omega) (by omega)) hS ?_
 refine WT_take (dd := some 17) 6 rfl (by kernel_rfl) (by kernel_rfl) (by kernel_rfl) rfl rfl rfl (fun _wq _hq => r_idxA rfl rfl tb_ar134 (by omega) (by omega)) hS ?_
 refine WT_take (dd := some 18) 7 rfl (by kernel_rfl) (by kernel_rfl) (by kernel_rfl) rfl rfl rfl (fun _wq hq => r_load4 rfl tb_ag24 (At.cell (hq.at hmays) rfl) (At.cell (hq.at hmays) rfl) (At.cell (hq.at hmays) rfl) (At.cell (hq.at hmays) rfl)) hS ?_
 refine WT_take (dd := some 20) 9 rfl (by kernel_rfl) (by kernel_rfl) (by kernel_rfl) rfl rfl rfl (fun _wq _hq => r_move (v := .int .i64 0) rfl) hS ?_
 refine WT_take (dd := some 21) 10 rfl (by kernel_rfl) (by kernel_rfl) (by kernel_rfl) rfl rfl rfl (fun _wq _hq => r_idxA rfl rfl tb_ar134 (by omega) (by omega)) hS ?_
 refine WT_take (dd := some 22) 11 rfl (by kernel_rfl) (by kernel_rfl) (by kernel_rfl) rfl rfl rfl (fun _wq hq => r_load4 rfl tb_ag24 (At.cell (hq.at hmays) rfl) (At.cell (hq.at hmays) rfl) (At.cell (hq.at hmays) rfl) (At.cell (hq.at hmays) rfl)) hS ?_
 refine WT_take (dd := some 23) 12 rfl (by kernel_rfl) (by kernel_rfl) (by kernel_rfl) rfl rfl rfl (fun _wq hq => r_load1 (v := .int .i64 _) rfl tb_sc3 (At.cell (hq.at hbi) rfl)) hS ?_
 refine WT_take (dd := some 24) 13 rfl (by kernel_rfl) (by kernel_rfl) (by kernel_rfl) rfl rfl rfl (fun _wq _hq => r_addI rfl rfl (by omega) (by omega)) hS ?_
 refine WT_one (dd := some 19) 8 (by kernel_rfl) rfl rfl rfl rfl (Yd.call (r_call2 tb_c132 (v0 := .agg #[_, _, _, _]) rfl (v1 := .agg #[_, _, _, _]) rfl) (C_set_Less _ _ _) (fun v0_8 W5 hE6 hP0_8 => ⟨.inl (hS.trans hE6), ?_⟩))
 have hsz7 := (Nat.le_trans hN0 (Below.size hB))
 have sv8_hm := hm
 have sv8_hons := hons
 have sv8_hmays := hmays
 have sv8_hbi := hbi
 have sv8_hrest := hrest
 have sv8_hout := hout
 have sv8_hown := hown
 have sv8_hB := hB
 replace hm := hE6.at hm
 replace hons := hE6.at hons
 replace hmays := hE6.at hmays
 replace hbi := hE6.at hbi
 replace hrest := hE6.at hrest
 replace hout := hE6.at hout
 replace hown := hE6.ow hown
 replace hB := below_ext hB hE6 hN0
 replace hS := hS.trans hE6
 clear hE6
 clear hsz7
 obtain rfl := hP0_8
 refine WT_one (dd := some 25) 14 (by kernel_rfl) rfl rfl rfl rfl (Yd.call (r_call4 tb_c97 (v0 := .agg #[_, _, _, _, _]) rfl (v1 := .agg #[_, _, _, _]) rfl (v2 := .agg #[_, _, _, _]) rfl (v3 := .int .i64 _) rfl) (hih _ _ (i + 1) _ h8 (hg.side h8 hi false) hf (Nat.le_trans hf9 (by decide))) (fun v0_14 W9 hE10 hP0_14 => ⟨.inl (hS.trans hE10), ?_⟩))
 have hlt11 := OwT.lt2 hown
 have hsz12 := (Nat.le_trans hN0 (Below.size hB))
 replace hm := hE10.at hm
 replace hons := hE10.at hons
 replace hmays := hE10.at hmays
 replace hbi := hE10.at hbi
 replace hrest := hE10.at hrest
 replace hout := hE10.at hout
 replace hown := hE10.ow hown
 replace hB := below_ext hB hE10 hN0
 replace hS := hS.trans hE10
 clear hE10
 have hap13 := Apart.new hlt11 hP0_14
 replace hP0_14 := OwT.mono hP0_14 hsz12
 clear hsz12
 have hcm : CubesOk n (sideS may i false) (i + 1) (coverL n f (andNot (sideS on i false) (sideS may i true)) (sideS may i false) (i + 1)) := (cover_ok h8 f _ _ _ (hg.side h8 hi false) hf).1
 have hcl := coverL_len (n := n) f (andNot (sideS on i false) (sideS may i true)) (sideS may i false) (i + 1)
 have h3f : 3 ^ f ≤ 3 ^ 8 := Nat.pow_le_pow_right (by decide) hf9
 generalize hL : coverL n f (andNot (sideS on i false) (sideS may i true)) (sideS may i false) (i + 1) = L at *
 refine WT_take (dd := some 8) 15 rfl (by kernel_rfl) (by kernel_rfl) (by kernel_rfl) rfl rfl rfl (fun _wq _hq => r_assign (v := v0_14) rfl) hS ?_
 refine WT_done (by kernel_rfl) ?_
 try clear sv8_hm sv8_hons sv8_hmays sv8_hbi sv8_hrest sv8_hout sv8_hown sv8_hB
 refine hK2 _ _ ?_
 clear hK2 K1
 refine WC_seq (fun K14 hK15 => ?_)
 refine WC_draw Ext tb_mix (fun W16 hE17 => ?_)
 replace hm := hE17.at hm
 replace hons := hE17.at hons
 replace hmays := hE17.at hmays
 replace hbi := hE17.at hbi
 replace hrest := hE17.at hrest
 replace hout := hE17.at hout
 replace hown := hE17.ow hown
 replace hB := below_ext hB hE17 hN0
 replace hP0_14 := hE17.ow hP0_14
 have hS := Ext.refl W16
 refine WT_take (dd := some 26) 0 rfl (by kernel_rfl) (by kernel_rfl) (by kernel_rfl) rfl rfl rfl (fun _wq hq => r_loadW rfl tb_ag24 rfl (hq.at hrest)) hS ?_
 refine WT_take (dd := some 27) 1 rfl (by kernel_rfl) (by kernel_rfl) (by kernel_rfl) rfl rfl rfl (fun _wq _hq => r_move (v := .int .i64 0) rfl) hS ?_
 refine WT_take (dd := some 28) 2 rfl (by kernel_rfl) (by kernel_rfl) (by kernel_rfl) rfl rfl rfl (fun _wq _hq => r_idxA rfl rfl tb_ar134 (by omega) (by omega)) hS ?_
 refine WT_take (dd := some 29) 3 rfl (by kernel_rfl) (by kernel_rfl) (by kernel_rfl) rfl rfl rfl (fun _wq hq => r_load4 rfl tb_ag24 (At.cell (hq.at hons) rfl) (At.cell (hq.at hons) rfl) (At.cell (hq.at hons) rfl) (At.cell (hq.at hons) rfl)) hS ?_
 refine WT_take (dd := some 30) 4 rfl (by kernel_rfl) (by kernel_rfl) (by kernel_rfl) rfl rfl rfl (fun _wq hq => r_loadW rfl tb_ag106 rfl (hq.at hm)) hS ?_
 refine WT_take (dd := some 31) 5 rfl (by kernel_rfl) (by kernel_rfl) (by kernel_rfl) rfl rfl rfl (fun _wq _hq => r_move (v := v0_14) rfl) hS ?_
 refine WT_one (dd := some 32) 6 (by kernel_rfl) rfl rfl rfl rfl (Yd.call (r_call2 tb_c138 (v0 := .agg #[_, _, _, _, _]) rfl (v1 := v0_14) rfl) (C__isop_maker__held n _ L _ h8 hP0_14.sl (fun c hc => ⟨(hcm c hc).1, (hcm c hc).2.1⟩) (by omega)) (fun v1_6 W18 hE19 hP1_6 => ⟨.inl (hS.trans hE19), ?_⟩))
 have hsz20 := (Nat.le_trans hN0 (Below.size hB))
 have sv21_hm := hm
 have sv21_hons := hons
 have sv21_hmays := hmays
 have sv21_hbi := hbi
 have sv21_hrest := hrest
 have sv21_hout := hout
 have sv21_hown := hown
 have sv21_hB := hB
 have sv21_hP0_14 := hP0_14
 replace hm := hE19.at hm
 replace hons := hE19.at hons
 replace hmays := hE19.at hmays
 replace hbi := hE19.at hbi
 replace hrest := hE19.at hrest
 replace hout := hE19.at hout
 replace hown := hE19.ow hown
 replace hB := below_ext hB hE19 hN0
 replace hP0_14 := hE19.ow hP0_14
 replace hS := hS.trans hE19
 clear hE19
 clear hsz20
 obtain rfl := hP1_6
 refine WT_one (dd := some 33) 7 (by kernel_rfl) rfl rfl rfl rfl (Yd.call (r_call2 tb_c132 (v0 := .agg #[_, _, _, _]) rfl (v1 := .agg #[_, _, _, _]) rfl) (C_set_Less _ _ _) (fun v1_7 W22 hE23 hP1_7 => ⟨.inl (hS.trans hE23), ?_⟩))
 have hsz24 := (Nat.le_trans hN0 (Below.size hB))
 replace hm := hE23.at hm
 replace hons := hE23.at hons
 replace hmays := hE23.at hmays
 replace hbi := hE23.at hbi
 replace hrest := hE23.at hrest
 replace hout := hE23.at hout
 replace hown := hE23.ow hown
 replace hB := below_ext hB hE23 hN0
 replace hP0_14 := hE23.ow hP0_14
 replace hS := hS.trans hE23
 clear hE23
 clear hsz24
 obtain rfl := hP1_7
 refine WT_one (dd := some 34) 8 (by kernel_rfl) rfl rfl rfl rfl (Yd.call (r_call2 tb_c30 (v0 := .agg #[_, _, _, _]) rfl (v1 := .agg #[_, _, _, _]) rfl) (C_set_Or _ _ _) (fun v1_8 W25 hE26 hP1_8 => ⟨.inl (hS.trans hE26), ?_⟩))
 have hsz27 := (Nat.le_trans hN0 (Below.size hB))
 replace hm := hE26.at hm
 replace hons := hE26.at hons
 replace hmays := hE26.at hmays
 replace hbi := hE26.at hbi
 replace hrest := hE26.at hrest
 replace hout := hE26.at hout
 replace hown := hE26.ow hown
 replace hB := below_ext hB hE26 hN0
 replace hP0_14 := hE26.ow hP0_14
 replace hS := hS.trans hE26
 clear hE26
 clear hsz27
 obtain rfl := hP1_8
 refine WT_one (dd := none) 9 (by kernel_rfl) rfl rfl rfl rfl (Y_storeW rfl rfl tb_ag24 rfl hrest rfl (by rfl) (fun W28 hG29 hm30 => ⟨.inr (by kernel_rfl), ?_⟩))
 replace hm := At.grownAt hm hrest hG29 (by decide)
 replace hons := At.grownAt hons hrest hG29 (by decide)
 replace hmays := At.grownAt hmays hrest hG29 (by decide)
 replace hbi := At.grownAt hbi hrest hG29 (by decide)
 replace hout := At.grownAt hout hrest hG29 (by decide)
 replace hown := OwT.grownAt hown hrest hG29 (by decide)
 replace hB := below_grown hB hG29 hN0 (fun j hj => by cases hj; exact lor)
 replace hP0_14 := OwT.grownAt hP0_14 hrest hG29 (by decide)
 clear hG29 hrest
 have hrest := hm30
 clear hm30
 refine WT_done (by kernel_rfl) ?_
 try clear sv21_hm sv21_hons sv21_hmays sv21_hbi sv21_hout sv21_hown sv21_hB sv21_hP0_14
 refine hK15 _ _ ?_
 clear hK15 K14
 refine WC_seq (fun K31 hK32 => ?_)
 refine WC_region ?_
 refine WL_val (dd := some 35) rfl rfl rfl (r_move (v := v0_14) rfl) ?_
 refine WL_val (dd := some 36) rfl rfl rfl (r_lenS (v := v0_14) rfl hP0_14.sl tb_el27) ?_
 refine WL_val (dd := some 37) rfl rfl rfl (r_move (v := .int .i64 0) rfl) ?_
 refine WL_nil ?_
 refine hK32 _ _ ?_
 clear hK32 K31
 refine WC_block ?_
 refine WC_loop (σ := (Nat) × (Value)) [10, 37, 38, 39, 40, 41, 42, 43, 44, 45, 46, 47, 48, 49, 50, 51, 52, 53, 54, 55, 56, 57, 58, 59] (fun (k, v2) => [(37, .int .i64 (k : Int))]) (fun sg W => match sg with | (k, v2) => (At W bm _ 106) ∧ (At W bons _ 134) ∧ (At W bmays _ 134) ∧ (At W bi _ 3) ∧ (At W brest _ 24) ∧ (Below N w W) ∧ (OwT encC 2 34 W N v0_14 _) ∧ (At W bout #[v2] 27) ∧ (OwT encC 2 34 W N v2 (out ++ (L.take k).map (litC i 0))) ∧ (Apart v2 v0_14) ∧ (k ≤ L.length) ∧ (True)) (fun (k, v2) => L.length - k) ((0, v0)) ⟨rfl, trivial⟩ ⟨hm, hons, hmays, hbi, hrest, hB, hP0_14, hout, (by rw [List.take_zero, List.map_nil, List.append_nil]; exact hown), hap13, (Nat.zero_le _), trivial⟩ ?_
 clear hm hons hmays hbi hrest hout hown hB hap13 hP0_14
 rintro ⟨k, v2⟩ g34 W33 ⟨hm, hons, hmays, hbi, hrest, hB, hP0_14, hout, hown, hap, hk, _⟩ J35 hJ36
 refine WC_seq (fun K37 hK38 => ?_)
 refine WC_region ?_
 refine WL_val (dd := some 38) rfl rfl rfl (r_lss rfl rfl) ?_
 refine WL_nil ?_
 refine hK38 _ _ ?_
 clear hK38 K37
 refine WC_seq (fun K39 hK40 => ?_)
 refine WC_cond (b := _) rfl (fun hc0 => ?_) (fun hc0 => ?_)
 ·
  try with_reducible replace hc0 := of_decide_eq_true hc0
  refine WC_skip ?_
  refine hK40 _ _ ?_
  clear hK40 K39
  refine WC_seq (fun K41 hK42 => ?_)
  refine WC_block ?_
  refine WC_seq (fun K43 hK44 => ?_)
  have hck := hcm (L.getD k ⟨0, 0⟩) (getD_mem (by omega))
  obtain ⟨hck1, hck2, _, _⟩ := hck
  have hle256 := pow_le256 h8
  have hck3 : (L.getD k ⟨0, 0⟩).v ≤ (L.getD k ⟨0, 0⟩).m := by rw [← hck2]; exact Nat.and_le_right
  refine WC_region ?_
  refine WL_val (dd := some 39) rfl rfl rfl (r_idxS (v := v0_14) rfl hP0_14.sl rfl tb_el27 (by omega) (by first | omega | (simp only [flagsTo_len, litsTo_len, firstF_len, ptF_len]; omega))) ?_
  refine WL_val (dd := some 40) rfl rfl rfl (r_load2 rfl tb_ag34 (SlT.cell hP0_14.sl encC_len ⟨0, 0⟩ (by omega) (by first | omega | (simp only [flagsTo_len, litsTo_len, firstF_len, ptF_len]; omega)) 0 rfl) (SlT.cell hP0_14.sl encC_len ⟨0, 0⟩ (by omega) (by first | omega | (simp only [flagsTo_len, litsTo_len, firstF_len, ptF_len]; omega)) 1 rfl)) ?_
  refine WL_step (dd := some 10) rfl rfl rfl (Y_alloc tb_z34 rfl (fun b4_2 W45 hb46 hE47 hm4_2 => ?_))
  have lo_b4_2 : N ≤ b4_2 := hb46 ▸ (Nat.le_trans hN0 (Below.size hB))
  have no_v0_14_b4_2 := OwT.neB (b := b4_2) hP0_14 (Nat.le_of_eq hb46.symm)
  have no_v2_b4_2 := OwT.neB (b := b4_2) hown (Nat.le_of_eq hb46.symm)
  clear hb46
  replace hm := hE47.at hm
  replace hons := hE47.at hons
  replace hmays := hE47.at hmays
  replace hbi := hE47.at hbi
  replace hrest := hE47.at hrest
  replace hB := below_ext hB hE47 hN0
  replace hP0_14 := hE47.ow hP0_14
  replace hout := hE47.at hout
  replace hown := hE47.ow hown
  clear hE47
  refine WL_step (dd := none) rfl rfl rfl (Y_storeW rfl rfl tb_ag34 rfl hm4_2 rfl (by rfl) (fun W48 hG49 hm50 => ?_))
  replace hm := At.grownAt hm hm4_2 hG49 (by decide)
  replace hons := At.grownAt hons hm4_2 hG49 (by decide)
  replace hmays := At.grownAt hmays hm4_2 hG49 (by decide)
  replace hbi := At.grownAt hbi hm4_2 hG49 (by decide)
  replace hrest := At.grownAt hrest hm4_2 hG49 (by decide)
  replace hB := below_grown hB hG49 hN0 (fun j hj => by cases hj; exact lo_b4_2)
  replace hP0_14 := OwT.grownAtNe hP0_14 no_v0_14_b4_2 hG49
  replace hout := At.grownAt hout hm4_2 hG49 (by decide)
  replace hown := OwT.grownAtNe hown no_v2_b4_2 hG49
  clear hG49 hm4_2
  have hm4_2 := hm50
  clear hm50
  refine WL_nil ?_
  refine hK44 _ _ ?_
  clear hK44 K43
  refine WC_seq (fun K51 hK52 => ?_)
  refine WC_draw Ext tb_mix (fun W53 hE54 => ?_)
  replace hm := hE54.at hm
  replace hons := hE54.at hons
  replace hmays := hE54.at hmays
  replace hbi := hE54.at hbi
  replace hrest := hE54.at hrest
  replace hB := below_ext hB hE54 hN0
  replace hP0_14 := hE54.ow hP0_14
  replace hout := hE54.at hout
  replace hown := hE54.ow hown
  replace hm4_2 := hE54.at hm4_2
  have hS := Ext.refl W53
  refine WT_take (dd := some 41) 0 rfl (by kernel_rfl) (by kernel_rfl) (by kernel_rfl) rfl rfl rfl (fun _wq _hq => r_fieldAddr (b := _) (o := _) rfl tb_fo34_0) hS ?_
  refine WT_take (dd := some 42) 1 rfl (by kernel_rfl) (by kernel_rfl) (by kernel_rfl) rfl rfl rfl (fun _wq hq => r_load1 (v := .int .u8 _) rfl tb_sc5 (At.cell (hq.at hm4_2) rfl)) hS ?_
  refine WT_take (dd := some 43) 2 rfl (by kernel_rfl) (by kernel_rfl) (by kernel_rfl) rfl rfl rfl (fun _wq hq => r_load1 (v := .int .i64 _) rfl tb_sc3 (At.cell (hq.at hbi) rfl)) hS ?_
  refine WT_take (dd := some 44) 3 rfl (by kernel_rfl) (by kernel_rfl) (by kernel_rfl) rfl rfl rfl (fun _wq _hq => r_shl (m := 1) rfl rfl (by omega) (by simp only [IntKind.bits]; omega) (by exact shl1 _ _ (by simp only [bitsN]; omega))) hS ?_
  refine WT_take (dd := some 45) 4 rfl (by kernel_rfl) (by kernel_rfl) (by kernel_rfl) rfl rfl rfl (fun _wq _hq => r_or (n := _) rfl rfl rfl (by show (L.getD k ⟨0, 0⟩).m < 256; omega) (by exact shl1 _ _ (by simp only [bitsN]; omega))) hS ?_
  refine WT_take (dd := some 46) 5 rfl (by kernel_rfl) (by kernel_rfl) (by kernel_rfl) rfl rfl rfl (fun _wq _hq => r_fieldAddr (b := _) (o := _) rfl tb_fo34_0) hS ?_
  refine WT_one (dd := none) 6 (by kernel_rfl) rfl rfl rfl rfl (Y_store1 (v := .int .u8 _) rfl rfl tb_sc5 rfl hm4_2 (by simp) (fun W55 hG56 hm57 => ⟨.inr (by kernel_rfl), ?_⟩))
  have sv58_hm := hm
  have sv58_hons := hons
  have sv58_hmays := hmays
  have sv58_hbi := hbi
  have sv58_hrest := hrest
  have sv58_hB := hB
  have sv58_hP0_14 := hP0_14
  have sv58_hout := hout
  have sv58_hown := hown
  have sv58_hm4_2 := hm4_2
  replace hm := At.grownAt hm hm4_2 hG56 (by decide)
  replace hons := At.grownAt hons hm4_2 hG56 (by decide)
  replace hmays := At.grownAt hmays hm4_2 hG56 (by decide)
  replace hbi := At.grownAt hbi hm4_2 hG56 (by decide)
  replace hrest := At.grownAt hrest hm4_2 hG56 (by decide)
  replace hB := below_grown hB hG56 hN0 (fun j hj => by cases hj; exact lo_b4_2)
  replace hP0_14 := OwT.grownAtNe hP0_14 no_v0_14_b4_2 hG56
  replace hout := At.grownAt hout hm4_2 hG56 (by decide)
  replace hown := OwT.grownAtNe hown no_v2_b4_2 hG56
  clear hG56 hm4_2
  have hm4_2 := hm57
  clear hm57
  replace hm4_2 : At _ _ #[_, _] _ := hm4_2
  refine WT_done (by kernel_rfl) ?_
  try clear sv58_hm sv58_hons sv58_hmays sv58_hbi sv58_hrest sv58_hB sv58_hP0_14 sv58_hout sv58_hown
  refine hK52 _ _ ?_
  clear hK52 K51
  refine WC_seq (fun K59 hK60 => ?_)
  refine WC_draw Ext tb_mix (fun W61 hE62 => ?_)
  replace hm := hE62.at hm
  replace hons := hE62.at hons
  replace hmays := hE62.at hmays
  replace hbi := hE62.at hbi
  replace hrest := hE62.at hrest
  replace hB := below_ext hB hE62 hN0
  replace hP0_14 := hE62.ow hP0_14
  replace hout := hE62.at hout
  replace hown := hE62.ow hown
  replace hm4_2 := hE62.at hm4_2
  have hS := Ext.refl W61
  refine WT_take (dd := some 47) 0 rfl (by kernel_rfl) (by kernel_rfl) (by kernel_rfl) rfl rfl rfl (fun _wq _hq => r_fieldAddr (b := _) (o := _) rfl tb_fo34_1) hS ?_
  refine WT_take (dd := some 48) 1 rfl (by kernel_rfl) (by kernel_rfl) (by kernel_rfl) rfl rfl rfl (fun _wq hq => r_load1 (v := .int .u8 _) rfl tb_sc5 (At.cell (hq.at hm4_2) rfl)) hS ?_
  refine WT_take (dd := some 49) 2 rfl (by kernel_rfl) (by kernel_rfl) (by kernel_rfl) rfl rfl rfl (fun _wq _hq => r_move (v := .int .i64 0) rfl) hS ?_
  refine WT_take (dd := some 50) 3 rfl (by kernel_rfl) (by kernel_rfl) (by kernel_rfl) rfl rfl rfl (fun _wq _hq => r_convN (m := 0) rfl Try.underlying3 Try.underlying5 (by decide)) hS ?_
  refine WT_take (dd := some 51) 4 rfl (by kernel_rfl) (by kernel_rfl) (by kernel_rfl) rfl rfl rfl (fun _wq hq => r_load1 (v := .int .i64 _) rfl tb_sc3 (At.cell (hq.at hbi) rfl)) hS ?_
  refine WT_take (dd := some 52) 5 rfl (by kernel_rfl) (by kernel_rfl) (by kernel_rfl) rfl rfl rfl (fun _wq _hq => r_shl (m := 0) rfl rfl (by omega) (by simp only [IntKind.bits]; omega) (by rw [Nat.zero_mul]; decide)) hS ?_
  refine WT_take (dd := some 53) 6 rfl (by kernel_rfl) (by kernel_rfl) (by kernel_rfl) rfl rfl rfl (fun _wq _hq => r_or (n := _) rfl rfl rfl (by show (L.getD k ⟨0, 0⟩).v < 256; omega) (by rw [Nat.zero_mul]; decide)) hS ?_
  refine WT_take (dd := some 54) 7 rfl (by kernel_rfl) (by kernel_rfl) (by kernel_rfl) rfl rfl rfl (fun _wq _hq => r_fieldAddr (b := _) (o := _) rfl tb_fo34_1) hS ?_
  refine WT_one (dd := none) 8 (by kernel_rfl) rfl rfl rfl rfl (Y_store1 (v := .int .u8 _) rfl rfl tb_sc5 rfl hm4_2 (by simp) (fun W63 hG64 hm65 => ⟨.inr (by kernel_rfl), ?_⟩))
  have sv66_hm := hm
  have sv66_hons := hons
  have sv66_hmays := hmays
  have sv66_hbi := hbi
  have sv66_hrest := hrest
  have sv66_hB := hB
  have sv66_hP0_14 := hP0_14
  have sv66_hout := hout
  have sv66_hown := hown
  have sv66_hm4_2 := hm4_2
  replace hm := At.grownAt hm hm4_2 hG64 (by decide)
  replace hons := At.grownAt hons hm4_2 hG64 (by decide)
  replace hmays := At.grownAt hmays hm4_2 hG64 (by decide)
  replace hbi := At.grownAt hbi hm4_2 hG64 (by decide)
  replace hrest := At.grownAt hrest hm4_2 hG64 (by decide)
  replace hB := below_grown hB hG64 hN0 (fun j hj => by cases hj; exact lo_b4_2)
  replace hP0_14 := OwT.grownAtNe hP0_14 no_v0_14_b4_2 hG64
  replace hout := At.grownAt hout hm4_2 hG64 (by decide)
  replace hown := OwT.grownAtNe hown no_v2_b4_2 hG64
  clear hG64 hm4_2
  have hm4_2 := hm65
  clear hm65
  replace hm4_2 : At _ _ #[_, _] _ := hm4_2
  refine WT_done (by kernel_rfl) ?_
  try clear sv66_hm sv66_hons sv66_hmays sv66_hbi sv66_hrest sv66_hB sv66_hP0_14 sv66_hout sv66_hown
  refine hK60 _ _ ?_
  clear hK60 K59
  refine WC_region ?_
  refine WL_val (dd := some 55) rfl rfl rfl (r_load1 (v := v2) rfl tb_sc27 (At.cell hout rfl)) ?_
  refine WL_val (dd := some 56) rfl rfl rfl (r_loadW rfl tb_ag34 rfl hm4_2) ?_
  refine WL_step (dd := some 57) rfl rfl rfl (Y_lit1 (u := .agg #[_, _]) rfl tb_el27 tb_zs34 rfl (by decide) (by decide) (fun b7_2 W67 hb68 hE69 hm7_2 => ?_))
  have lo_b7_2 : N ≤ b7_2 := hb68 ▸ (Nat.le_trans hN0 (Below.size hB))
  have no_v0_14_b7_2 := OwT.neB (b := b7_2) hP0_14 (Nat.le_of_eq hb68.symm)
  have no_v2_b7_2 := OwT.neB (b := b7_2) hown (Nat.le_of_eq hb68.symm)
  have ne_b4_2_b7_2 : b4_2 ≠ b7_2 := Nat.ne_of_lt (hb68 ▸ hm4_2.lt)
  clear hb68
  replace hm := hE69.at hm
  replace hons := hE69.at hons
  replace hmays := hE69.at hmays
  replace hbi := hE69.at hbi
  replace hrest := hE69.at hrest
  replace hB := below_ext hB hE69 hN0
  replace hP0_14 := hE69.ow hP0_14
  replace hout := hE69.at hout
  replace hown := hE69.ow hown
  replace hm4_2 := hE69.at hm4_2
  clear hE69
  refine WL_step (dd := some 58) rfl rfl rfl (Y_appendA (v := v2) (v2 := .slice (some ⟨b7_2, 0, none⟩) 1 1) rfl rfl tb_el27 tb_zs34 (by decide) hown (sl_lit1 hm7_2 rfl) rfl (by have := Below.size hB; omega) (by first | omega | (simp; omega) | (simp only [flagsTo_len, litsTo_len, firstF_len, ptF_len]; omega)) (by first | omega | (simp; omega) | (simp only [flagsTo_len, litsTo_len, firstF_len, ptF_len]; omega)) (fun v7_3 W70 hG71 ho7_3 hob72 => ?_))
  have hap73 := Apart.app hap hob72 hP0_14
  replace ho7_3 := OwT.snoc (enc := encC) (x := ⟨_, _⟩) rfl rfl rfl rfl ho7_3
  clear hm7_2
  replace hm := At.grownOw hm hown hG71 (by decide)
  replace hons := At.grownOw hons hown hG71 (by decide)
  replace hmays := At.grownOw hmays hown hG71 (by decide)
  replace hbi := At.grownOw hbi hown hG71 (by decide)
  replace hrest := At.grownOw hrest hown hG71 (by decide)
  replace hB := below_grown hB hG71 hN0 (fun j hj => (OwT.lt hown j hj))
  replace hP0_14 := OwT.grownAp hP0_14 hap hG71
  replace hout := At.grownOw hout hown hG71 (by decide)
  replace hm4_2 := At.grownOwNe hm4_2 no_v2_b4_2 hG71
  clear hG71
  clear hown
  refine WL_step (dd := none) rfl rfl rfl (Y_store1 (v := v7_3) rfl rfl tb_sc27 (SlT.one ho7_3.sl) hout (by simp) (fun W74 hG75 hm76 => ?_))
  replace hm := At.grownAt hm hout hG75 (by decide)
  replace hons := At.grownAt hons hout hG75 (by decide)
  replace hmays := At.grownAt hmays hout hG75 (by decide)
  replace hbi := At.grownAt hbi hout hG75 (by decide)
  replace hrest := At.grownAt hrest hout hG75 (by decide)
  replace hB := below_grown hB hG75 hN0 (fun j hj => by cases hj; exact loo)
  replace hP0_14 := OwT.grownAt hP0_14 hout hG75 (by decide)
  replace hm4_2 := At.grownAt hm4_2 hout hG75 (by decide)
  replace ho7_3 := OwT.grownAt ho7_3 hout hG75 (by decide)
  clear hG75 hout
  have hout := hm76
  clear hm76
  replace hout : At _ _ #[_] _ := hout
  refine WL_nil ?_
  refine hK42 _ _ ?_
  clear hK42 K41
  refine WC_region ?_
  refine WL_val (dd := some 59) rfl rfl rfl (r_addI rfl rfl (by omega) (by omega)) ?_
  refine WL_val (dd := some 37) rfl rfl rfl (r_move (v := .int .i64 _) rfl) ?_
  refine WL_nil ?_
  refine hJ36 _ _ ((k + 1, v7_3)) ?_ ?_ ?_ ?_
  · repeat (first | exact agree.mask _ _ _ | refine agree.updo ?_ rfl _ | refine agree.updL ?_ _ rfl | refine agree.maskS rfl ?_)
  · exact ⟨rfl, trivial⟩
  · exact ⟨hm, hons, hmays, hbi, hrest, hB, hP0_14, hout, (by rw [take_lit (by omega), ← List.append_assoc]; exact ho7_3), hap73, (by omega), trivial⟩
  · show L.length - (k + 1) < L.length - k; omega
 ·
  try with_reducible replace hc0 := of_decide_eq_false hc0
  refine WC_exit ?_
  repeat (first | refine thenQ_exit ?_ | refine blockQ_exit ?_)
  refine norm_of_ret ?_
  repeat (first | refine thenQ_ret ?_ | refine blockQ_ret ?_)
  try clear hK40 K39
  try clear hJ36 J35
  refine ret_  ?_
  have hkL : k = L.length := by omega
  rw [hkL, List.take_length] at hown
  exact ⟨hB, hm, hons, hmays, hbi, hrest, _, hout, hown⟩

theorem CT1 (n f i on may N bm bons bmays bi brest bout rest : Nat) (v0 : Value) (out : List Cb) (w : World) (hN0 : N ≤ w.heap.size) (hih : ∀ (on may i : Nat) (w : World), n ≤ 8 → Good n on may i → n + 1 - i ≤ f → f ≤ 9 → Fn Try.prog 97 #[.agg #[.int .i64 (n : Int), wv (allS n) 0, wv (allS n) 1, wv (allS n) 2, wv (allS n) 3], setV on, setV may, .int .i64 (i : Int)] w fun v w' => OwT encC 2 34 w' w.heap.size v (coverL n f on may i)) (h8 : n ≤ 8) (hg : Good n on may i) (hi : i < n) (hf : n + 1 - (i + 1) ≤ f) (hf9 : f ≤ 8) (hm : At w bm #[.int .i64 (n : Int), wv (allS n) 0, wv (allS n) 1, wv (allS n) 2, wv (allS n) 3] 106) (hons : At w bons (pairA (sideS on i false) (sideS on i true)) 134) (hmays : At w bmays (pairA (sideS may i false) (sideS may i true)) 134) (hbi : At w bi #[.int .i64 (i : Int)] 3) (hrest : At w brest #[wv rest 0, wv rest 1, wv rest 2, wv rest 3] 24) (hout : At w bout #[v0] 27) (hown : OwT encC 2 34 w N v0 out) (hlen : out.length ≤ 20000) (lor : N ≤ brest) (loo : N ≤ bout) :
    FnG Try.prog 137 #[.int .i64 1, .pointer (some ⟨bm, 0, none⟩), .pointer (some ⟨bons, 0, none⟩), .pointer (some ⟨bmays, 0, none⟩), .pointer (some ⟨bi, 0, none⟩), .pointer (some ⟨brest, 0, none⟩), .pointer (some ⟨bout, 0, none⟩)] w fun v w' => Below N w w' ∧ At w' bm #[.int .i64 (n : Int), wv (allS n) 0, wv (allS n) 1, wv (allS n) 2, wv (allS n) 3] 106 ∧ At w' bons (pairA (sideS on i false) (sideS on i true)) 134 ∧ At w' bmays (pairA (sideS may i false) (sideS may i true)) 134 ∧ At w' bi #[.int .i64 (i : Int)] 3 ∧ At w' brest #[wv (rest ||| andNot (sideS on i true) (ptsU (coverL n f (andNot (sideS on i true) (sideS may i false)) (sideS may i true) (i + 1)) n (coverL n f (andNot (sideS on i true) (sideS may i false)) (sideS may i true) (i + 1)).length)) 0, wv (rest ||| andNot (sideS on i true) (ptsU (coverL n f (andNot (sideS on i true) (sideS may i false)) (sideS may i true) (i + 1)) n (coverL n f (andNot (sideS on i true) (sideS may i false)) (sideS may i true) (i + 1)).length)) 1, wv (rest ||| andNot (sideS on i true) (ptsU (coverL n f (andNot (sideS on i true) (sideS may i false)) (sideS may i true) (i + 1)) n (coverL n f (andNot (sideS on i true) (sideS may i false)) (sideS may i true) (i + 1)).length)) 2, wv (rest ||| andNot (sideS on i true) (ptsU (coverL n f (andNot (sideS on i true) (sideS may i false)) (sideS may i true) (i + 1)) n (coverL n f (andNot (sideS on i true) (sideS may i false)) (sideS may i true) (i + 1)).length)) 3] 24 ∧ ∃ v1, At w' bout #[v1] 27 ∧ OwT encC 2 34 w' N v1 (out ++ (coverL n f (andNot (sideS on i true) (sideS may i false)) (sideS may i true) (i + 1)).map (litC i 1)) := by
 refine FnG_intro (n := 60) Try.func137 rfl rfl (Nat.le_of_ble_eq_true rfl) ?_
 have hB : Below N w w := Below.refl _ _
 have hi8 : i < 8 := by omega
 refine WC_seq (fun K1 hK2 => ?_)
 refine WC_draw Ext tb_mix (fun W3 hE4 => ?_)
 replace hm := hE4.at hm
 replace hons := hE4.at hons
 replace hmays := hE4.at hmays
 replace hbi := hE4.at hbi
 replace hrest := hE4.at hrest
 replace hout := hE4.at hout
 replace hown := hE4.ow hown
 replace hB := below_ext hB hE4 hN0
 have hS := Ext.refl W3
 refine WT_take (dd := some 11) 0 rfl (by kernel_rfl) (by kernel_rfl) (by kernel_rfl) rfl rfl rfl (fun _wq hq => r_loadW rfl tb_ag106 rfl (hq.at hm)) hS ?_
 refine WT_take (dd := some 12) 1 rfl (by kernel_rfl) (by kernel_rfl) (by kernel_rfl) rfl rfl rfl (fun _wq _hq => r_move (v := .int .i64 1) rfl) hS ?_
 refine WT_take (dd := some 13) 2 rfl (by kernel_rfl) (by kernel_rfl) (by kernel_rfl) rfl rfl rfl (fun _wq _hq => r_idxA rfl rfl tb_ar134 (by omega) (by omega)) hS ?_
 refine WT_take (dd := some 14) 3 rfl (by kernel_rfl) (by kernel_rfl) (by kernel_rfl) rfl rfl rfl (fun _wq hq => r_load4 rfl tb_ag24 (At.cell (hq.at hons) rfl) (At.cell (hq.at hons) rfl) (At.cell (hq.at hons) rfl) (At.cell (hq.at hons) rfl)) hS ?_
 refine WT_take (dd := some 15) 4 rfl (by kernel_rfl) (by kernel_rfl) (by kernel_rfl) rfl rfl rfl (fun _wq _hq => r_move (v := .int .i64 1) rfl) hS ?_
 refine WT_take (dd := some 16) 5 rfl (by kernel_rfl) (by kernel_rfl) (by kernel_rfl) rfl rfl rfl (fun _wq _hq => r_subI rfl rfl (by omega) (by omega)) hS ?_
 refine WT_take (dd := some 17) 6 rfl (by kernel_rfl) (by kernel_rfl) (by kernel_rfl) rfl rfl rfl (fun _wq _hq => r_idxA rfl rfl tb_ar134 (by omega) (by omega)) hS ?_
 refine WT_take (dd := some 18) 7 rfl (by kernel_rfl) (by kernel_rfl) (by kernel_rfl) rfl rfl rfl (fun _wq hq => r_load4 rfl tb_ag24 (At.cell (hq.at hmays) rfl) (At.cell (hq.at hmays) rfl) (At.cell (hq.at hmays) rfl) (At.cell (hq.at hmays) rfl)) hS ?_
 refine WT_take (dd := some 20) 9 rfl (by kernel_rfl) (by kernel_rfl) (by kernel_rfl) rfl rfl rfl (fun _wq _hq => r_move (v := .int .i64 1) rfl) hS ?_
 refine WT_take (dd := some 21) 10 rfl (by kernel_rfl) (by kernel_rfl) (by kernel_rfl) rfl rfl rfl (fun _wq _hq => r_idxA rfl rfl tb_ar134 (by omega) (by omega)) hS ?_
 refine WT_take (dd := some 22) 11 rfl (by kernel_rfl) (by kernel_rfl) (by kernel_rfl) rfl rfl rfl (fun _wq hq => r_load4 rfl tb_ag24 (At.cell (hq.at hmays) rfl) (At.cell (hq.at hmays) rfl) (At.cell (hq.at hmays) rfl) (At.cell (hq.at hmays) rfl)) hS ?_
 refine WT_take (dd := some 23) 12 rfl (by kernel_rfl) (by kernel_rfl) (by kernel_rfl) rfl rfl rfl (fun _wq hq => r_load1 (v := .int .i64 _) rfl tb_sc3 (At.cell (hq.at hbi) rfl)) hS ?_
 refine WT_take (dd := some 24) 13 rfl (by kernel_rfl) (by kernel_rfl) (by kernel_rfl) rfl rfl rfl (fun _wq _hq => r_addI rfl rfl (by omega) (by omega)) hS ?_
 refine WT_one (dd := some 19) 8 (by kernel_rfl) rfl rfl rfl rfl (Yd.call (r_call2 tb_c132 (v0 := .agg #[_, _, _, _]) rfl (v1 := .agg #[_, _, _, _]) rfl) (C_set_Less _ _ _) (fun v0_8 W5 hE6 hP0_8 => ⟨.inl (hS.trans hE6), ?_⟩))
 have hsz7 := (Nat.le_trans hN0 (Below.size hB))
 have sv8_hm := hm
 have sv8_hons := hons
 have sv8_hmays := hmays
 have sv8_hbi := hbi
 have sv8_hrest := hrest
 have sv8_hout := hout
 have sv8_hown := hown
 have sv8_hB := hB
 replace hm := hE6.at hm
 replace hons := hE6.at hons
 replace hmays := hE6.at hmays
 replace hbi := hE6.at hbi
 replace hrest := hE6.at hrest
 replace hout := hE6.at hout
 replace hown := hE6.ow hown
 replace hB := below_ext hB hE6 hN0
 replace hS := hS.trans hE6
 clear hE6
 clear hsz7
 obtain rfl := hP0_8
 refine WT_one (dd := some 25) 14 (by kernel_rfl) rfl rfl rfl rfl (Yd.call (r_call4 tb_c97 (v0 := .agg #[_, _, _, _, _]) rfl (v1 := .agg #[_, _, _, _]) rfl (v2 := .agg #[_, _, _, _]) rfl (v3 := .int .i64 _) rfl) (hih _ _ (i + 1) _ h8 (hg.side h8 hi true) hf (Nat.le_trans hf9 (by decide))) (fun v0_14 W9 hE10 hP0_14 => ⟨.inl (hS.trans hE10), ?_⟩))
 have hlt11 := OwT.lt2 hown
 have hsz12 := (Nat.le_trans hN0 (Below.size hB))
 replace hm := hE10.at hm
 replace hons := hE10.at hons
 replace hmays := hE10.at hmays
 replace hbi := hE10.at hbi
 replace hrest := hE10.at hrest
 replace hout := hE10.at hout
 replace hown := hE10.ow hown
 replace hB := below_ext hB hE10 hN0
 replace hS := hS.trans hE10
 clear hE10
 have hap13 := Apart.new hlt11 hP0_14
 replace hP0_14 := OwT.mono hP0_14 hsz12
 clear hsz12
 have hcm : CubesOk n (sideS may i true) (i + 1) (coverL n f (andNot (sideS on i true) (sideS may i false)) (sideS may i true) (i + 1)) := (cover_ok h8 f _ _ _ (hg.side h8 hi true) hf).1
 have hcl := coverL_len (n := n) f (andNot (sideS on i true) (sideS may i false)) (sideS may i true) (i + 1)
 have h3f : 3 ^ f ≤ 3 ^ 8 := Nat.pow_le_pow_right (by decide) hf9
 generalize hL : coverL n f (andNot (sideS on i true) (sideS may i false)) (sideS may i true) (i + 1) = L at *
 refine WT_take (dd := some 8) 15 rfl (by kernel_rfl) (by kernel_rfl) (by kernel_rfl) rfl rfl rfl (fun _wq _hq => r_assign (v := v0_14) rfl) hS ?_
 refine WT_done (by kernel_rfl) ?_
 try clear sv8_hm sv8_hons sv8_hmays sv8_hbi sv8_hrest sv8_hout sv8_hown sv8_hB
 refine hK2 _ _ ?_
 clear hK2 K1
 refine WC_seq (fun K14 hK15 => ?_)
 refine WC_draw Ext tb_mix (fun W16 hE17 => ?_)
 replace hm := hE17.at hm
 replace hons := hE17.at hons
 replace hmays := hE17.at hmays
 replace hbi := hE17.at hbi
 replace hrest := hE17.at hrest
 replace hout := hE17.at hout
 replace hown := hE17.ow hown
 replace hB := below_ext hB hE17 hN0
 replace hP0_14 := hE17.ow hP0_14
 have hS := Ext.refl W16
 refine WT_take (dd := some 26) 0 rfl (by kernel_rfl) (by kernel_rfl) (by kernel_rfl) rfl rfl rfl (fun _wq hq => r_loadW rfl tb_ag24 rfl (hq.at hrest)) hS ?_
 refine WT_take (dd := some 27) 1 rfl (by kernel_rfl) (by kernel_rfl) (by kernel_rfl) rfl rfl rfl (fun _wq _hq => r_move (v := .int .i64 1) rfl) hS ?_
 refine WT_take (dd := some 28) 2 rfl (by kernel_rfl) (by kernel_rfl) (by kernel_rfl) rfl rfl rfl (fun _wq _hq => r_idxA rfl rfl tb_ar134 (by omega) (by omega)) hS ?_
 refine WT_take (dd := some 29) 3 rfl (by kernel_rfl) (by kernel_rfl) (by kernel_rfl) rfl rfl rfl (fun _wq hq => r_load4 rfl tb_ag24 (At.cell (hq.at hons) rfl) (At.cell (hq.at hons) rfl) (At.cell (hq.at hons) rfl) (At.cell (hq.at hons) rfl)) hS ?_
 refine WT_take (dd := some 30) 4 rfl (by kernel_rfl) (by kernel_rfl) (by kernel_rfl) rfl rfl rfl (fun _wq hq => r_loadW rfl tb_ag106 rfl (hq.at hm)) hS ?_
 refine WT_take (dd := some 31) 5 rfl (by kernel_rfl) (by kernel_rfl) (by kernel_rfl) rfl rfl rfl (fun _wq _hq => r_move (v := v0_14) rfl) hS ?_
 refine WT_one (dd := some 32) 6 (by kernel_rfl) rfl rfl rfl rfl (Yd.call (r_call2 tb_c138 (v0 := .agg #[_, _, _, _, _]) rfl (v1 := v0_14) rfl) (C__isop_maker__held n _ L _ h8 hP0_14.sl (fun c hc => ⟨(hcm c hc).1, (hcm c hc).2.1⟩) (by omega)) (fun v1_6 W18 hE19 hP1_6 => ⟨.inl (hS.trans hE19), ?_⟩))
 have hsz20 := (Nat.le_trans hN0 (Below.size hB))
 have sv21_hm := hm
 have sv21_hons := hons
 have sv21_hmays := hmays
 have sv21_hbi := hbi
 have sv21_hrest := hrest
 have sv21_hout := hout
 have sv21_hown := hown
 have sv21_hB := hB
 have sv21_hP0_14 := hP0_14
 replace hm := hE19.at hm
 replace hons := hE19.at hons
 replace hmays := hE19.at hmays
 replace hbi := hE19.at hbi
 replace hrest := hE19.at hrest
 replace hout := hE19.at hout
 replace hown := hE19.ow hown
 replace hB := below_ext hB hE19 hN0
 replace hP0_14 := hE19.ow hP0_14
 replace hS := hS.trans hE19
 clear hE19
 clear hsz20
 obtain rfl := hP1_6
 refine WT_one (dd := some 33) 7 (by kernel_rfl) rfl rfl rfl rfl (Yd.call (r_call2 tb_c132 (v0 := .agg #[_, _, _, _]) rfl (v1 := .agg #[_, _, _, _]) rfl) (C_set_Less _ _ _) (fun v1_7 W22 hE23 hP1_7 => ⟨.inl (hS.trans hE23), ?_⟩))
 have hsz24 := (Nat.le_trans hN0 (Below.size hB))
 replace hm := hE23.at hm
 replace hons := hE23.at hons
 replace hmays := hE23.at hmays
 replace hbi := hE23.at hbi
 replace hrest := hE23.at hrest
 replace hout := hE23.at hout
 replace hown := hE23.ow hown
 replace hB := below_ext hB hE23 hN0
 replace hP0_14 := hE23.ow hP0_14
 replace hS := hS.trans hE23
 clear hE23
 clear hsz24
 obtain rfl := hP1_7
 refine WT_one (dd := some 34) 8 (by kernel_rfl) rfl rfl rfl rfl (Yd.call (r_call2 tb_c30 (v0 := .agg #[_, _, _, _]) rfl (v1 := .agg #[_, _, _, _]) rfl) (C_set_Or _ _ _) (fun v1_8 W25 hE26 hP1_8 => ⟨.inl (hS.trans hE26), ?_⟩))
 have hsz27 := (Nat.le_trans hN0 (Below.size hB))
 replace hm := hE26.at hm
 replace hons := hE26.at hons
 replace hmays := hE26.at hmays
 replace hbi := hE26.at hbi
 replace hrest := hE26.at hrest
 replace hout := hE26.at hout
 replace hown := hE26.ow hown
 replace hB := below_ext hB hE26 hN0
 replace hP0_14 := hE26.ow hP0_14
 replace hS := hS.trans hE26
 clear hE26
 clear hsz27
 obtain rfl := hP1_8
 refine WT_one (dd := none) 9 (by kernel_rfl) rfl rfl rfl rfl (Y_storeW rfl rfl tb_ag24 rfl hrest rfl (by rfl) (fun W28 hG29 hm30 => ⟨.inr (by kernel_rfl), ?_⟩))
 replace hm := At.grownAt hm hrest hG29 (by decide)
 replace hons := At.grownAt hons hrest hG29 (by decide)
 replace hmays := At.grownAt hmays hrest hG29 (by decide)
 replace hbi := At.grownAt hbi hrest hG29 (by decide)
 replace hout := At.grownAt hout hrest hG29 (by decide)
 replace hown := OwT.grownAt hown hrest hG29 (by decide)
 replace hB := below_grown hB hG29 hN0 (fun j hj => by cases hj; exact lor)
 replace hP0_14 := OwT.grownAt hP0_14 hrest hG29 (by decide)
 clear hG29 hrest
 have hrest := hm30
 clear hm30
 refine WT_done (by kernel_rfl) ?_
 try clear sv21_hm sv21_hons sv21_hmays sv21_hbi sv21_hout sv21_hown sv21_hB sv21_hP0_14
 refine hK15 _ _ ?_
 clear hK15 K14
 refine WC_seq (fun K31 hK32 => ?_)
 refine WC_region ?_
 refine WL_val (dd := some 35) rfl rfl rfl (r_move (v := v0_14) rfl) ?_
 refine WL_val (dd := some 36) rfl rfl rfl (r_lenS (v := v0_14) rfl hP0_14.sl tb_el27) ?_
 refine WL_val (dd := some 37) rfl rfl rfl (r_move (v := .int .i64 0) rfl) ?_
 refine WL_nil ?_
 refine hK32 _ _ ?_
 clear hK32 K31
 refine WC_block ?_
 refine WC_loop (σ := (Nat) × (Value)) [10, 37, 38, 39, 40, 41, 42, 43, 44, 45, 46, 47, 48, 49, 50, 51, 52, 53, 54, 55, 56, 57, 58, 59] (fun (k, v2) => [(37, .int .i64 (k : Int))]) (fun sg W => match sg with | (k, v2) => (At W bm _ 106) ∧ (At W bons _ 134) ∧ (At W bmays _ 134) ∧ (At W bi _ 3) ∧ (At W brest _ 24) ∧ (Below N w W) ∧ (OwT encC 2 34 W N v0_14 _) ∧ (At W bout #[v2] 27) ∧ (OwT encC 2 34 W N v2 (out ++ (L.take k).map (litC i 1))) ∧ (Apart v2 v0_14) ∧ (k ≤ L.length) ∧ (True)) (fun (k, v2) => L.length - k) ((0, v0)) ⟨rfl, trivial⟩ ⟨hm, hons, hmays, hbi, hrest, hB, hP0_14, hout, (by rw [List.take_zero, List.map_nil, List.append_nil]; exact hown), hap13, (Nat.zero_le _), trivial⟩ ?_
 clear hm hons hmays hbi hrest hout hown hB hap13 hP0_14
 rintro ⟨k, v2⟩ g34 W33 ⟨hm, hons, hmays, hbi, hrest, hB, hP0_14, hout, hown, hap, hk, _⟩ J35 hJ36
 refine WC_seq (fun K37 hK38 => ?_)
 refine WC_region ?_
 refine WL_val (dd := some 38) rfl rfl rfl (r_lss rfl rfl) ?_
 refine WL_nil ?_
 refine hK38 _ _ ?_
 clear hK38 K37
 refine WC_seq (fun K39 hK40 => ?_)
 refine WC_cond (b := _) rfl (fun hc0 => ?_) (fun hc0 => ?_)
 ·
  try with_reducible replace hc0 := of_decide_eq_true hc0
  refine WC_skip ?_
  refine hK40 _ _ ?_
  clear hK40 K39
  refine WC_seq (fun K41 hK42 => ?_)
  refine WC_block ?_
  refine WC_seq (fun K43 hK44 => ?_)
  have hck := hcm (L.getD k ⟨0, 0⟩) (getD_mem (by omega))
  obtain ⟨hck1, hck2, _, _⟩ := hck
  have hle256 := pow_le256 h8
  have hck3 : (L.getD k ⟨0, 0⟩).v ≤ (L.getD k ⟨0, 0⟩).m := by rw [← hck2]; exact Nat.and_le_right
  refine WC_region ?_
  refine WL_val (dd := some 39) rfl rfl rfl (r_idxS (v := v0_14) rfl hP0_14.sl rfl tb_el27 (by omega) (by first | omega | (simp only [flagsTo_len, litsTo_len, firstF_len, ptF_len]; omega))) ?_
  refine WL_val (dd := some 40) rfl rfl rfl (r_load2 rfl tb_ag34 (SlT.cell hP0_14.sl encC_len ⟨0, 0⟩ (by omega) (by first | omega | (simp only [flagsTo_len, litsTo_len, firstF_len, ptF_len]; omega)) 0 rfl) (SlT.cell hP0_14.sl encC_len ⟨0, 0⟩ (by omega) (by first | omega | (simp only [flagsTo_len, litsTo_len, firstF_len, ptF_len]; omega)) 1 rfl)) ?_
  refine WL_step (dd := some 10) rfl rfl rfl (Y_alloc tb_z34 rfl (fun b4_2 W45 hb46 hE47 hm4_2 => ?_))
  have lo_b4_2 : N ≤ b4_2 := hb46 ▸ (Nat.le_trans hN0 (Below.size hB))
  have no_v0_14_b4_2 := OwT.neB (b := b4_2) hP0_14 (Nat.le_of_eq hb46.symm)
  have no_v2_b4_2 := OwT.neB (b := b4_2) hown (Nat.le_of_eq hb46.symm)
  clear hb46
  replace hm := hE47.at hm
  replace hons := hE47.at hons
  replace hmays := hE47.at hmays
  replace hbi := hE47.at hbi
  replace hrest := hE47.at hrest
  replace hB := below_ext hB hE47 hN0
  replace hP0_14 := hE47.ow hP0_14
  replace hout := hE47.at hout
  replace hown := hE47.ow hown
  clear hE47
  refine WL_step (dd := none) rfl rfl rfl (Y_storeW rfl rfl tb_ag34 rfl hm4_2 rfl (by rfl) (fun W48 hG49 hm50 => ?_))
  replace hm := At.grownAt hm hm4_2 hG49 (by decide)
  replace hons := At.grownAt hons hm4_2 hG49 (by decide)
  replace hmays := At.grownAt hmays hm4_2 hG49 (by decide)
  replace hbi := At.grownAt hbi hm4_2 hG49 (by decide)
  replace hrest := At.grownAt hrest hm4_2 hG49 (by decide)
  replace hB := below_grown hB hG49 hN0 (fun j hj => by cases hj; exact lo_b4_2)
  replace hP0_14 := OwT.grownAtNe hP0_14 no_v0_14_b4_2 hG49
  replace hout := At.grownAt hout hm4_2 hG49 (by decide)
  replace hown := OwT.grownAtNe hown no_v2_b4_2 hG49
  clear hG49 hm4_2
  have hm4_2 := hm50
  clear hm50
  refine WL_nil ?_
  refine hK44 _ _ ?_
  clear hK44 K43
  refine WC_seq (fun K51 hK52 => ?_)
  refine WC_draw Ext tb_mix (fun W53 hE54 => ?_)
  replace hm := hE54.at hm
  replace hons := hE54.at hons
  replace hmays := hE54.at hmays
  replace hbi := hE54.at hbi
  replace hrest := hE54.at hrest
  replace hB := below_ext hB hE54 hN0
  replace hP0_14 := hE54.ow hP0_14
  replace hout := hE54.at hout
  replace hown := hE54.ow hown
  replace hm4_2 := hE54.at hm4_2
  have hS := Ext.refl W53
  refine WT_take (dd := some 41) 0 rfl (by kernel_rfl) (by kernel_rfl) (by kernel_rfl) rfl rfl rfl (fun _wq _hq => r_fieldAddr (b := _) (o := _) rfl tb_fo34_0) hS ?_
  refine WT_take (dd := some 42) 1 rfl (by kernel_rfl) (by kernel_rfl) (by kernel_rfl) rfl rfl rfl (fun _wq hq => r_load1 (v := .int .u8 _) rfl tb_sc5 (At.cell (hq.at hm4_2) rfl)) hS ?_
  refine WT_take (dd := some 43) 2 rfl (by kernel_rfl) (by kernel_rfl) (by kernel_rfl) rfl rfl rfl (fun _wq hq => r_load1 (v := .int .i64 _) rfl tb_sc3 (At.cell (hq.at hbi) rfl)) hS ?_
  refine WT_take (dd := some 44) 3 rfl (by kernel_rfl) (by kernel_rfl) (by kernel_rfl) rfl rfl rfl (fun _wq _hq => r_shl (m := 1) rfl rfl (by omega) (by simp only [IntKind.bits]; omega) (by exact shl1 _ _ (by simp only [bitsN]; omega))) hS ?_
  refine WT_take (dd := some 45) 4 rfl (by kernel_rfl) (by kernel_rfl) (by kernel_rfl) rfl rfl rfl (fun _wq _hq => r_or (n := _) rfl rfl rfl (by show (L.getD k ⟨0, 0⟩).m < 256; omega) (by exact shl1 _ _ (by simp only [bitsN]; omega))) hS ?_
  refine WT_take (dd := some 46) 5 rfl (by kernel_rfl) (by kernel_rfl) (by kernel_rfl) rfl rfl rfl (fun _wq _hq => r_fieldAddr (b := _) (o := _) rfl tb_fo34_0) hS ?_
  refine WT_one (dd := none) 6 (by kernel_rfl) rfl rfl rfl rfl (Y_store1 (v := .int .u8 _) rfl rfl tb_sc5 rfl hm4_2 (by simp) (fun W55 hG56 hm57 => ⟨.inr (by kernel_rfl), ?_⟩))
  have sv58_hm := hm
  have sv58_hons := hons
  have sv58_hmays := hmays
  have sv58_hbi := hbi
  have sv58_hrest := hrest
  have sv58_hB := hB
  have sv58_hP0_14 := hP0_14
  have sv58_hout := hout
  have sv58_hown := hown
  have sv58_hm4_2 := hm4_2
  replace hm := At.grownAt hm hm4_2 hG56 (by decide)
  replace hons := At.grownAt hons hm4_2 hG56 (by decide)
  replace hmays := At.grownAt hmays hm4_2 hG56 (by decide)
  replace hbi := At.grownAt hbi hm4_2 hG56 (by decide)
  replace hrest := At.grownAt hrest hm4_2 hG56 (by decide)
  replace hB := below_grown hB hG56 hN0 (fun j hj => by cases hj; exact lo_b4_2)
  replace hP0_14 := OwT.grownAtNe hP0_14 no_v0_14_b4_2 hG56
  replace hout := At.grownAt hout hm4_2 hG56 (by decide)
  replace hown := OwT.grownAtNe hown no_v2_b4_2 hG56
  clear hG56 hm4_2
  have hm4_2 := hm57
  clear hm57
  replace hm4_2 : At _ _ #[_, _] _ := hm4_2
  refine WT_done (by kernel_rfl) ?_
  try clear sv58_hm sv58_hons sv58_hmays sv58_hbi sv58_hrest sv58_hB sv58_hP0_14 sv58_hout sv58_hown
  refine hK52 _ _ ?_
  clear hK52 K51
  refine WC_seq (fun K59 hK60 => ?_)
  refine WC_draw Ext tb_mix (fun W61 hE62 => ?_)
  replace hm := hE62.at hm
  replace hons := hE62.at hons
  replace hmays := hE62.at hmays
  replace hbi := hE62.at hbi
  replace hrest := hE62.at hrest
  replace hB := below_ext hB hE62 hN0
  replace hP0_14 := hE62.ow hP0_14
  replace hout := hE62.at hout
  replace hown := hE62.ow hown
  replace hm4_2 := hE62.at hm4_2
  have hS := Ext.refl W61
  refine WT_take (dd := some 47) 0 rfl (by kernel_rfl) (by kernel_rfl) (by kernel_rfl) rfl rfl rfl (fun _wq _hq => r_fieldAddr (b := _) (o := _) rfl tb_fo34_1) hS ?_
  refine WT_take (dd := some 48) 1 rfl (by kernel_rfl) (by kernel_rfl) (by kernel_rfl) rfl rfl rfl (fun _wq hq => r_load1 (v := .int .u8 _) rfl tb_sc5 (At.cell (hq.at hm4_2) rfl)) hS ?_
  refine WT_take (dd := some 49) 2 rfl (by kernel_rfl) (by kernel_rfl) (by kernel_rfl) rfl rfl rfl (fun _wq _hq => r_move (v := .int .i64 1) rfl) hS ?_
  refine WT_take (dd := some 50) 3 rfl (by kernel_rfl) (by kernel_rfl) (by kernel_rfl) rfl rfl rfl (fun _wq _hq => r_convN (m := 1) rfl Try.underlying3 Try.underlying5 (by decide)) hS ?_
  refine WT_take (dd := some 51) 4 rfl (by kernel_rfl) (by kernel_rfl) (by kernel_rfl) rfl rfl rfl (fun _wq hq => r_load1 (v := .int .i64 _) rfl tb_sc3 (At.cell (hq.at hbi) rfl)) hS ?_
  refine WT_take (dd := some 52) 5 rfl (by kernel_rfl) (by kernel_rfl) (by kernel_rfl) rfl rfl rfl (fun _wq _hq => r_shl (m := 1) rfl rfl (by omega) (by simp only [IntKind.bits]; omega) (by exact shl1 _ _ (by simp only [bitsN]; omega))) hS ?_
  refine WT_take (dd := some 53) 6 rfl (by kernel_rfl) (by kernel_rfl) (by kernel_rfl) rfl rfl rfl (fun _wq _hq => r_or (n := _) rfl rfl rfl (by show (L.getD k ⟨0, 0⟩).v < 256; omega) (by exact shl1 _ _ (by simp only [bitsN]; omega))) hS ?_
  refine WT_take (dd := some 54) 7 rfl (by kernel_rfl) (by kernel_rfl) (by kernel_rfl) rfl rfl rfl (fun _wq _hq => r_fieldAddr (b := _) (o := _) rfl tb_fo34_1) hS ?_
  refine WT_one (dd := none) 8 (by kernel_rfl) rfl rfl rfl rfl (Y_store1 (v := .int .u8 _) rfl rfl tb_sc5 rfl hm4_2 (by simp) (fun W63 hG64 hm65 => ⟨.inr (by kernel_rfl), ?_⟩))
  have sv66_hm := hm
  have sv66_hons := hons
  have sv66_hmays := hmays
  have sv66_hbi := hbi
  have sv66_hrest := hrest
  have sv66_hB := hB
  have sv66_hP0_14 := hP0_14
  have sv66_hout := hout
  have sv66_hown := hown
  have sv66_hm4_2 := hm4_2
  replace hm := At.grownAt hm hm4_2 hG64 (by decide)
  replace hons := At.grownAt hons hm4_2 hG64 (by decide)
  replace hmays := At.grownAt hmays hm4_2 hG64 (by decide)
  replace hbi := At.grownAt hbi hm4_2 hG64 (by decide)
  replace hrest := At.grownAt hrest hm4_2 hG64 (by decide)
  replace hB := below_grown hB hG64 hN0 (fun j hj => by cases hj; exact lo_b4_2)
  replace hP0_14 := OwT.grownAtNe hP0_14 no_v0_14_b4_2 hG64
  replace hout := At.grownAt hout hm4_2 hG64 (by decide)
  replace hown := OwT.grownAtNe hown no_v2_b4_2 hG64
  clear hG64 hm4_2
  have hm4_2 := hm65
  clear hm65
  replace hm4_2 : At _ _ #[_, _] _ := hm4_2
  refine WT_done (by kernel_rfl) ?_
  try clear sv66_hm sv66_hons sv66_hmays sv66_hbi sv66_hrest sv66_hB sv66_hP0_14 sv66_hout sv66_hown
  refine hK60 _ _ ?_
  clear hK60 K59
  refine WC_region ?_
  refine WL_val (dd := some 55) rfl rfl rfl (r_load1 (v := v2) rfl tb_sc27 (At.cell hout rfl)) ?_
  refine WL_val (dd := some 56) rfl rfl rfl (r_loadW rfl tb_ag34 rfl hm4_2) ?_
  refine WL_step (dd := some 57) rfl rfl rfl (Y_lit1 (u := .agg #[_, _]) rfl tb_el27 tb_zs34 rfl (by decide) (by decide) (fun b7_2 W67 hb68 hE69 hm7_2 => ?_))
  have lo_b7_2 : N ≤ b7_2 := hb68 ▸ (Nat.le_trans hN0 (Below.size hB))
  have no_v0_14_b7_2 := OwT.neB (b := b7_2) hP0_14 (Nat.le_of_eq hb68.symm)
  have no_v2_b7_2 := OwT.neB (b := b7_2) hown (Nat.le_of_eq hb68.symm)
  have ne_b4_2_b7_2 : b4_2 ≠ b7_2 := Nat.ne_of_lt (hb68 ▸ hm4_2.lt)
  clear hb68
  replace hm := hE69.at hm
  replace hons := hE69.at hons
  replace hmays := hE69.at hmays
  replace hbi := hE69.at hbi
  replace hrest := hE69.at hrest
  replace hB := below_ext hB hE69 hN0
  replace hP0_14 := hE69.ow hP0_14
  replace hout := hE69.at hout
  replace hown := hE69.ow hown
  replace hm4_2 := hE69.at hm4_2
  clear hE69
  refine WL_step (dd := some 58) rfl rfl rfl (Y_appendA (v := v2) (v2 := .slice (some ⟨b7_2, 0, none⟩) 1 1) rfl rfl tb_el27 tb_zs34 (by decide) hown (sl_lit1 hm7_2 rfl) rfl (by have := Below.size hB; omega) (by first | omega | (simp; omega) | (simp only [flagsTo_len, litsTo_len, firstF_len, ptF_len]; omega)) (by first | omega | (simp; omega) | (simp only [flagsTo_len, litsTo_len, firstF_len, ptF_len]; omega)) (fun v7_3 W70 hG71 ho7_3 hob72 => ?_))
  have hap73 := Apart.app hap hob72 hP0_14
  replace ho7_3 := OwT.snoc (enc := encC) (x := ⟨_, _⟩) rfl rfl rfl rfl ho7_3
  clear hm7_2
  replace hm := At.grownOw hm hown hG71 (by decide)
  replace hons := At.grownOw hons hown hG71 (by decide)
  replace hmays := At.grownOw hmays hown hG71 (by decide)
  replace hbi := At.grownOw hbi hown hG71 (by decide)
  replace hrest := At.grownOw hrest hown hG71 (by decide)
  replace hB := below_grown hB hG71 hN0 (fun j hj => (OwT.lt hown j hj))
  replace hP0_14 := OwT.grownAp hP0_14 hap hG71
  replace hout := At.grownOw hout hown hG71 (by decide)
  replace hm4_2 := At.grownOwNe hm4_2 no_v2_b4_2 hG71
  clear hG71
  clear hown
  refine WL_step (dd := none) rfl rfl rfl (Y_store1 (v := v7_3) rfl rfl tb_sc27 (SlT.one ho7_3.sl) hout (by simp) (fun W74 hG75 hm76 => ?_))
  replace hm := At.grownAt hm hout hG75 (by decide)
  replace hons := At.grownAt hons hout hG75 (by decide)
  replace hmays := At.grownAt hmays hout hG75 (by decide)
  replace hbi := At.grownAt hbi hout hG75 (by decide)
  replace hrest := At.grownAt hrest hout hG75 (by decide)
  replace hB := below_grown hB hG75 hN0 (fun j hj => by cases hj; exact loo)
  replace hP0_14 := OwT.grownAt hP0_14 hout hG75 (by decide)
  replace hm4_2 := At.grownAt hm4_2 hout hG75 (by decide)
  replace ho7_3 := OwT.grownAt ho7_3 hout hG75 (by decide)
  clear hG75 hout
  have hout := hm76
  clear hm76
  replace hout : At _ _ #[_] _ := hout
  refine WL_nil ?_
  refine hK42 _ _ ?_
  clear hK42 K41
  refine WC_region ?_
  refine WL_val (dd := some 59) rfl rfl rfl (r_addI rfl rfl (by omega) (by omega)) ?_
  refine WL_val (dd := some 37) rfl rfl rfl (r_move (v := .int .i64 _) rfl) ?_
  refine WL_nil ?_
  refine hJ36 _ _ ((k + 1, v7_3)) ?_ ?_ ?_ ?_
  · repeat (first | exact agree.mask _ _ _ | refine agree.updo ?_ rfl _ | refine agree.updL ?_ _ rfl | refine agree.maskS rfl ?_)
  · exact ⟨rfl, trivial⟩
  · exact ⟨hm, hons, hmays, hbi, hrest, hB, hP0_14, hout, (by rw [take_lit (by omega), ← List.append_assoc]; exact ho7_3), hap73, (by omega), trivial⟩
  · show L.length - (k + 1) < L.length - k; omega
 ·
  try with_reducible replace hc0 := of_decide_eq_false hc0
  refine WC_exit ?_
  repeat (first | refine thenQ_exit ?_ | refine blockQ_exit ?_)
  refine norm_of_ret ?_
  repeat (first | refine thenQ_ret ?_ | refine blockQ_ret ?_)
  try clear hK40 K39
  try clear hJ36 J35
  refine ret_  ?_
  have hkL : k = L.length := by omega
  rw [hkL, List.take_length] at hown
  exact ⟨hB, hm, hons, hmays, hbi, hrest, _, hout, hown⟩

theorem CS_cover (n f i on may : Nat) (w : World) (hih : ∀ (on may i : Nat) (w : World), n ≤ 8 → Good n on may i → n + 1 - i ≤ f → f ≤ 9 → Fn Try.prog 97 #[.agg #[.int .i64 (n : Int), wv (allS n) 0, wv (allS n) 1, wv (allS n) 2, wv (allS n) 3], setV on, setV may, .int .i64 (i : Int)] w fun v w' => OwT encC 2 34 w' w.heap.size v (coverL n f on may i)) (h8 : n ≤ 8) (hg : Good n on may i) (hf : n + 1 - i ≤ f + 1) (hf9 : f + 1 ≤ 9) :
    Fn Try.prog 97 #[.agg #[.int .i64 (n : Int), wv (allS n) 0, wv (allS n) 1, wv (allS n) 2, wv (allS n) 3], setV on, setV may, .int .i64 (i : Int)] w fun v w' => OwT encC 2 34 w' w.heap.size v (coverL n (f + 1) on may i) := by
 refine Fn_intro (n := 61) Try.func97 rfl rfl (Nat.le_of_ble_eq_true rfl) ?_
 have hB : Below w.heap.size w w := Below.refl _ _
 refine WC_seq (fun K1 hK2 => ?_)
 refine WC_region ?_
 refine WL_step (dd := some 4) rfl rfl rfl (Y_box (c := #[_, _, _, _, _]) rfl rfl (fun b0_0 W3 hb4 hE5 hm0_0 => ?_))
 have lo_b0_0 : w.heap.size ≤ b0_0 := hb4 ▸ (Below.size hB)
 clear hb4
 replace hB := below_ext hB hE5 (Nat.le_refl _)
 clear hE5
 refine WL_step (dd := some 5) rfl rfl rfl (Y_box (c := #[_, _, _, _]) rfl rfl (fun b0_1 W6 hb7 hE8 hm0_1 => ?_))
 have lo_b0_1 : w.heap.size ≤ b0_1 := hb7 ▸ (Below.size hB)
 clear hb7
 replace hB := below_ext hB hE8 (Nat.le_refl _)
 replace hm0_0 := hE8.at hm0_0
 clear hE8
 refine WL_step (dd := some 6) rfl rfl rfl (Y_box (c := #[_, _, _, _]) rfl rfl (fun b0_2 W9 hb10 hE11 hm0_2 => ?_))
 have lo_b0_2 : w.heap.size ≤ b0_2 := hb10 ▸ (Below.size hB)
 have ne_b0_1_b0_2 : b0_1 ≠ b0_2 := Nat.ne_of_lt (hb10 ▸ hm0_1.lt)
 clear hb10
 replace hB := below_ext hB hE11 (Nat.le_refl _)
 replace hm0_0 := hE11.at hm0_0
 replace hm0_1 := hE11.at hm0_1
 clear hE11
 refine WL_step (dd := some 7) rfl rfl rfl (Y_box (c := #[_]) rfl rfl (fun b0_3 W12 hb13 hE14 hm0_3 => ?_))
 have lo_b0_3 : w.heap.size ≤ b0_3 := hb13 ▸ (Below.size hB)
 clear hb13
 replace hB := below_ext hB hE14 (Nat.le_refl _)
 replace hm0_0 := hE14.at hm0_0
 replace hm0_1 := hE14.at hm0_1
 replace hm0_2 := hE14.at hm0_2
 clear hE14
 refine WL_val (dd := some 8) rfl rfl rfl (r_assign (v := .slice none 0 0) rfl) ?_
 refine WL_nil ?_
 refine hK2 _ _ ?_
 clear hK2 K1
 refine WC_seq (fun K15 hK16 => ?_)
 refine WC_block ?_
 refine WC_seq (fun K17 hK18 => ?_)
 refine WC_region ?_
 refine WL_val (dd := some 16) rfl rfl rfl (r_loadW rfl tb_ag24 rfl hm0_1) ?_
 refine WL_val (dd := some 17) (v := setV 0) rfl rfl rfl (tb_build24_ ) ?_
 refine WL_val (dd := some 18) rfl rfl rfl (tb_eq24 rfl rfl) ?_
 refine WL_val (dd := some 15) rfl rfl rfl (r_assign (v := .bool _) rfl) ?_
 refine WL_nil ?_
 refine hK18 _ _ ?_
 clear hK18 K17
 refine WC_cond (b := _) rfl (fun hc0 => ?_) (fun hc0 => ?_)
 ·
  try with_reducible replace hc0 := of_decide_eq_true hc0
  refine WC_seq (fun K19 hK20 => ?_)
  refine WC_region ?_
  refine WL_val (dd := some 8) rfl rfl rfl (r_assign (v := .slice none 0 0) rfl) ?_
  refine WL_nil ?_
  refine hK20 _ _ ?_
  clear hK20 K19
  refine WC_ret ?_
  repeat (first | refine thenQ_ret ?_ | refine blockQ_ret ?_)
  try clear hK16 K15
  refine ret_t (v := .slice none 0 0) rfl ?_
  refine ⟨hB, ?_⟩
  rw [coverL, if_pos (int_eqS hc0)]
  exact OwT.nil
 ·
  try with_reducible replace hc0 := of_decide_eq_false hc0
  refine WC_seq (fun K21 hK22 => ?_)
  refine WC_region ?_
  refine WL_val (dd := some 20) rfl rfl rfl (r_loadW rfl tb_ag24 rfl hm0_2) ?_
  refine WL_val (dd := some 21) rfl rfl rfl (r_fieldAddr (b := _) (o := _) rfl tb_fo106_1) ?_
  refine WL_val (dd := some 22) rfl rfl rfl (r_load4 rfl tb_ag24 (At.cell hm0_0 rfl) (At.cell hm0_0 rfl) (At.cell hm0_0 rfl) (At.cell hm0_0 rfl)) ?_
  refine WL_val (dd := some 23) rfl rfl rfl (tb_eq24 rfl rfl) ?_
  refine WL_val (dd := some 19) rfl rfl rfl (r_assign (v := .bool _) rfl) ?_
  refine WL_nil ?_
  refine hK22 _ _ ?_
  clear hK22 K21
  refine WC_cond (b := _) rfl (fun hc1 => ?_) (fun hc1 => ?_)
  ·
   try with_reducible replace hc1 := of_decide_eq_true hc1
   refine WC_seq (fun K23 hK24 => ?_)
   refine WC_region ?_
   refine WL_val (dd := some 24) rfl rfl rfl (tb_build34_ ) ?_
   refine WL_step (dd := some 25) rfl rfl rfl (Y_lit1 (u := .agg #[_, _]) rfl tb_el27 tb_zs34 rfl (by decide) (by decide) (fun b4_1 W25 hb26 hE27 hm4_1 => ?_))
   have lo_b4_1 : w.heap.size ≤ b4_1 := hb26 ▸ (Below.size hB)
   clear hb26
   replace hB := below_ext hB hE27 (Nat.le_refl _)
   replace hm0_0 := hE27.at hm0_0
   replace hm0_1 := hE27.at hm0_1
   replace hm0_2 := hE27.at hm0_2
   replace hm0_3 := hE27.at hm0_3
   clear hE27
   refine WL_val (dd := some 8) rfl rfl rfl (r_assign (v := .slice (some ⟨b4_1, 0, none⟩) 1 1) rfl) ?_
   refine WL_nil ?_
   refine hK24 _ _ ?_
   clear hK24 K23
   refine WC_ret ?_
   repeat (first | refine thenQ_ret ?_ | refine blockQ_ret ?_)
   try clear hK16 K15
   refine ret_t (v := .slice (some ⟨b4_1, 0, none⟩) 1 1) rfl ?_
   refine ⟨hB, ?_⟩
   rw [coverL, if_neg (fun h => hc0 (eqS_int h)), if_pos (int_eqS hc1)]
   exact own_lit1 (enc := encC) (a := ⟨0, 0⟩) hm4_1 rfl rfl lo_b4_1
  ·
   try with_reducible replace hc1 := of_decide_eq_false hc1
   refine WC_skip ?_
   refine hK16 _ _ ?_
   clear hK16 K15
   refine WC_seq (fun K28 hK29 => ?_)
   have h0 : ¬ eqS on 0 = true := fun h => hc0 (eqS_int h)
   have h1 : ¬ eqS may (allS n) = true := fun h => hc1 (eqS_int h)
   have hi : i < n := good_lt h8 hg h0 h1
   have hf1 : n + 1 - (i + 1) ≤ f := by omega
   have hi8 : i < 8 := by omega
   refine WC_region ?_
   refine WL_step (dd := some 9) rfl rfl rfl (Y_alloc tb_z134 rfl (fun b5_0 W30 hb31 hE32 hm5_0 => ?_))
   have lo_b5_0 : w.heap.size ≤ b5_0 := hb31 ▸ (Below.size hB)
   clear hb31
   replace hB := below_ext hB hE32 (Nat.le_refl _)
   replace hm0_0 := hE32.at hm0_0
   replace hm0_1 := hE32.at hm0_1
   replace hm0_2 := hE32.at hm0_2
   replace hm0_3 := hE32.at hm0_3
   clear hE32
   refine WL_step (dd := some 10) rfl rfl rfl (Y_alloc tb_z134 rfl (fun b5_1 W33 hb34 hE35 hm5_1 => ?_))
   have lo_b5_1 : w.heap.size ≤ b5_1 := hb34 ▸ (Below.size hB)
   have ne_b5_0_b5_1 : b5_0 ≠ b5_1 := Nat.ne_of_lt (hb34 ▸ hm5_0.lt)
   clear hb34
   replace hB := below_ext hB hE35 (Nat.le_refl _)
   replace hm0_0 := hE35.at hm0_0
   replace hm0_1 := hE35.at hm0_1
   replace hm0_2 := hE35.at hm0_2
   replace hm0_3 := hE35.at hm0_3
   replace hm5_0 := hE35.at hm5_0
   clear hE35
   refine WL_nil ?_
   refine hK29 _ _ ?_
   clear hK29 K28
   refine WC_seq (fun K36 hK37 => ?_)
   refine WC_seq (fun K38 hK39 => ?_)
   replace hm5_0 := sidesA_at (s := on) (i := i) hm5_0
   replace hm5_1 := sidesA_at (s := may) (i := i) hm5_1
   refine WC_region ?_
   refine WL_val (dd := some 26) rfl rfl rfl (r_move (v := .int .i64 0) rfl) ?_
   refine WL_nil ?_
   refine hK39 _ _ ?_
   clear hK39 K38
   refine WC_block ?_
   refine WC_loop (σ := (Nat)) [11, 26, 27, 28, 29, 30, 31, 32, 33, 34, 35, 36, 37, 38, 39, 40, 41, 42, 43] (fun k => [(26, .int .i64 (k : Int))]) (fun k W => (Below w.heap.size w W) ∧ (At W b0_0 _ 106) ∧ (At W b0_1 _ 24) ∧ (At W b0_2 _ 24) ∧ (At W b0_3 _ 3) ∧ (At W b5_0 (sidesA on i k) 134) ∧ (At W b5_1 (sidesA may i k) 134) ∧ (k ≤ 2) ∧ (True)) (fun k => 2 - k) (0) ⟨rfl, trivial⟩ ⟨hB, hm0_0, hm0_1, hm0_2, hm0_3, hm5_0, hm5_1, (Nat.zero_le _), trivial⟩ ?_
   clear hB hm0_0 hm0_1 hm0_2 hm0_3 hm5_0 hm5_1
   rintro k g41 W40 ⟨hB, hm0_0, hm0_1, hm0_2, hm0_3, hm5_0, hm5_1, hk, _⟩ J42 hJ43
   refine WC_seq (fun K44 hK45 => ?_)
   refine WC_region ?_
   refine WL_val (dd := some 27) rfl rfl rfl (r_lss rfl rfl) ?_
   refine WL_nil ?_
   refine hK45 _ _ ?_
   clear hK45 K44
   refine WC_seq (fun K46 hK47 => ?_)
   refine WC_cond (b := _) rfl (fun hc2 => ?_) (fun hc2 => ?_)
   ·
    try with_reducible replace hc2 := of_decide_eq_true hc2
    refine WC_skip ?_
    refine hK47 _ _ ?_
    clear hK47 K46
    refine WC_seq (fun K48 hK49 => ?_)
    refine WC_block ?_
    refine WC_seq (fun K50 hK51 => ?_)
    refine WC_region ?_
    refine WL_val (dd := some 28) rfl rfl rfl (r_move (v := .int .i64 _) rfl) ?_
    refine WL_val (dd := some 11) rfl rfl rfl (r_assign (v := .int .i64 _) rfl) ?_
    refine WL_nil ?_
    refine hK51 _ _ ?_
    clear hK51 K50
    refine WC_draw (fun a b => a.grownBy b (some b5_0)) tb_mix (fun W52 hE53 => ?_)
    replace hB := below_ext hB hE53 (Nat.le_refl _)
    replace hm0_0 := hE53.at hm0_0
    replace hm0_1 := hE53.at hm0_1
    replace hm0_2 := hE53.at hm0_2
    replace hm0_3 := hE53.at hm0_3
    replace hm5_0 := hE53.at hm5_0
    replace hm5_1 := hE53.at hm5_1
    have hrow54 := hm5_0
    have hS := World.grownBy.refl W52 (some b5_0)
    refine WT_take (dd := some 29) 0 rfl (by kernel_rfl) (by kernel_rfl) (by kernel_rfl) rfl rfl rfl (fun _wq _hq => r_move (v := .int .i64 _) rfl) hS ?_
    refine WT_take (dd := some 30) 1 rfl (by kernel_rfl) (by kernel_rfl) (by kernel_rfl) rfl rfl rfl (fun _wq _hq => r_move (v := .int .i64 _) rfl) hS ?_
    refine WT_take (dd := some 31) 2 rfl (by kernel_rfl) (by kernel_rfl) (by kernel_rfl) rfl rfl rfl (fun _wq hq => r_loadW rfl tb_ag24 rfl (At.grownAt hm0_1 hrow54 hq (by decide))) hS ?_
    refine WT_take (dd := some 32) 3 rfl (by kernel_rfl) (by kernel_rfl) (by kernel_rfl) rfl rfl rfl (fun _wq hq => r_load1 (v := .int .i64 _) rfl tb_sc3 (At.cell (At.grownAt hm0_3 hrow54 hq (by decide)) rfl)) hS ?_
    refine WT_take (dd := some 33) 4 rfl (by kernel_rfl) (by kernel_rfl) (by kernel_rfl) rfl rfl rfl (fun _wq _hq => r_move (v := .int .i64 _) rfl) hS ?_
    refine WT_take (dd := some 34) 5 rfl (by kernel_rfl) (by kernel_rfl) (by kernel_rfl) rfl rfl rfl (fun _wq _hq => r_eql rfl rfl) hS ?_
    refine WT_take (dd := some 36) 7 rfl (by kernel_rfl) (by kernel_rfl) (by kernel_rfl) rfl rfl rfl (fun _wq hq => r_loadW rfl tb_ag24 rfl (At.grownAt hm0_2 hrow54 hq (by decide))) hS ?_
    refine WT_take (dd := some 37) 8 rfl (by kernel_rfl) (by kernel_rfl) (by kernel_rfl) rfl rfl rfl (fun _wq hq => r_load1 (v := .int .i64 _) rfl tb_sc3 (At.cell (At.grownAt hm0_3 hrow54 hq (by decide)) rfl)) hS ?_
    refine WT_take (dd := some 38) 9 rfl (by kernel_rfl) (by kernel_rfl) (by kernel_rfl) rfl rfl rfl (fun _wq _hq => r_move (v := .int .i64 _) rfl) hS ?_
    refine WT_take (dd := some 39) 10 rfl (by kernel_rfl) (by kernel_rfl) (by kernel_rfl) rfl rfl rfl (fun _wq _hq => r_eql rfl rfl) hS ?_
    refine WT_one (dd := some 35) 6 (by kernel_rfl) rfl rfl rfl rfl (Yd.call (r_call3 tb_c33 (v0 := .agg #[_, _, _, _]) rfl (v1 := .int .i64 _) rfl (v2 := .bool _) rfl) (C_isop_Side _ _ _ _) (fun v9_6 W55 hE56 hP9_6 => ⟨.inl (grownBy_trans hS (Ext.grown hE56 (some b5_0))), ?_⟩))
    have hsz57 := (Below.size hB)
    have sv58_hB := hB
    have sv58_hm0_0 := hm0_0
    have sv58_hm0_1 := hm0_1
    have sv58_hm0_2 := hm0_2
    have sv58_hm0_3 := hm0_3
    have sv58_hm5_0 := hm5_0
    have sv58_hm5_1 := hm5_1
    replace hB := below_ext hB hE56 (Nat.le_refl _)
    replace hm0_0 := hE56.at hm0_0
    replace hm0_1 := hE56.at hm0_1
    replace hm0_2 := hE56.at hm0_2
    replace hm0_3 := hE56.at hm0_3
    replace hm5_0 := hE56.at hm5_0
    replace hm5_1 := hE56.at hm5_1
    replace hS := grownBy_trans hS (Ext.grown hE56 (some b5_0))
    clear hE56
    clear hsz57
    obtain rfl := hP9_6
    rw [if_pos (show 0 ≤ (i : Int) ∧ (i : Int) < 8 by omega)]
    simp only [Int.toNat_natCast]
    refine WT_take (dd := some 41) 12 rfl (by kernel_rfl) (by kernel_rfl) (by kernel_rfl) rfl rfl rfl (fun _wq _hq => r_idxA rfl rfl tb_ar134 (by omega) (by omega)) hS ?_
    refine WT_one (dd := some 40) 11 (by kernel_rfl) rfl rfl rfl rfl (Yd.call (r_call3 tb_c33 (v0 := .agg #[_, _, _, _]) rfl (v1 := .int .i64 _) rfl (v2 := .bool _) rfl) (C_isop_Side _ _ _ _) (fun v9_11 W59 hE60 hP9_11 => ⟨.inl (grownBy_trans hS (Ext.grown hE60 (some b5_0))), ?_⟩))
    have hsz61 := (Below.size hB)
    replace hB := below_ext hB hE60 (Nat.le_refl _)
    replace hm0_0 := hE60.at hm0_0
    replace hm0_1 := hE60.at hm0_1
    replace hm0_2 := hE60.at hm0_2
    replace hm0_3 := hE60.at hm0_3
    replace hm5_0 := hE60.at hm5_0
    replace hm5_1 := hE60.at hm5_1
    replace hS := grownBy_trans hS (Ext.grown hE60 (some b5_0))
    clear hE60
    clear hsz61
    obtain rfl := hP9_11
    rw [if_pos (show 0 ≤ (i : Int) ∧ (i : Int) < 8 by omega)]
    simp only [Int.toNat_natCast]
    refine WT_one (dd := none) 13 (by kernel_rfl) rfl rfl rfl rfl (Y_storeP rfl rfl tb_ag24 rfl hm5_0 (by rw [sidesA_size]; omega) (by rfl) (fun W62 hG63 hm64 => ⟨.inl (grownBy_trans hS hG63), ?_⟩))
    replace hS := grownBy_trans hS hG63
    replace hB := below_grown hB hG63 (Nat.le_refl _) (fun j hj => by cases hj; exact lo_b5_0)
    replace hm0_0 := At.grownAt hm0_0 hm5_0 hG63 (by decide)
    replace hm0_1 := At.grownAt hm0_1 hm5_0 hG63 (by decide)
    replace hm0_2 := At.grownAt hm0_2 hm5_0 hG63 (by decide)
    replace hm0_3 := At.grownAt hm0_3 hm5_0 hG63 (by decide)
    replace hm5_1 := At.grownNe hm5_1 (Ne.symm ne_b5_0_b5_1) hG63
    clear hG63 hm5_0
    have hm5_0 := hm64
    clear hm64
    try simp only [Int.toNat_natCast] at hm5_0
    rw [sidesA_put (by omega)] at hm5_0
    refine WT_take (dd := some 42) 14 rfl (by kernel_rfl) (by kernel_rfl) (by kernel_rfl) rfl rfl rfl (fun _wq _hq => r_idxA rfl rfl tb_ar134 (by omega) (by omega)) hS ?_
    refine WT_one (dd := none) 15 (by kernel_rfl) rfl rfl rfl rfl (Y_storeP rfl rfl tb_ag24 rfl hm5_1 (by rw [sidesA_size]; omega) (by rfl) (fun W65 hG66 hm67 => ⟨.inr (by kernel_rfl), ?_⟩))
    replace hB := below_grown hB hG66 (Nat.le_refl _) (fun j hj => by cases hj; exact lo_b5_1)
    replace hm0_0 := At.grownAt hm0_0 hm5_1 hG66 (by decide)
    replace hm0_1 := At.grownAt hm0_1 hm5_1 hG66 (by decide)
    replace hm0_2 := At.grownAt hm0_2 hm5_1 hG66 (by decide)
    replace hm0_3 := At.grownAt hm0_3 hm5_1 hG66 (by decide)
    replace hm5_0 := At.grownNe hm5_0 ne_b5_0_b5_1 hG66
    clear hG66 hm5_1
    have hm5_1 := hm67
    clear hm67
    try simp only [Int.toNat_natCast] at hm5_1
    rw [sidesA_put (by omega)] at hm5_1
    refine WT_done (by kernel_rfl) ?_
    try clear sv58_hB sv58_hm0_0 sv58_hm0_1 sv58_hm0_2 sv58_hm0_3
    try clear hrow54
    refine hK49 _ _ ?_
    clear hK49 K48
    refine WC_region ?_
    refine WL_val (dd := some 43) rfl rfl rfl (r_addI rfl rfl (by omega) (by omega)) ?_
    refine WL_val (dd := some 26) rfl rfl rfl (r_move (v := .int .i64 _) rfl) ?_
    refine WL_nil ?_
    refine hJ43 _ _ (k + 1) ?_ ?_ ?_ ?_
    · repeat (first | exact agree.mask _ _ _ | refine agree.updo ?_ rfl _ | refine agree.updL ?_ _ rfl | refine agree.maskS rfl ?_)
    · exact ⟨rfl, trivial⟩
    · exact ⟨hB, hm0_0, hm0_1, hm0_2, hm0_3, (by exact hm5_0), (by exact hm5_1), (by omega), trivial⟩
    · first | omega | (dsimp only; omega)
   ·
    try with_reducible replace hc2 := of_decide_eq_false hc2
    refine WC_exit ?_
    refine hK37 _ _ ?_
    clear hK47 K46
    clear hJ43 J42
    clear hK37 K36
    refine WC_seq (fun K68 hK69 => ?_)
    obtain rfl : k = 2 := by omega
    replace hm5_0 : At _ _ (pairA (sideS on i false) (sideS on i true)) _ := hm5_0
    replace hm5_1 : At _ _ (pairA (sideS may i false) (sideS may i true)) _ := hm5_1
    refine WC_region ?_
    refine WL_step (dd := some 12) rfl rfl rfl (Y_alloc tb_z27 rfl (fun b11_0 W70 hb71 hE72 hm11_0 => ?_))
    have lo_b11_0 : w.heap.size ≤ b11_0 := hb71 ▸ (Below.size hB)
    clear hb71
    replace hB := below_ext hB hE72 (Nat.le_refl _)
    replace hm0_0 := hE72.at hm0_0
    replace hm0_1 := hE72.at hm0_1
    replace hm0_2 := hE72.at hm0_2
    replace hm0_3 := hE72.at hm0_3
    replace hm5_0 := hE72.at hm5_0
    replace hm5_1 := hE72.at hm5_1
    clear hE72
    refine WL_nil ?_
    refine hK69 _ _ ?_
    clear hK69 K68
    refine WC_seq (fun K73 hK74 => ?_)
    refine WC_region ?_
    refine WL_step (dd := some 13) rfl rfl rfl (Y_alloc tb_z24 rfl (fun b12_0 W75 hb76 hE77 hm12_0 => ?_))
    have lo_b12_0 : w.heap.size ≤ b12_0 := hb76 ▸ (Below.size hB)
    have ne_b0_1_b12_0 : b0_1 ≠ b12_0 := Nat.ne_of_lt (hb76 ▸ hm0_1.lt)
    have ne_b0_2_b12_0 : b0_2 ≠ b12_0 := Nat.ne_of_lt (hb76 ▸ hm0_2.lt)
    clear hb76
    replace hB := below_ext hB hE77 (Nat.le_refl _)
    replace hm0_0 := hE77.at hm0_0
    replace hm0_1 := hE77.at hm0_1
    replace hm0_2 := hE77.at hm0_2
    replace hm0_3 := hE77.at hm0_3
    replace hm5_0 := hE77.at hm5_0
    replace hm5_1 := hE77.at hm5_1
    replace hm11_0 := hE77.at hm11_0
    clear hE77
    replace hm12_0 : At W75 b12_0 #[wv 0 0, wv 0 1, wv 0 2, wv 0 3] 24 := hm12_0
    refine WL_nil ?_
    refine hK74 _ _ ?_
    clear hK74 K73
    refine WC_seq (fun K78 hK79 => ?_)
    refine WC_region ?_
    refine WL_val (dd := some 44) rfl rfl rfl (r_makeFunc (vs := #[.pointer (some ⟨b0_0, 0, none⟩), .pointer (some ⟨b5_0, 0, none⟩), .pointer (some ⟨b5_1, 0, none⟩), .pointer (some ⟨b0_3, 0, none⟩), .pointer (some ⟨b12_0, 0, none⟩), .pointer (some ⟨b11_0, 0, none⟩)]) (by simp only [List.map_toArray, List.map_cons, List.map_nil]; rfl)) ?_
    refine WL_val (dd := some 14) rfl rfl rfl (r_assign (v := .func (.func 137) #[] #[.pointer (some ⟨b0_0, 0, none⟩), .pointer (some ⟨b5_0, 0, none⟩), .pointer (some ⟨b5_1, 0, none⟩), .pointer (some ⟨b0_3, 0, none⟩), .pointer (some ⟨b12_0, 0, none⟩), .pointer (some ⟨b11_0, 0, none⟩)]) rfl) ?_
    refine WL_nil ?_
    refine hK79 _ _ ?_
    clear hK79 K78
    refine WC_seq (fun K80 hK81 => ?_)
    have hca := (cover_ok h8 f _ _ _ (hg.side h8 hi false) hf1)
    have hcb := (cover_ok h8 f _ _ _ (hg.side h8 hi true) hf1)
    have hgr := hg.rest h8 hi hca.1 hcb.1 hca.2 hcb.2
    have hla := coverL_len (n := n) f (andNot (sideS on i false) (sideS may i true)) (sideS may i false) (i + 1)
    have hlb := coverL_len (n := n) f (andNot (sideS on i true) (sideS may i false)) (sideS may i true) (i + 1)
    have h3f : 3 ^ f ≤ 3 ^ 8 := Nat.pow_le_pow_right (by decide) (by omega)
    refine WC_region ?_
    refine WL_val (dd := some 45) rfl rfl rfl (r_move (v := .func (.func 137) #[] #[.pointer (some ⟨b0_0, 0, none⟩), .pointer (some ⟨b5_0, 0, none⟩), .pointer (some ⟨b5_1, 0, none⟩), .pointer (some ⟨b0_3, 0, none⟩), .pointer (some ⟨b12_0, 0, none⟩), .pointer (some ⟨b11_0, 0, none⟩)]) rfl) ?_
    refine WL_callG (dd := some 46) rfl rfl rfl (r_call (q := 137) (first := #[]) (cap := #[.pointer (some ⟨b0_0, 0, none⟩), .pointer (some ⟨b5_0, 0, none⟩), .pointer (some ⟨b5_1, 0, none⟩), .pointer (some ⟨b0_3, 0, none⟩), .pointer (some ⟨b12_0, 0, none⟩), .pointer (some ⟨b11_0, 0, none⟩)]) (vs := #[.int .i64 0, .pointer (some ⟨b0_0, 0, none⟩), .pointer (some ⟨b5_0, 0, none⟩), .pointer (some ⟨b5_1, 0, none⟩), .pointer (some ⟨b0_3, 0, none⟩), .pointer (some ⟨b12_0, 0, none⟩), .pointer (some ⟨b11_0, 0, none⟩)]) rfl tb_c137 (by simp only [List.map_toArray, List.map_cons, List.map_nil, List.append_toArray, List.nil_append, List.cons_append]; rfl)) (CT0 n f i on may w.heap.size _ _ _ _ _ _ 0 _ [] _ (Below.size hB) hih h8 hg hi hf1 (by omega) hm0_0 hm5_0 hm5_1 hm0_3 hm12_0 hm11_0 OwT.nil (by simp) lo_b12_0 lo_b11_0) (fun v14_1 W82 hP14_1 => ?_)
    obtain ⟨hBt, hm0_0, hm5_0, hm5_1, hm0_3, hm12_0, vt0, hm11_0, hot0⟩ := hP14_1
    replace hB := Below.trans hB hBt
    clear hBt
    clear hm0_1 hm0_2
    refine WL_nil ?_
    refine hK81 _ _ ?_
    clear hK81 K80
    refine WC_seq (fun K84 hK85 => ?_)
    refine WC_region ?_
    refine WL_val (dd := some 47) rfl rfl rfl (r_move (v := .func (.func 137) #[] #[.pointer (some ⟨b0_0, 0, none⟩), .pointer (some ⟨b5_0, 0, none⟩), .pointer (some ⟨b5_1, 0, none⟩), .pointer (some ⟨b0_3, 0, none⟩), .pointer (some ⟨b12_0, 0, none⟩), .pointer (some ⟨b11_0, 0, none⟩)]) rfl) ?_
    refine WL_callG (dd := some 48) rfl rfl rfl (r_call (q := 137) (first := #[]) (cap := #[.pointer (some ⟨b0_0, 0, none⟩), .pointer (some ⟨b5_0, 0, none⟩), .pointer (some ⟨b5_1, 0, none⟩), .pointer (some ⟨b0_3, 0, none⟩), .pointer (some ⟨b12_0, 0, none⟩), .pointer (some ⟨b11_0, 0, none⟩)]) (vs := #[.int .i64 1, .pointer (some ⟨b0_0, 0, none⟩), .pointer (some ⟨b5_0, 0, none⟩), .pointer (some ⟨b5_1, 0, none⟩), .pointer (some ⟨b0_3, 0, none⟩), .pointer (some ⟨b12_0, 0, none⟩), .pointer (some ⟨b11_0, 0, none⟩)]) rfl tb_c137 (by simp only [List.map_toArray, List.map_cons, List.map_nil, List.append_toArray, List.nil_append, List.cons_append]; rfl)) (CT1 n f i on may w.heap.size _ _ _ _ _ _ _ _ _ _ (Below.size hB) hih h8 hg hi hf1 (by omega) hm0_0 hm5_0 hm5_1 hm0_3 hm12_0 hm11_0 hot0 (by simp; omega) lo_b12_0 lo_b11_0) (fun v15_1 W86 hP15_1 => ?_)
    obtain ⟨hBt, hm0_0, hm5_0, hm5_1, hm0_3, hm12_0, vt1, hm11_0, hot1⟩ := hP15_1
    replace hB := Below.trans hB hBt
    clear hBt
    clear hot0
    refine WL_nil ?_
    refine hK85 _ _ ?_
    clear hK85 K84
    refine WC_seq (fun K88 hK89 => ?_)
    refine WC_draw (fun a b => a.grownBy b vt1.ownBlock) tb_mix (fun W90 hE91 => ?_)
    replace hB := below_ext hB hE91 (Nat.le_refl _)
    replace hm0_0 := hE91.at hm0_0
    replace hm0_3 := hE91.at hm0_3
    replace hm5_0 := hE91.at hm5_0
    replace hm5_1 := hE91.at hm5_1
    replace hm11_0 := hE91.at hm11_0
    replace hm12_0 := hE91.at hm12_0
    replace hot1 := hE91.ow hot1
    have hrow92 := hot1
    have hS := World.grownBy.refl W90 vt1.ownBlock
    refine WT_take (dd := some 49) 0 rfl (by kernel_rfl) (by kernel_rfl) (by kernel_rfl) rfl rfl rfl (fun _wq hq => r_load1 (v := vt1) rfl tb_sc27 (At.cell (At.grownOw hm11_0 hrow92 hq (by decide)) rfl)) hS ?_
    refine WT_take (dd := some 50) 1 rfl (by kernel_rfl) (by kernel_rfl) (by kernel_rfl) rfl rfl rfl (fun _wq hq => r_loadW rfl tb_ag106 rfl (At.grownOw hm0_0 hrow92 hq (by decide))) hS ?_
    refine WT_take (dd := some 51) 2 rfl (by kernel_rfl) (by kernel_rfl) (by kernel_rfl) rfl rfl rfl (fun _wq hq => r_loadW rfl tb_ag24 rfl (At.grownOw hm12_0 hrow92 hq (by decide))) hS ?_
    refine WT_take (dd := some 52) 3 rfl (by kernel_rfl) (by kernel_rfl) (by kernel_rfl) rfl rfl rfl (fun _wq _hq => r_idxA rfl rfl tb_ar134 (by omega) (by omega)) hS ?_
    refine WT_take (dd := some 53) 4 rfl (by kernel_rfl) (by kernel_rfl) (by kernel_rfl) rfl rfl rfl (fun _wq hq => r_load4 rfl tb_ag24 (At.cell (At.grownOw hm5_1 hrow92 hq (by decide)) rfl) (At.cell (At.grownOw hm5_1 hrow92 hq (by decide)) rfl) (At.cell (At.grownOw hm5_1 hrow92 hq (by decide)) rfl) (At.cell (At.grownOw hm5_1 hrow92 hq (by decide)) rfl)) hS ?_
    refine WT_take (dd := some 54) 5 rfl (by kernel_rfl) (by kernel_rfl) (by kernel_rfl) rfl rfl rfl (fun _wq _hq => r_idxA rfl rfl tb_ar134 (by omega) (by omega)) hS ?_
    refine WT_take (dd := some 55) 6 rfl (by kernel_rfl) (by kernel_rfl) (by kernel_rfl) rfl rfl rfl (fun _wq hq => r_load4 rfl tb_ag24 (At.cell (At.grownOw hm5_1 hrow92 hq (by decide)) rfl) (At.cell (At.grownOw hm5_1 hrow92 hq (by decide)) rfl) (At.cell (At.grownOw hm5_1 hrow92 hq (by decide)) rfl) (At.cell (At.grownOw hm5_1 hrow92 hq (by decide)) rfl)) hS ?_
    refine WT_take (dd := some 57) 8 rfl (by kernel_rfl) (by kernel_rfl) (by kernel_rfl) rfl rfl rfl (fun _wq hq => r_load1 (v := .int .i64 _) rfl tb_sc3 (At.cell (At.grownOw hm0_3 hrow92 hq (by decide)) rfl)) hS ?_
    refine WT_take (dd := some 58) 9 rfl (by kernel_rfl) (by kernel_rfl) (by kernel_rfl) rfl rfl rfl (fun _wq _hq => r_addI rfl rfl (by omega) (by omega)) hS ?_
    refine WT_one (dd := some 56) 7 (by kernel_rfl) rfl rfl rfl rfl (Yd.call (r_call2 tb_c115 (v0 := .agg #[_, _, _, _]) rfl (v1 := .agg #[_, _, _, _]) rfl) (C_set_And _ _ _) (fun v16_7 W93 hE94 hP16_7 => ⟨.inl (grownBy_trans hS (Ext.grown hE94 vt1.ownBlock)), ?_⟩))
    have hsz95 := (Below.size hB)
    have sv96_hB := hB
    have sv96_hm0_0 := hm0_0
    have sv96_hm0_3 := hm0_3
    have sv96_hm5_0 := hm5_0
    have sv96_hm5_1 := hm5_1
    have sv96_hm11_0 := hm11_0
    have sv96_hm12_0 := hm12_0
    have sv96_hot1 := hot1
    replace hB := below_ext hB hE94 (Nat.le_refl _)
    replace hm0_0 := hE94.at hm0_0
    replace hm0_3 := hE94.at hm0_3
    replace hm5_0 := hE94.at hm5_0
    replace hm5_1 := hE94.at hm5_1
    replace hm11_0 := hE94.at hm11_0
    replace hm12_0 := hE94.at hm12_0
    replace hot1 := hE94.ow hot1
    replace hS := grownBy_trans hS (Ext.grown hE94 vt1.ownBlock)
    clear hE94
    clear hsz95
    obtain rfl := hP16_7
    refine WT_one (dd := some 59) 10 (by kernel_rfl) rfl rfl rfl rfl (Yd.call (r_call4 tb_c97 (v0 := .agg #[_, _, _, _, _]) rfl (v1 := .agg #[_, _, _, _]) rfl (v2 := .agg #[_, _, _, _]) rfl (v3 := .int .i64 _) rfl) (hih _ _ (i + 1) _ h8 hgr hf1 (Nat.le_trans (Nat.le_succ f) hf9)) (fun v16_10 W97 hE98 hP16_10 => ⟨.inl (grownBy_trans hS (Ext.grown hE98 vt1.ownBlock)), ?_⟩))
    have hlt99 := OwT.lt2 hot1
    have hsz100 := (Below.size hB)
    replace hB := below_ext hB hE98 (Nat.le_refl _)
    replace hm0_0 := hE98.at hm0_0
    replace hm0_3 := hE98.at hm0_3
    replace hm5_0 := hE98.at hm5_0
    replace hm5_1 := hE98.at hm5_1
    replace hm11_0 := hE98.at hm11_0
    replace hm12_0 := hE98.at hm12_0
    replace hot1 := hE98.ow hot1
    replace hS := grownBy_trans hS (Ext.grown hE98 vt1.ownBlock)
    clear hE98
    have hap101 := Apart.new hlt99 hP16_10
    replace hP16_10 := OwT.mono hP16_10 hsz100
    clear hsz100
    have hlc := coverL_len (n := n) f (restS n (sideS on i false) (sideS on i true) (coverL n f (andNot (sideS on i false) (sideS may i true)) (sideS may i false) (i + 1)) (coverL n f (andNot (sideS on i true) (sideS may i false)) (sideS may i true) (i + 1))) (sideS may i false &&& sideS may i true) (i + 1)
    refine WT_one (dd := some 60) 11 (by kernel_rfl) rfl rfl rfl rfl (Y_appendA (v := vt1) (v2 := v16_10) rfl rfl tb_el27 tb_zs34 (by decide) hot1 hP16_10.sl (enc_one_encC) (by have := Below.size hB; omega) (by simp only [List.nil_append, List.length_append, List.length_map]; have hlc2 := hlc; unfold restS at hlc2; omega) (by simp only [List.nil_append, List.length_append, List.length_map]; have hlc2 := hlc; unfold restS at hlc2; omega) (fun v16_11 W102 hG103 ho16_11 hob104 => ⟨.inl (grownBy_trans hS hG103), ?_⟩))
    replace hS := grownBy_trans hS hG103
    have hap105 := Apart.app hap101 hob104 hP16_10
    replace ho16_11 := OwT.app (enc := encC) rfl rfl rfl rfl ho16_11
    replace hB := below_grown hB hG103 (Nat.le_refl _) (fun j hj => (OwT.lt hot1 j hj))
    replace hm0_0 := At.grownOw hm0_0 hot1 hG103 (by decide)
    replace hm0_3 := At.grownOw hm0_3 hot1 hG103 (by decide)
    replace hm5_0 := At.grownOw hm5_0 hot1 hG103 (by decide)
    replace hm5_1 := At.grownOw hm5_1 hot1 hG103 (by decide)
    replace hm11_0 := At.grownOw hm11_0 hot1 hG103 (by decide)
    replace hm12_0 := At.grownOw hm12_0 hot1 hG103 (by decide)
    replace hP16_10 := OwT.grownAp hP16_10 hap101 hG103
    clear hG103
    clear hot1
    refine WT_take (dd := some 8) 12 rfl (by kernel_rfl) (by kernel_rfl) (by kernel_rfl) rfl rfl rfl (fun _wq _hq => r_assign (v := v16_11) rfl) hS ?_
    refine WT_done (by kernel_rfl) ?_
    try clear sv96_hB sv96_hm0_0 sv96_hm0_3 sv96_hm5_0 sv96_hm5_1 sv96_hm11_0 sv96_hm12_0
    try clear hrow92
    refine hK89 _ _ ?_
    clear hK89 K88
    refine WC_ret ?_
    repeat (first | refine thenQ_ret ?_ | refine blockQ_ret ?_)
    refine ret_t (v := v16_11) rfl ?_
    refine ⟨hB, ?_⟩
    rw [coverL, if_neg h0, if_neg h1]
    exact ho16_11

end Go.Proofs.Ytdbcijijhhbkaaa
