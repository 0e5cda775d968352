/-
  The walks of thinning: the program's way and the document's.
-/
import Derived.Test.YtdbcijijhhbkaaaProg
import Derived.Test.YtdbcijijhhbkaaaWCov
import Derived.Test.YtdbcijijhhbkaaaThin
namespace Go.Proofs.Ytdbcijijhhbkaaa
set_option linter.unusedVariables false
set_option linter.unusedSimpArgs false
open Go Go.RowKit

theorem tb_zs79 : (zeroI Try.prog 79).map (fun z => z.cells.size) = some 3 := by kernel_rfl
theorem tb_c66 : callB Try.prog 66 = true := by kernel_rfl
theorem tb_c128 : callB Try.prog 128 = true := by kernel_rfl

theorem C_thin_without (xa : Value) (l : List Rw) (i k : Nat) (w : World) (hl : SlT encR 3 w xa l) (hlb : l.length ≤ 1000000) (hlr : RowB l) (hi : i < l.length) (hk : k < 8) :
    Fn Try.prog 128 #[xa, .int .i64 (i : Int), .int .i64 (k : Int)] w fun v w' => OwT encR 3 79 w' w.heap.size v (withL l i k) := by
 refine Fn_intro (n := 36) Try.func128 rfl rfl (Nat.le_of_ble_eq_true rfl) ?_
 have hB : Below w.heap.size w w := Below.refl _ _
 have h7 := pow7 hk
 refine WC_seq (fun K1 hK2 => ?_)
 refine WC_region ?_
 refine WL_val (dd := some 6) rfl rfl rfl (r_assign (v := .slice none 0 0) rfl) ?_
 refine WL_nil ?_
 refine hK2 _ _ ?_
 clear hK2 K1
 refine WC_seq (fun K3 hK4 => ?_)
 refine WC_region ?_
 refine WL_step (dd := some 8) rfl rfl rfl (Y_lit0 tb_el65 (fun b1_0 W5 hb6 hE7 hm1_0 => ?_))
 have lo_b1_0 : w.heap.size ≤ b1_0 := hb6 ▸ (Below.size hB)
 clear hb6
 replace hB := below_ext hB hE7 (Nat.le_refl _)
 clear hE7
 have ho1_0 := own_lit0 (enc := encR) (sz := 3) hm1_0 lo_b1_0
 clear hm1_0
 refine WL_val (dd := some 9) rfl rfl rfl (r_move (v := xa) rfl) ?_
 refine WL_step (dd := some 10) rfl rfl rfl (Y_append (v := .slice (some ⟨b1_0, 0, none⟩) 0 0) (v2 := xa) rfl rfl tb_el65 tb_zs79 (by decide) ho1_0 (Below.slT hB hl) (enc_one_encR) (by have := Below.size hB; omega) (by first | omega | (simp; omega) | (simp only [flagsTo_len, litsTo_len, firstF_len, ptF_len, setF_len]; omega)) (by first | omega | (simp; omega) | (simp only [flagsTo_len, litsTo_len, firstF_len, ptF_len, setF_len]; omega)) (fun v1_2 W8 hG9 ho1_2 => ?_))
 replace ho1_2 := OwT.app (enc := encR) rfl rfl rfl rfl ho1_2
 replace hB := below_grown hB hG9 (Nat.le_refl _) (fun j hj => (OwT.lt ho1_0 j hj))
 clear hG9
 clear ho1_0
 rw [List.nil_append] at ho1_2
 refine WL_val (dd := some 7) rfl rfl rfl (r_assign (v := v1_2) rfl) ?_
 refine WL_nil ?_
 refine hK4 _ _ ?_
 clear hK4 K3
 refine WC_seq (fun K11 hK12 => ?_)
 refine WC_seq (fun K13 hK14 => ?_)
 obtain ⟨hb1, hb2, hb3⟩ := hlr.get hi
 refine WC_draw (fun a b => a.grownBy b v1_2.ownBlock) tb_mix (fun W15 hE16 => ?_)
 replace hB := below_ext hB hE16 (Nat.le_refl _)
 replace ho1_2 := hE16.ow ho1_2
 have hrow17 := ho1_2
 have hS := World.grownBy.refl W15 v1_2.ownBlock
 refine WT_take (dd := some 11) 0 rfl (by kernel_rfl) (by kernel_rfl) (by kernel_rfl) rfl rfl rfl (fun _wq _hq => r_move (v := v1_2) rfl) hS ?_
 refine WT_take (dd := some 12) 1 rfl (by kernel_rfl) (by kernel_rfl) (by kernel_rfl) rfl rfl rfl (fun _wq _hq => r_move (v := .int .i64 _) rfl) hS ?_
 refine WT_take (dd := some 16) 5 rfl (by kernel_rfl) (by kernel_rfl) (by kernel_rfl) rfl rfl rfl (fun _wq _hq => r_move (v := .int .i64 _) rfl) hS ?_
 refine WT_take (dd := some 17) 6 rfl (by kernel_rfl) (by kernel_rfl) (by kernel_rfl) rfl rfl rfl (fun _wq _hq => r_shl (m := 1) rfl rfl (by omega) (by simp only [IntKind.bits]; omega) (by simp only [topN, Int.toNat_natCast, Nat.one_mul]; omega)) hS ?_
 refine WT_one (dd := some 13) 2 (by kernel_rfl) rfl rfl rfl rfl (Yd.val (r_idxS (v := v1_2) rfl ho1_2.sl rfl tb_el65 (by omega) (by first | omega | (simp only [flagsTo_len, litsTo_len, firstF_len, ptF_len, setF_len]; omega))) ⟨.inl hS, ?_⟩)
 refine WT_take (dd := some 14) 3 rfl (by kernel_rfl) (by kernel_rfl) (by kernel_rfl) rfl rfl rfl (fun _wq _hq => r_fieldAddr (b := _) (o := _) rfl tb_fo79_1) hS ?_
 refine WT_one (dd := some 15) 4 (by kernel_rfl) rfl rfl rfl rfl (Yd.val (r_load1 (v := .int .u8 _) rfl tb_sc5 (SlT.cell ho1_2.sl encR_len ⟨⟨0, 0⟩, 0⟩ (by omega) (by first | omega | (simp only [flagsTo_len, litsTo_len, firstF_len, ptF_len, setF_len]; omega)) 2 rfl)) ⟨.inl hS, ?_⟩)
 refine WT_take (dd := some 18) 7 rfl (by kernel_rfl) (by kernel_rfl) (by kernel_rfl) rfl rfl rfl (fun _wq _hq => r_andNot (n := _) rfl rfl rfl (by first | assumption | (simp only [topN]; omega) | (simp only [topN]; decide)) (by simp only [topN, Int.toNat_natCast, Nat.one_mul]; omega)) hS ?_
 refine WT_one (dd := some 19) 8 (by kernel_rfl) rfl rfl rfl rfl (Yd.val (r_idxS (v := v1_2) rfl ho1_2.sl rfl tb_el65 (by omega) (by first | omega | (simp only [flagsTo_len, litsTo_len, firstF_len, ptF_len, setF_len]; omega))) ⟨.inl hS, ?_⟩)
 refine WT_take (dd := some 20) 9 rfl (by kernel_rfl) (by kernel_rfl) (by kernel_rfl) rfl rfl rfl (fun _wq _hq => r_fieldAddr (b := _) (o := _) rfl tb_fo79_1) hS ?_
 refine WT_one (dd := none) 10 (by kernel_rfl) rfl rfl rfl rfl (Y_storeF (v := v1_2) (u := .int .u8 _) (a := ⟨(l.getD i ⟨⟨0, 0⟩, 0⟩).c, andNot (l.getD i ⟨⟨0, 0⟩, 0⟩).o (1 * 2 ^ k)⟩) (dd := ⟨⟨0, 0⟩, 0⟩) (j := _) (r := 2) rfl rfl tb_sc5 encR_len (by rfl) (by decide) (rfl) ho1_2 (by omega) (by first | omega | (simp only [flagsTo_len, litsTo_len, firstF_len, ptF_len, setF_len]; omega)) (fun W18 hG19 hm20 => ⟨.inl (grownBy_trans hS hG19), ?_⟩))
 replace hS := grownBy_trans hS hG19
 have sv21_hB := hB
 have sv21_ho1_2 := ho1_2
 replace hB := below_grown hB hG19 (Nat.le_refl _) (fun j hj => (OwT.lt ho1_2 j hj))
 clear hG19 ho1_2
 have ho1_2 := hm20
 clear hm20
 rw [Int.toNat_natCast] at ho1_2
 refine WT_done (by kernel_rfl) ?_
 try clear sv21_hB
 try clear hrow17
 refine hK14 _ _ ?_
 clear hK14 K13
 refine WC_seq (fun K22 hK23 => ?_)
 have hsl : (l.set i ⟨(l.getD i ⟨⟨0, 0⟩, 0⟩).c, andNot (l.getD i ⟨⟨0, 0⟩, 0⟩).o (1 * 2 ^ k)⟩).length = l.length := List.length_set
 have hC : (l.set i ⟨(l.getD i ⟨⟨0, 0⟩, 0⟩).c, andNot (l.getD i ⟨⟨0, 0⟩, 0⟩).o (1 * 2 ^ k)⟩).length ≤ slC v1_2 := (Sl.eqv ho1_2.sl).2.1
 refine WC_region ?_
 refine WL_val (dd := some 21) rfl rfl rfl (r_move (v := v1_2) rfl) ?_
 refine WL_val (dd := some 22) rfl rfl rfl (r_move (v := .int .i64 _) rfl) ?_
 refine WL_val (dd := some 23) rfl rfl rfl (r_idxS (v := v1_2) rfl ho1_2.sl rfl tb_el65 (by omega) (by first | omega | (simp only [flagsTo_len, litsTo_len, firstF_len, ptF_len, setF_len]; omega))) ?_
 refine WL_val (dd := some 24) rfl rfl rfl (r_fieldAddr (b := _) (o := _) rfl tb_fo79_1) ?_
 refine WL_val (dd := some 25) rfl rfl rfl (r_load1 (v := .int .u8 _) rfl tb_sc5 (SlT.cell ho1_2.sl encR_len ⟨⟨0, 0⟩, 0⟩ (by omega) (by first | omega | (simp only [flagsTo_len, litsTo_len, firstF_len, ptF_len, setF_len]; omega)) 2 rfl)) ?_
 refine WL_val (dd := some 26) rfl rfl rfl (r_eql rfl rfl) ?_
 refine WL_nil ?_
 refine hK23 _ _ ?_
 clear hK23 K22
 refine WC_cond (b := _) rfl (fun hc0 => ?_) (fun hc0 => ?_)
 ·
  try with_reducible replace hc0 := of_decide_eq_true hc0
  refine WC_draw (fun a b => a.grownBy b v1_2.ownBlock) tb_mix (fun W24 hE25 => ?_)
  replace hB := below_ext hB hE25 (Nat.le_refl _)
  replace ho1_2 := hE25.ow ho1_2
  have hrow26 := ho1_2
  have hS := World.grownBy.refl W24 v1_2.ownBlock
  refine WT_take (dd := some 27) 0 rfl (by kernel_rfl) (by kernel_rfl) (by kernel_rfl) rfl rfl rfl (fun _wq _hq => r_move (v := v1_2) rfl) hS ?_
  refine WT_take (dd := some 28) 1 rfl (by kernel_rfl) (by kernel_rfl) (by kernel_rfl) rfl rfl rfl (fun _wq _hq => r_move (v := .int .i64 _) rfl) hS ?_
  refine WT_take (dd := some 29) 2 rfl (by kernel_rfl) (by kernel_rfl) (by kernel_rfl) rfl rfl rfl (fun _wq _hq => r_sliceHiF (v := v1_2) rfl ho1_2.sl tb_el65 rfl (by omega) (by omega)) hS ?_
  refine WT_take (dd := some 30) 3 rfl (by kernel_rfl) (by kernel_rfl) (by kernel_rfl) rfl rfl rfl (fun _wq _hq => r_move (v := v1_2) rfl) hS ?_
  refine WT_take (dd := some 31) 4 rfl (by kernel_rfl) (by kernel_rfl) (by kernel_rfl) rfl rfl rfl (fun _wq _hq => r_move (v := .int .i64 _) rfl) hS ?_
  refine WT_take (dd := some 32) 5 rfl (by kernel_rfl) (by kernel_rfl) (by kernel_rfl) rfl rfl rfl (fun _wq _hq => r_addI rfl rfl (by omega) (by omega)) hS ?_
  refine WT_take (dd := some 33) 6 rfl (by kernel_rfl) (by kernel_rfl) (by kernel_rfl) rfl rfl rfl (fun _wq _hq => r_sliceLoF (v := v1_2) rfl ho1_2.sl tb_el65 rfl (by omega) (by omega)) hS ?_
  refine WT_one (dd := some 34) 7 (by kernel_rfl) rfl rfl rfl rfl (Y_appendIn (v := v1_2) (i := i) (j := (i + 1)) encR_len enc_one_encR rfl rfl tb_el65 ho1_2 (by omega) (by omega) (by omega) (fun v4_7 W27 hG28 ho4_7 hob29 => ⟨.inl (grownBy_trans hS hG28), ?_⟩))
  clear hob29
  replace hS := grownBy_trans hS hG28
  have sv30_hB := hB
  have sv30_ho1_2 := ho1_2
  replace hB := below_grown hB hG28 (Nat.le_refl _) (fun j hj => (OwT.lt ho1_2 j hj))
  clear hG28 ho1_2
  refine WT_take (dd := some 7) 8 rfl (by kernel_rfl) (by kernel_rfl) (by kernel_rfl) rfl rfl rfl (fun _wq _hq => r_assign (v := v4_7) rfl) hS ?_
  refine WT_done (by kernel_rfl) ?_
  try clear sv30_hB
  try clear hrow26
  refine hK12 _ _ ?_
  clear hK12 K11
  refine WC_seq (fun K31 hK32 => ?_)
  refine WC_region ?_
  refine WL_val (dd := some 35) rfl rfl rfl (r_move (v := v4_7) rfl) ?_
  refine WL_val (dd := some 6) rfl rfl rfl (r_assign (v := v4_7) rfl) ?_
  refine WL_nil ?_
  refine hK32 _ _ ?_
  clear hK32 K31
  refine WC_ret ?_
  repeat (first | refine thenQ_ret ?_ | refine blockQ_ret ?_)
  refine ret_t (v := v4_7) rfl ?_
  refine ⟨hB, ?_⟩
  first | exact (with_t hi hc0) ▸ ho4_7 | exact (with_f hi hc0) ▸ ho1_2
 ·
  try with_reducible replace hc0 := of_decide_eq_false hc0
  refine WC_skip ?_
  refine hK12 _ _ ?_
  clear hK12 K11
  refine WC_seq (fun K33 hK34 => ?_)
  refine WC_region ?_
  refine WL_val (dd := some 35) rfl rfl rfl (r_move (v := v1_2) rfl) ?_
  refine WL_val (dd := some 6) rfl rfl rfl (r_assign (v := v1_2) rfl) ?_
  refine WL_nil ?_
  refine hK34 _ _ ?_
  clear hK34 K33
  refine WC_ret ?_
  repeat (first | refine thenQ_ret ?_ | refine blockQ_ret ?_)
  refine ret_t (v := v1_2) rfl ?_
  refine ⟨hB, ?_⟩
  first | exact (with_t hi hc0) ▸ ho4_7 | exact (with_f hi hc0) ▸ ho1_2

theorem C_thin_Thin (S : Sp) (onV mayV : Value) (xa : Value) (l : List Rw) (w : World) (hon : SlT encS 4 w onV S.on) (hmay : SlT encS 4 w mayV S.may) (hl : SlT encR 3 w xa l) (hlb : l.length ≤ 1000000) (hlr : RowB l) (h4 : S.on.length ≤ 20) :
    Fn Try.prog 73 #[.agg #[.int .i64 S.n, onV, mayV], xa] w fun v w' => if covB S l = true then ∃ x, v = .tuple #[x, .int .i64 0] ∧ OwT encR 3 79 w' w.heap.size x (thinR S l) else v = .tuple #[.slice none 0 0, .int .i64 1] := by
 refine Fn_intro (n := 61) Try.func73 rfl rfl (Nat.le_of_ble_eq_true rfl) ?_
 have hB : Below w.heap.size w w := Below.refl _ _
 refine WC_seq (fun K1 hK2 => ?_)
 refine WC_region ?_
 refine WL_step (dd := some 2) rfl rfl rfl (Y_box (c := #[_, _, _]) rfl rfl (fun b0_0 W3 hb4 hE5 hm0_0 => ?_))
 have lo_b0_0 : w.heap.size ≤ b0_0 := hb4 ▸ (Below.size hB)
 clear hb4
 replace hB := below_ext hB hE5 (Nat.le_refl _)
 clear hE5
 refine WL_val (dd := some 4) rfl rfl rfl (r_assign (v := .slice none 0 0) rfl) ?_
 refine WL_val (dd := some 5) rfl rfl rfl (r_assign (v := .int .i64 0) rfl) ?_
 refine WL_nil ?_
 refine hK2 _ _ ?_
 clear hK2 K1
 refine WC_seq (fun K6 hK7 => ?_)
 refine WC_seq (fun K8 hK9 => ?_)
 refine WC_region ?_
 refine WL_val (dd := some 11) rfl rfl rfl (r_loadW rfl tb_ag64 rfl hm0_0) ?_
 refine WL_val (dd := some 12) rfl rfl rfl (r_move (v := xa) rfl) ?_
 refine WL_call (dd := some 13) rfl rfl rfl (r_call2 tb_c66 (v0 := .agg #[_, _, _]) rfl (v1 := xa) rfl) (C_spec_Covers S _ _ _ l _ (Below.slT hB hon) (Below.slT hB hmay) (Below.slT hB hl) (by omega) hlr h4) (fun v1_2 W10 hE11 hP1_2 => ?_)
 have hsz12 := (Below.size hB)
 replace hB := below_ext hB hE11 (Nat.le_refl _)
 replace hm0_0 := hE11.at hm0_0
 clear hE11
 clear hsz12
 obtain rfl := hP1_2
 refine WL_val (dd := some 14) rfl rfl rfl (r_not rfl) ?_
 refine WL_nil ?_
 refine hK9 _ _ ?_
 clear hK9 K8
 refine WC_cond (b := _) rfl (fun hc0 => ?_) (fun hc0 => ?_)
 ·
  try with_reducible replace hc0 := of_decide_eq_true hc0
  refine WC_seq (fun K13 hK14 => ?_)
  refine WC_region ?_
  refine WL_val (dd := some 4) rfl rfl rfl (r_assign (v := .slice none 0 0) rfl) ?_
  refine WL_val (dd := some 5) rfl rfl rfl (r_assign (v := .int .i64 1) rfl) ?_
  refine WL_nil ?_
  refine hK14 _ _ ?_
  clear hK14 K13
  refine WC_ret ?_
  repeat (first | refine thenQ_ret ?_ | refine blockQ_ret ?_)
  try clear hK7 K6
  refine ret_tt (v := .slice none 0 0) rfl (v1 := .int .i64 1) rfl ?_
  refine ⟨hB, ?_⟩
  rw [if_neg (by rw [show covB S l = false from not_t hc0]; decide)]
 ·
  try with_reducible replace hc0 := of_decide_eq_false hc0
  refine WC_skip ?_
  refine hK7 _ _ ?_
  clear hK7 K6
  refine WC_seq (fun K15 hK16 => ?_)
  have hc : covB S l = true := not_f hc0
  have hp := posL_cov hc
  obtain ⟨hr0, hr8, hr1, hr4, hr5, _⟩ := rightS_iff.1 (covB_iff.1 hc).1
  refine WC_region ?_
  refine WL_step (dd := some 15) rfl rfl rfl (Y_lit0 tb_el65 (fun b3_0 W17 hb18 hE19 hm3_0 => ?_))
  have lo_b3_0 : w.heap.size ≤ b3_0 := hb18 ▸ (Below.size hB)
  clear hb18
  replace hB := below_ext hB hE19 (Nat.le_refl _)
  replace hm0_0 := hE19.at hm0_0
  clear hE19
  have ho3_0 := own_lit0 (enc := encR) (sz := 3) hm3_0 lo_b3_0
  clear hm3_0
  refine WL_val (dd := some 16) rfl rfl rfl (r_move (v := xa) rfl) ?_
  refine WL_step (dd := some 17) rfl rfl rfl (Y_append (v := .slice (some ⟨b3_0, 0, none⟩) 0 0) (v2 := xa) rfl rfl tb_el65 tb_zs79 (by decide) ho3_0 (Below.slT hB hl) (enc_one_encR) (by have := Below.size hB; omega) (by first | omega | (simp; omega) | (simp only [flagsTo_len, litsTo_len, firstF_len, ptF_len, setF_len]; omega)) (by first | omega | (simp; omega) | (simp only [flagsTo_len, litsTo_len, firstF_len, ptF_len, setF_len]; omega)) (fun v3_2 W20 hG21 ho3_2 => ?_))
  replace ho3_2 := OwT.app (enc := encR) rfl rfl rfl rfl ho3_2
  replace hB := below_grown hB hG21 (Nat.le_refl _) (fun j hj => (OwT.lt ho3_0 j hj))
  replace hm0_0 := At.grownOw hm0_0 ho3_0 hG21 (by decide)
  clear hG21
  clear ho3_0
  rw [List.nil_append] at ho3_2
  refine WL_val (dd := some 6) rfl rfl rfl (r_assign (v := v3_2) rfl) ?_
  refine WL_nil ?_
  refine hK16 _ _ ?_
  clear hK16 K15
  refine WC_seq (fun K23 hK24 => ?_)
  refine WC_seq (fun K25 hK26 => ?_)
  refine WC_region ?_
  refine WL_val (dd := some 7) rfl rfl rfl (r_assign (v := .int .i64 0) rfl) ?_
  refine WL_nil ?_
  refine hK26 _ _ ?_
  clear hK26 K25
  refine WC_block ?_
  refine WC_loop (σ := (Nat) × (Value)) [6, 7, 8, 9, 10, 18, 19, 20, 21, 22, 23, 24, 25, 26, 27, 28, 29, 30, 31, 32, 33, 34, 35, 36, 37, 38, 39, 40, 41, 42, 43, 44, 45, 46, 47, 48, 49, 50, 51, 52, 53, 54, 55, 56, 57, 58, 59] (fun (j, v0) => [(7, .int .i64 ((thA S l j).length : Int)), (6, v0)]) (fun sg W => match sg with | (j, v0) => (Below w.heap.size w W) ∧ (At W b0_0 _ 64) ∧ (OwT encR 3 79 W w.heap.size v3_2 _) ∧ (OwT encR 3 79 W w.heap.size v0 (thA S l j ++ l.drop j)) ∧ (j ≤ l.length) ∧ (True)) (fun (j, v0) => l.length - j) ((0, v3_2)) ⟨rfl, rfl, trivial⟩ ⟨hB, hm0_0, ho3_2, (by exact ho3_2), (Nat.zero_le _), trivial⟩ ?_
  clear hB hm0_0 ho3_2
  rintro ⟨j, v0⟩ g28 W27 ⟨hB, hm0_0, ho3_2, ho, hj, _⟩ J29 hJ30
  refine WC_seq (fun K31 hK32 => ?_)
  refine WC_seq (fun K33 hK34 => ?_)
  have hdl := thD_len (S := S) (l := l) (j := j)
  have hal := thA_len S l j
  refine WC_region ?_
  refine WL_val (dd := some 18) rfl rfl rfl (r_move (v := .int .i64 _) rfl) ?_
  refine WL_val (dd := some 19) rfl rfl rfl (r_move (v := v0) rfl) ?_
  refine WL_val (dd := some 20) rfl rfl rfl (r_lenS (v := v0) rfl ho.sl tb_el65) ?_
  refine WL_val (dd := some 21) rfl rfl rfl (r_lss rfl rfl) ?_
  refine WL_nil ?_
  refine hK34 _ _ ?_
  clear hK34 K33
  refine WC_cond (b := _) rfl (fun hc1 => ?_) (fun hc1 => ?_)
  ·
   try with_reducible replace hc1 := of_decide_eq_true hc1
   refine WC_skip ?_
   refine hK32 _ _ ?_
   clear hK32 K31
   refine WC_block ?_
   refine WC_seq (fun K35 hK36 => ?_)
   have hjl : j < l.length := by omega
   refine WC_region ?_
   refine WL_val (dd := some 22) rfl rfl rfl (r_move (v := v0) rfl) ?_
   refine WL_val (dd := some 23) rfl rfl rfl (r_lenS (v := v0) rfl ho.sl tb_el65) ?_
   refine WL_val (dd := some 8) rfl rfl rfl (r_assign (v := .int .i64 _) rfl) ?_
   refine WL_nil ?_
   refine hK36 _ _ ?_
   clear hK36 K35
   refine WC_seq (fun K37 hK38 => ?_)
   refine WC_seq (fun K39 hK40 => ?_)
   refine WC_region ?_
   refine WL_val (dd := some 24) rfl rfl rfl (r_fieldAddr (b := _) (o := _) rfl tb_fo64_1) ?_
   refine WL_val (dd := some 25) rfl rfl rfl (r_load1 (v := onV) rfl tb_sc62 (At.cell hm0_0 rfl)) ?_
   refine WL_val (dd := some 26) rfl rfl rfl (r_lenS (v := onV) rfl (Below.slT hB hon) tb_el62) ?_
   refine WL_val (dd := some 27) rfl rfl rfl (r_move (v := .int .i64 0) rfl) ?_
   refine WL_nil ?_
   refine hK40 _ _ ?_
   clear hK40 K39
   refine WC_block ?_
   refine WC_loop (σ := (Nat) × (Value)) [6, 9, 10, 27, 28, 29, 30, 31, 32, 33, 34, 35, 36, 37, 38, 39, 40, 41, 42, 43, 44, 45, 46, 47, 48, 49, 50, 51, 52, 53] (fun (k, v1) => [(27, .int .i64 (k : Int)), (6, v1)]) (fun sg W => match sg with | (k, v1) => (Below w.heap.size w W) ∧ (At W b0_0 _ 64) ∧ (OwT encR 3 79 W w.heap.size v3_2 _) ∧ (OwT encR 3 79 W w.heap.size v1 (thT S l j k)) ∧ (k ≤ S.on.length) ∧ (True)) (fun (k, v1) => S.on.length - k) ((0, v0)) ⟨rfl, rfl, trivial⟩ ⟨hB, hm0_0, ho3_2, (by rw [← thT_zero hp hjl]; exact ho), (Nat.zero_le _), trivial⟩ ?_
   clear hB hm0_0 ho3_2 ho
   rintro ⟨k, v1⟩ g42 W41 ⟨hB, hm0_0, ho3_2, hoo, hk, _⟩ J43 hJ44
   refine WC_seq (fun K45 hK46 => ?_)
   refine WC_region ?_
   refine WL_val (dd := some 28) rfl rfl rfl (r_lss rfl rfl) ?_
   refine WL_nil ?_
   refine hK46 _ _ ?_
   clear hK46 K45
   refine WC_seq (fun K47 hK48 => ?_)
   refine WC_cond (b := _) rfl (fun hc2 => ?_) (fun hc2 => ?_)
   ·
    try with_reducible replace hc2 := of_decide_eq_true hc2
    refine WC_skip ?_
    refine hK48 _ _ ?_
    clear hK48 K47
    refine WC_seq (fun K49 hK50 => ?_)
    refine WC_block ?_
    refine WC_seq (fun K51 hK52 => ?_)
    refine WC_region ?_
    refine WL_val (dd := some 29) rfl rfl rfl (r_move (v := .int .i64 _) rfl) ?_
    refine WL_val (dd := some 9) rfl rfl rfl (r_assign (v := .int .i64 _) rfl) ?_
    refine WL_nil ?_
    refine hK52 _ _ ?_
    clear hK52 K51
    refine WC_seq (fun K53 hK54 => ?_)
    refine WC_seq (fun K55 hK56 => ?_)
    have htl := thT_len2 (S := S) (l := l) (j := j) (k := k)
    obtain ⟨hk1, hk2, hk3⟩ := kpL (thX S l j k)
    have htb := thT_b (S := S) hlr hjl k
    have hget : (kpR (thX S l j k)).length = 1 → (thT S l j k).getD (((thA S l j).length : Nat) : Int).toNat ⟨⟨0, 0⟩, 0⟩ = thX S l j k := fun h => by rw [Int.toNat_natCast]; exact thT_get (hk2 h)
    refine WC_region ?_
    refine WL_val (dd := some 30) rfl rfl rfl (r_move (v := v1) rfl) ?_
    refine WL_val (dd := some 31) rfl rfl rfl (r_lenS (v := v1) rfl hoo.sl tb_el65) ?_
    refine WL_val (dd := some 32) rfl rfl rfl (r_move (v := .int .i64 _) rfl) ?_
    refine WL_val (dd := some 33) rfl rfl rfl (r_lss rfl rfl) ?_
    refine WL_split (dd := some 34) rfl rfl rfl (r_move (v := .bool _) rfl) (fun hs10_4 => ?_) (fun hs10_4 => ?_)
    ·
     try with_reducible replace hs10_4 := of_decide_eq_true hs10_4
     refine WL_skip (dd := some 35) rfl rfl rfl ?_
     refine WL_skip (dd := some 36) rfl rfl rfl ?_
     refine WL_skip (dd := some 37) rfl rfl rfl ?_
     refine WL_skip (dd := some 38) rfl rfl rfl ?_
     refine WL_skip (dd := some 39) rfl rfl rfl ?_
     refine WL_skip (dd := some 40) rfl rfl rfl ?_
     refine WL_skip (dd := some 41) rfl rfl rfl ?_
     refine WL_skip (dd := some 42) rfl rfl rfl ?_
     refine WL_skip (dd := some 43) rfl rfl rfl ?_
     refine WL_val (dd := some 44) rfl rfl rfl (r_pick_t rfl (v := .bool true) rfl) ?_
     refine WL_nil ?_
     refine hK56 _ _ ?_
     clear hK56 K55
     refine WC_cond_true rfl ?_
     refine WC_exit ?_
     refine hK50 _ _ ?_
     clear hK54 K53
     clear hK50 K49
     refine WC_region ?_
     refine WL_val (dd := some 53) rfl rfl rfl (r_addI rfl rfl (by omega) (by omega)) ?_
     refine WL_val (dd := some 27) rfl rfl rfl (r_move (v := .int .i64 _) rfl) ?_
     refine WL_nil ?_
     refine hJ44 _ _ ((k + 1, v1)) ?_ ?_ ?_ ?_
     · repeat (first | exact agree.mask _ _ _ | refine agree.updo ?_ rfl _ | refine agree.updL ?_ _ rfl | refine agree.maskS rfl ?_)
     · exact ⟨rfl, rfl, trivial⟩
     · exact ⟨hB, hm0_0, ho3_2, (by first | (rw [← thT_t hbt hc4]; exact hoo) | (rw [← thT_f (.inr hc4)]; exact hoo) | (rw [← thT_f (.inl (zero_bit (hk3 (by omega))))]; exact hoo) | (rw [← thT_f (.inl (bit_no0 (by rw [hget (by omega)] at hc3; exact hc3)))]; exact hoo)), (by omega), trivial⟩
     · show S.on.length - (k + 1) < S.on.length - k; omega
    ·
     try with_reducible replace hs10_4 := of_decide_eq_false hs10_4
     refine WL_val (dd := some 35) rfl rfl rfl (r_move (v := v1) rfl) ?_
     refine WL_val (dd := some 36) rfl rfl rfl (r_move (v := .int .i64 _) rfl) ?_
     refine WL_val (dd := some 37) rfl rfl rfl (r_idxS (v := v1) rfl hoo.sl rfl tb_el65 (by omega) (by first | omega | (simp only [flagsTo_len, litsTo_len, firstF_len, ptF_len, setF_len]; omega))) ?_
     refine WL_val (dd := some 38) rfl rfl rfl (r_fieldAddr (b := _) (o := _) rfl tb_fo79_1) ?_
     refine WL_val (dd := some 39) rfl rfl rfl (r_load1 (v := .int .u8 _) rfl tb_sc5 (SlT.cell hoo.sl encR_len ⟨⟨0, 0⟩, 0⟩ (by omega) (by first | omega | (simp only [flagsTo_len, litsTo_len, firstF_len, ptF_len, setF_len]; omega)) 2 rfl)) ?_
     refine WL_val (dd := some 40) rfl rfl rfl (r_move (v := .int .i64 _) rfl) ?_
     refine WL_val (dd := some 41) rfl rfl rfl (r_shr rfl rfl (by omega) (by simp only [IntKind.bits]; omega)) ?_
     refine WL_val (dd := some 42) rfl rfl rfl (r_and (n := 1) rfl rfl rfl (by exact Nat.lt_of_le_of_lt (Nat.div_le_self _ _) (htb.any _)) (by decide)) ?_
     refine WL_val (dd := some 43) rfl rfl rfl (r_eql rfl rfl) ?_
     refine WL_val (dd := some 44) rfl rfl rfl (r_pick_f rfl (v := .bool _) rfl) ?_
     refine WL_nil ?_
     refine hK56 _ _ ?_
     clear hK56 K55
     refine WC_cond (b := _) rfl (fun hc3 => ?_) (fun hc3 => ?_)
     ·
      try with_reducible replace hc3 := of_decide_eq_true hc3
      refine WC_exit ?_
      refine hK50 _ _ ?_
      clear hK54 K53
      clear hK50 K49
      refine WC_region ?_
      refine WL_val (dd := some 53) rfl rfl rfl (r_addI rfl rfl (by omega) (by omega)) ?_
      refine WL_val (dd := some 27) rfl rfl rfl (r_move (v := .int .i64 _) rfl) ?_
      refine WL_nil ?_
      refine hJ44 _ _ ((k + 1, v1)) ?_ ?_ ?_ ?_
      · repeat (first | exact agree.mask _ _ _ | refine agree.updo ?_ rfl _ | refine agree.updL ?_ _ rfl | refine agree.maskS rfl ?_)
      · exact ⟨rfl, rfl, trivial⟩
      · exact ⟨hB, hm0_0, ho3_2, (by first | (rw [← thT_t hbt hc4]; exact hoo) | (rw [← thT_f (.inr hc4)]; exact hoo) | (rw [← thT_f (.inl (zero_bit (hk3 (by omega))))]; exact hoo) | (rw [← thT_f (.inl (bit_no0 (by rw [hget (by omega)] at hc3; exact hc3)))]; exact hoo)), (by omega), trivial⟩
      · show S.on.length - (k + 1) < S.on.length - k; omega
     ·
      try with_reducible replace hc3 := of_decide_eq_false hc3
      refine WC_skip ?_
      refine hK54 _ _ ?_
      clear hK54 K53
      refine WC_seq (fun K57 hK58 => ?_)
      have hpos : (kpR (thX S l j k)).length = 1 := by omega
      rw [hget hpos] at hc3
      have hbt : (thO S l j k).testBit k = true := bit_yes0 hc3
      have hwl := withL_len (thT S l j k) (thA S l j).length k
      refine WC_region ?_
      refine WL_val (dd := some 45) rfl rfl rfl (r_move (v := v1) rfl) ?_
      refine WL_val (dd := some 46) rfl rfl rfl (r_move (v := .int .i64 _) rfl) ?_
      refine WL_val (dd := some 47) rfl rfl rfl (r_move (v := .int .i64 _) rfl) ?_
      refine WL_call (dd := some 48) rfl rfl rfl (r_call3 tb_c128 (v0 := v1) rfl (v1 := .int .i64 _) rfl (v2 := .int .i64 _) rfl) (C_thin_without _ (thT S l j k) (thA S l j).length k _ hoo.sl (by omega) htb (by omega) (by omega)) (fun v11_3 W59 hE60 hP11_3 => ?_)
      have hlt61 := OwT.lt2 ho3_2
      have hlt62 := OwT.lt2 hoo
      have hsz63 := (Below.size hB)
      replace hB := below_ext hB hE60 (Nat.le_refl _)
      replace hm0_0 := hE60.at hm0_0
      replace ho3_2 := hE60.ow ho3_2
      replace hoo := hE60.ow hoo
      clear hE60
      have hap64 := Apart.new hlt61 hP11_3
      have hap65 := Apart.new hlt62 hP11_3
      replace hP11_3 := OwT.mono hP11_3 hsz63
      clear hsz63
      refine WL_val (dd := some 10) rfl rfl rfl (r_assign (v := v11_3) rfl) ?_
      refine WL_nil ?_
      refine hK58 _ _ ?_
      clear hK58 K57
      refine WC_seq (fun K66 hK67 => ?_)
      refine WC_region ?_
      refine WL_val (dd := some 49) rfl rfl rfl (r_loadW rfl tb_ag64 rfl hm0_0) ?_
      refine WL_val (dd := some 50) rfl rfl rfl (r_move (v := v11_3) rfl) ?_
      refine WL_call (dd := some 51) rfl rfl rfl (r_call2 tb_c66 (v0 := .agg #[_, _, _]) rfl (v1 := v11_3) rfl) (C_spec_Covers S _ _ _ (withL (thT S l j k) (thA S l j).length k) _ (Below.slT hB hon) (Below.slT hB hmay) hP11_3.sl (by omega) (withL_b htb (by omega) k) h4) (fun v12_2 W68 hE69 hP12_2 => ?_)
      have hsz70 := (Below.size hB)
      replace hB := below_ext hB hE69 (Nat.le_refl _)
      replace hm0_0 := hE69.at hm0_0
      replace ho3_2 := hE69.ow ho3_2
      replace hoo := hE69.ow hoo
      replace hP11_3 := hE69.ow hP11_3
      clear hE69
      clear hsz70
      obtain rfl := hP12_2
      refine WL_nil ?_
      refine hK67 _ _ ?_
      clear hK67 K66
      refine WC_cond (b := _) rfl (fun hc4 => ?_) (fun hc4 => ?_)
      ·
       try with_reducible replace hc4 := of_decide_eq_true hc4
       refine WC_region ?_
       refine WL_val (dd := some 52) rfl rfl rfl (r_move (v := v11_3) rfl) ?_
       refine WL_val (dd := some 6) rfl rfl rfl (r_assign (v := v11_3) rfl) ?_
       refine WL_nil ?_
       refine hK50 _ _ ?_
       clear hK50 K49
       refine WC_region ?_
       refine WL_val (dd := some 53) rfl rfl rfl (r_addI rfl rfl (by omega) (by omega)) ?_
       refine WL_val (dd := some 27) rfl rfl rfl (r_move (v := .int .i64 _) rfl) ?_
       refine WL_nil ?_
       refine hJ44 _ _ ((k + 1, v11_3)) ?_ ?_ ?_ ?_
       · repeat (first | exact agree.mask _ _ _ | refine agree.updo ?_ rfl _ | refine agree.updL ?_ _ rfl | refine agree.maskS rfl ?_)
       · exact ⟨rfl, rfl, trivial⟩
       · exact ⟨hB, hm0_0, ho3_2, (by first | (rw [← thT_t hbt hc4]; exact hP11_3) | (rw [← thT_f (.inr hc4)]; exact hP11_3) | (rw [← thT_f (.inl (zero_bit (hk3 (by omega))))]; exact hP11_3) | (rw [← thT_f (.inl (bit_no0 (by rw [hget (by omega)] at hc3; exact hc3)))]; exact hP11_3)), (by omega), trivial⟩
       · show S.on.length - (k + 1) < S.on.length - k; omega
      ·
       try with_reducible replace hc4 := of_decide_eq_false hc4
       refine WC_skip ?_
       refine hK50 _ _ ?_
       clear hK50 K49
       refine WC_region ?_
       refine WL_val (dd := some 53) rfl rfl rfl (r_addI rfl rfl (by omega) (by omega)) ?_
       refine WL_val (dd := some 27) rfl rfl rfl (r_move (v := .int .i64 _) rfl) ?_
       refine WL_nil ?_
       refine hJ44 _ _ ((k + 1, v1)) ?_ ?_ ?_ ?_
       · repeat (first | exact agree.mask _ _ _ | refine agree.updo ?_ rfl _ | refine agree.updL ?_ _ rfl | refine agree.maskS rfl ?_)
       · exact ⟨rfl, rfl, trivial⟩
       · exact ⟨hB, hm0_0, ho3_2, (by first | (rw [← thT_t hbt hc4]; exact hoo) | (rw [← thT_f (.inr hc4)]; exact hoo) | (rw [← thT_f (.inl (zero_bit (hk3 (by omega))))]; exact hoo) | (rw [← thT_f (.inl (bit_no0 (by rw [hget (by omega)] at hc3; exact hc3)))]; exact hoo)), (by omega), trivial⟩
       · show S.on.length - (k + 1) < S.on.length - k; omega
   ·
    try with_reducible replace hc2 := of_decide_eq_false hc2
    refine WC_exit ?_
    refine hK38 _ _ ?_
    clear hK48 K47
    clear hJ44 J43
    clear hK38 K37
    refine WC_seq (fun K71 hK72 => ?_)
    obtain rfl : k = S.on.length := by omega
    have htl := thT_len2 (S := S) (l := l) (j := j) (k := S.on.length)
    obtain ⟨hk1, hk2, hk3⟩ := kpL (thX S l j S.on.length)
    have hA1 : (thA S l (j + 1)).length = (thA S l j).length + (kpR (thX S l j S.on.length)).length := by rw [thA_succ, List.length_append]
    refine WC_region ?_
    refine WL_val (dd := some 54) rfl rfl rfl (r_move (v := v1) rfl) ?_
    refine WL_val (dd := some 55) rfl rfl rfl (r_lenS (v := v1) rfl hoo.sl tb_el65) ?_
    refine WL_val (dd := some 56) rfl rfl rfl (r_move (v := .int .i64 _) rfl) ?_
    refine WL_val (dd := some 57) rfl rfl rfl (r_eql rfl rfl) ?_
    refine WL_nil ?_
    refine hK72 _ _ ?_
    clear hK72 K71
    refine WC_cond (b := _) rfl (fun hc5 => ?_) (fun hc5 => ?_)
    ·
     try with_reducible replace hc5 := of_decide_eq_true hc5
     refine WC_region ?_
     refine WL_val (dd := some 58) rfl rfl rfl (r_move (v := .int .i64 _) rfl) ?_
     refine WL_val (dd := some 59) rfl rfl rfl (r_addI rfl rfl (by omega) (by omega)) ?_
     refine WL_val (dd := some 7) rfl rfl rfl (r_assign (v := .int .i64 _) rfl) ?_
     refine WL_nil ?_
     refine hJ30 _ _ ((j + 1, v1)) ?_ ?_ ?_ ?_
     · repeat (first | exact agree.mask _ _ _ | refine agree.updo ?_ rfl _ | refine agree.updL ?_ _ rfl | refine agree.maskS rfl ?_)
     · exact ⟨(by first | exact congrArg (Value.int .i64) (by omega) | exact congrArg (Value.int .i64) (by rw [hA1]; omega)), rfl, trivial⟩
     · exact ⟨hB, hm0_0, ho3_2, (by (rw [← thT_end]; exact hoo)), (by omega), trivial⟩
     · show l.length - (j + 1) < l.length - j; omega
    ·
     try with_reducible replace hc5 := of_decide_eq_false hc5
     refine WC_skip ?_
     refine hJ30 _ _ ((j + 1, v1)) ?_ ?_ ?_ ?_
     · repeat (first | exact agree.mask _ _ _ | refine agree.updo ?_ rfl _ | refine agree.updL ?_ _ rfl | refine agree.maskS rfl ?_)
     · exact ⟨(by first | exact congrArg (Value.int .i64) (by omega) | exact congrArg (Value.int .i64) (by rw [hA1]; omega)), rfl, trivial⟩
     · exact ⟨hB, hm0_0, ho3_2, (by (rw [← thT_end]; exact hoo)), (by omega), trivial⟩
     · show l.length - (j + 1) < l.length - j; omega
  ·
   try with_reducible replace hc1 := of_decide_eq_false hc1
   refine WC_exit ?_
   refine hK24 _ _ ?_
   clear hK32 K31
   clear hJ30 J29
   clear hK24 K23
   refine WC_seq (fun K73 hK74 => ?_)
   refine WC_region ?_
   refine WL_val (dd := some 60) rfl rfl rfl (r_move (v := v0) rfl) ?_
   refine WL_val (dd := some 4) rfl rfl rfl (r_assign (v := v0) rfl) ?_
   refine WL_val (dd := some 5) rfl rfl rfl (r_assign (v := .int .i64 0) rfl) ?_
   refine WL_nil ?_
   refine hK74 _ _ ?_
   clear hK74 K73
   refine WC_ret ?_
   repeat (first | refine thenQ_ret ?_ | refine blockQ_ret ?_)
   refine ret_tt (v := v0) rfl (v1 := .int .i64 0) rfl ?_
   refine ⟨hB, ?_⟩
   obtain rfl : j = l.length := by omega
   rw [if_pos hc]
   rw [List.drop_length, List.append_nil] at ho
   exact ⟨_, rfl, ho⟩

theorem C_thin_Needed (S : Sp) (onV mayV : Value) (xa : Value) (l : List Rw) (w : World) (hon : SlT encS 4 w onV S.on) (hmay : SlT encS 4 w mayV S.may) (hl : SlT encR 3 w xa l) (hlb : l.length ≤ 1000000) (hlr : RowB l) (h4 : S.on.length ≤ 20) :
    Fn Try.prog 74 #[.agg #[.int .i64 S.n, onV, mayV], xa] w fun v w' => v = .bool (neededR S l) := by
 refine Fn_intro (n := 41) Try.func74 rfl rfl (Nat.le_of_ble_eq_true rfl) ?_
 have hB : Below w.heap.size w w := Below.refl _ _
 refine WC_seq (fun K1 hK2 => ?_)
 refine WC_region ?_
 refine WL_step (dd := some 2) rfl rfl rfl (Y_box (c := #[_, _, _]) rfl rfl (fun b0_0 W3 hb4 hE5 hm0_0 => ?_))
 have lo_b0_0 : w.heap.size ≤ b0_0 := hb4 ▸ (Below.size hB)
 clear hb4
 replace hB := below_ext hB hE5 (Nat.le_refl _)
 clear hE5
 refine WL_val (dd := some 4) rfl rfl rfl (r_assign (v := .bool false) rfl) ?_
 refine WL_nil ?_
 refine hK2 _ _ ?_
 clear hK2 K1
 refine WC_seq (fun K6 hK7 => ?_)
 refine WC_seq (fun K8 hK9 => ?_)
 refine WC_region ?_
 refine WL_val (dd := some 8) rfl rfl rfl (r_loadW rfl tb_ag64 rfl hm0_0) ?_
 refine WL_val (dd := some 9) rfl rfl rfl (r_move (v := xa) rfl) ?_
 refine WL_call (dd := some 10) rfl rfl rfl (r_call2 tb_c66 (v0 := .agg #[_, _, _]) rfl (v1 := xa) rfl) (C_spec_Covers S _ _ _ l _ (Below.slT hB hon) (Below.slT hB hmay) (Below.slT hB hl) (by omega) hlr h4) (fun v1_2 W10 hE11 hP1_2 => ?_)
 have hsz12 := (Below.size hB)
 replace hB := below_ext hB hE11 (Nat.le_refl _)
 replace hm0_0 := hE11.at hm0_0
 clear hE11
 clear hsz12
 obtain rfl := hP1_2
 refine WL_val (dd := some 11) rfl rfl rfl (r_not rfl) ?_
 refine WL_nil ?_
 refine hK9 _ _ ?_
 clear hK9 K8
 refine WC_cond (b := _) rfl (fun hc0 => ?_) (fun hc0 => ?_)
 ·
  try with_reducible replace hc0 := of_decide_eq_true hc0
  refine WC_seq (fun K13 hK14 => ?_)
  refine WC_region ?_
  refine WL_val (dd := some 4) rfl rfl rfl (r_assign (v := .bool false) rfl) ?_
  refine WL_nil ?_
  refine hK14 _ _ ?_
  clear hK14 K13
  refine WC_ret ?_
  repeat (first | refine thenQ_ret ?_ | refine blockQ_ret ?_)
  try clear hK7 K6
  refine ret_t (v := .bool false) rfl ?_
  refine ⟨hB, ?_⟩
  exact needed_f (not_t hc0)
 ·
  try with_reducible replace hc0 := of_decide_eq_false hc0
  refine WC_skip ?_
  refine hK7 _ _ ?_
  clear hK7 K6
  refine WC_seq (fun K15 hK16 => ?_)
  refine WC_seq (fun K17 hK18 => ?_)
  have hc : covB S l = true := not_f hc0
  have hp := posL_cov hc
  obtain ⟨hr0, hr8, hr1, hr4, hr5, _⟩ := rightS_iff.1 (covB_iff.1 hc).1
  refine WC_region ?_
  refine WL_val (dd := some 12) rfl rfl rfl (r_move (v := xa) rfl) ?_
  refine WL_val (dd := some 13) rfl rfl rfl (r_lenS (v := xa) rfl (Below.slT hB hl) tb_el65) ?_
  refine WL_val (dd := some 14) rfl rfl rfl (r_move (v := .int .i64 0) rfl) ?_
  refine WL_nil ?_
  refine hK18 _ _ ?_
  clear hK18 K17
  refine WC_block ?_
  refine WC_loop (σ := (Nat)) [4, 5, 6, 7, 14, 15, 16, 17, 18, 19, 20, 21, 22, 23, 24, 25, 26, 27, 28, 29, 30, 31, 32, 33, 34, 35, 36, 37, 38, 39, 40] (fun i => [(14, .int .i64 (i : Int))]) (fun i W => (Below w.heap.size w W) ∧ (At W b0_0 _ 64) ∧ (i ≤ l.length) ∧ (∀ q, q < i → ∀ k, k < S.on.length → nbR S l q k = false) ∧ (True)) (fun i => l.length - i) (0) ⟨rfl, trivial⟩ ⟨hB, hm0_0, (Nat.zero_le _), upTo_zero, trivial⟩ ?_
  clear hB hm0_0
  rintro i g20 W19 ⟨hB, hm0_0, hi, hq, _⟩ J21 hJ22
  refine WC_seq (fun K23 hK24 => ?_)
  refine WC_region ?_
  refine WL_val (dd := some 15) rfl rfl rfl (r_lss rfl rfl) ?_
  refine WL_nil ?_
  refine hK24 _ _ ?_
  clear hK24 K23
  refine WC_seq (fun K25 hK26 => ?_)
  refine WC_cond (b := _) rfl (fun hc1 => ?_) (fun hc1 => ?_)
  ·
   try with_reducible replace hc1 := of_decide_eq_true hc1
   refine WC_skip ?_
   refine hK26 _ _ ?_
   clear hK26 K25
   refine WC_seq (fun K27 hK28 => ?_)
   refine WC_block ?_
   refine WC_seq (fun K29 hK30 => ?_)
   obtain ⟨hb1, hb2, hb3⟩ := hlr.get (k := i) (by omega)
   refine WC_region ?_
   refine WL_val (dd := some 16) rfl rfl rfl (r_move (v := .int .i64 _) rfl) ?_
   refine WL_val (dd := some 17) rfl rfl rfl (r_idxS (v := xa) rfl (Below.slT hB hl) rfl tb_el65 (by omega) (by first | omega | (simp only [flagsTo_len, litsTo_len, firstF_len, ptF_len, setF_len]; omega))) ?_
   refine WL_val (dd := some 18) rfl rfl rfl (r_load3 rfl tb_ag79 (SlT.cell (Below.slT hB hl) encR_len ⟨⟨0, 0⟩, 0⟩ (by omega) (by first | omega | (simp only [flagsTo_len, litsTo_len, firstF_len, ptF_len, setF_len]; omega)) 0 rfl) (SlT.cell (Below.slT hB hl) encR_len ⟨⟨0, 0⟩, 0⟩ (by omega) (by first | omega | (simp only [flagsTo_len, litsTo_len, firstF_len, ptF_len, setF_len]; omega)) 1 rfl) (SlT.cell (Below.slT hB hl) encR_len ⟨⟨0, 0⟩, 0⟩ (by omega) (by first | omega | (simp only [flagsTo_len, litsTo_len, firstF_len, ptF_len, setF_len]; omega)) 2 rfl)) ?_
   refine WL_step (dd := some 6) rfl rfl rfl (Y_alloc tb_z79 rfl (fun b5_3 W31 hb32 hE33 hm5_3 => ?_))
   have lo_b5_3 : w.heap.size ≤ b5_3 := hb32 ▸ (Below.size hB)
   clear hb32
   replace hB := below_ext hB hE33 (Nat.le_refl _)
   replace hm0_0 := hE33.at hm0_0
   clear hE33
   refine WL_val (dd := some 5) rfl rfl rfl (r_assign (v := .int .i64 _) rfl) ?_
   refine WL_step (dd := none) rfl rfl rfl (Y_storeW rfl rfl tb_ag79 rfl hm5_3 rfl (by rfl) (fun W34 hG35 hm36 => ?_))
   replace hB := below_grown hB hG35 (Nat.le_refl _) (fun j hj => by cases hj; exact lo_b5_3)
   replace hm0_0 := At.grownAt hm0_0 hm5_3 hG35 (by decide)
   clear hG35 hm5_3
   have hm5_3 := hm36
   clear hm36
   refine WL_nil ?_
   refine hK30 _ _ ?_
   clear hK30 K29
   refine WC_seq (fun K37 hK38 => ?_)
   refine WC_region ?_
   refine WL_val (dd := some 19) rfl rfl rfl (r_fieldAddr (b := _) (o := _) rfl tb_fo64_1) ?_
   refine WL_val (dd := some 20) rfl rfl rfl (r_load1 (v := onV) rfl tb_sc62 (At.cell hm0_0 rfl)) ?_
   refine WL_val (dd := some 21) rfl rfl rfl (r_lenS (v := onV) rfl (Below.slT hB hon) tb_el62) ?_
   refine WL_val (dd := some 22) rfl rfl rfl (r_move (v := .int .i64 0) rfl) ?_
   refine WL_nil ?_
   refine hK38 _ _ ?_
   clear hK38 K37
   refine WC_block ?_
   refine WC_loop (σ := (Nat)) [4, 7, 22, 23, 24, 25, 26, 27, 28, 29, 30, 31, 32, 33, 34, 35, 36, 37, 38, 39] (fun k => [(22, .int .i64 (k : Int))]) (fun k W => (Below w.heap.size w W) ∧ (At W b0_0 _ 64) ∧ (At W b5_3 _ 79) ∧ (k ≤ S.on.length) ∧ (∀ q, q < k → nbR S l i q = false) ∧ (True)) (fun k => S.on.length - k) (0) ⟨rfl, trivial⟩ ⟨hB, hm0_0, hm5_3, (Nat.zero_le _), upTo_zero, trivial⟩ ?_
   clear hB hm0_0 hm5_3
   rintro k g40 W39 ⟨hB, hm0_0, hm5_3, hk, hq2, _⟩ J41 hJ42
   refine WC_seq (fun K43 hK44 => ?_)
   refine WC_region ?_
   refine WL_val (dd := some 23) rfl rfl rfl (r_lss rfl rfl) ?_
   refine WL_nil ?_
   refine hK44 _ _ ?_
   clear hK44 K43
   refine WC_seq (fun K45 hK46 => ?_)
   refine WC_cond (b := _) rfl (fun hc2 => ?_) (fun hc2 => ?_)
   ·
    try with_reducible replace hc2 := of_decide_eq_true hc2
    refine WC_skip ?_
    refine hK46 _ _ ?_
    clear hK46 K45
    refine WC_seq (fun K47 hK48 => ?_)
    refine WC_block ?_
    refine WC_seq (fun K49 hK50 => ?_)
    refine WC_region ?_
    refine WL_val (dd := some 24) rfl rfl rfl (r_move (v := .int .i64 _) rfl) ?_
    refine WL_val (dd := some 7) rfl rfl rfl (r_assign (v := .int .i64 _) rfl) ?_
    refine WL_nil ?_
    refine hK50 _ _ ?_
    clear hK50 K49
    refine WC_seq (fun K51 hK52 => ?_)
    have hwl := withL_len l i k
    refine WC_draw Ext tb_mix (fun W53 hE54 => ?_)
    replace hB := below_ext hB hE54 (Nat.le_refl _)
    replace hm0_0 := hE54.at hm0_0
    replace hm5_3 := hE54.at hm5_3
    have hS := Ext.refl W53
    refine WT_take (dd := some 25) 0 rfl (by kernel_rfl) (by kernel_rfl) (by kernel_rfl) rfl rfl rfl (fun _wq _hq => r_fieldAddr (b := _) (o := _) rfl tb_fo79_1) hS ?_
    refine WT_take (dd := some 26) 1 rfl (by kernel_rfl) (by kernel_rfl) (by kernel_rfl) rfl rfl rfl (fun _wq hq => r_load1 (v := .int .u8 _) rfl tb_sc5 (At.cell (hq.at hm5_3) rfl)) hS ?_
    refine WT_take (dd := some 27) 2 rfl (by kernel_rfl) (by kernel_rfl) (by kernel_rfl) rfl rfl rfl (fun _wq _hq => r_move (v := .int .i64 _) rfl) hS ?_
    refine WT_take (dd := some 28) 3 rfl (by kernel_rfl) (by kernel_rfl) (by kernel_rfl) rfl rfl rfl (fun _wq _hq => r_shr rfl rfl (by omega) (by simp only [IntKind.bits]; omega)) hS ?_
    refine WT_take (dd := some 29) 4 rfl (by kernel_rfl) (by kernel_rfl) (by kernel_rfl) rfl rfl rfl (fun _wq _hq => r_and (n := 1) rfl rfl rfl (by exact Nat.lt_of_le_of_lt (Nat.div_le_self _ _) hb3) (by decide)) hS ?_
    refine WT_take (dd := some 30) 5 rfl (by kernel_rfl) (by kernel_rfl) (by kernel_rfl) rfl rfl rfl (fun _wq _hq => r_eql rfl rfl) hS ?_
    refine WT_split (dd := some 31) 6 rfl (by kernel_rfl) (by kernel_rfl) (by kernel_rfl) rfl rfl rfl (fun wq hq => r_move (v := .bool _) rfl) hS (fun hs9_6 => ?_) (fun hs9_6 => ?_)
    ·
     try with_reducible replace hs9_6 := of_decide_eq_true hs9_6
     refine WT_take (dd := some 32) 7 rfl (by kernel_rfl) (by kernel_rfl) (by kernel_rfl) rfl rfl rfl (fun _wq hq => r_loadW rfl tb_ag64 rfl (hq.at hm0_0)) hS ?_
     refine WT_take (dd := some 33) 8 rfl (by kernel_rfl) (by kernel_rfl) (by kernel_rfl) rfl rfl rfl (fun _wq _hq => r_move (v := xa) rfl) hS ?_
     refine WT_take (dd := some 34) 9 rfl (by kernel_rfl) (by kernel_rfl) (by kernel_rfl) rfl rfl rfl (fun _wq _hq => r_move (v := .int .i64 _) rfl) hS ?_
     refine WT_take (dd := some 35) 10 rfl (by kernel_rfl) (by kernel_rfl) (by kernel_rfl) rfl rfl rfl (fun _wq _hq => r_move (v := .int .i64 _) rfl) hS ?_
     refine WT_one (dd := some 36) 11 (by kernel_rfl) rfl rfl rfl rfl (Yd.call (r_call3 tb_c128 (v0 := xa) rfl (v1 := .int .i64 _) rfl (v2 := .int .i64 _) rfl) (C_thin_without _ l i k _ (Below.slT hB hl) (by omega) hlr (by omega) (by omega)) (fun v9_11 W55 hE56 hP9_11 => ⟨.inl (hS.trans hE56), ?_⟩))
     have hsz57 := (Below.size hB)
     have sv58_hB := hB
     have sv58_hm0_0 := hm0_0
     have sv58_hm5_3 := hm5_3
     replace hB := below_ext hB hE56 (Nat.le_refl _)
     replace hm0_0 := hE56.at hm0_0
     replace hm5_3 := hE56.at hm5_3
     replace hS := hS.trans hE56
     clear hE56
     replace hP9_11 := OwT.mono hP9_11 hsz57
     clear hsz57
     refine WT_one (dd := some 37) 12 (by kernel_rfl) rfl rfl rfl rfl (Yd.call (r_call2 tb_c66 (v0 := .agg #[_, _, _]) rfl (v1 := v9_11) rfl) (C_spec_Covers S _ _ _ (withL l i k) _ (Below.slT hB hon) (Below.slT hB hmay) hP9_11.sl (by omega) (withL_b hlr (by omega) k) h4) (fun v9_12 W59 hE60 hP9_12 => ⟨.inl (hS.trans hE60), ?_⟩))
     have hsz61 := (Below.size hB)
     replace hB := below_ext hB hE60 (Nat.le_refl _)
     replace hm0_0 := hE60.at hm0_0
     replace hm5_3 := hE60.at hm5_3
     replace hP9_11 := hE60.ow hP9_11
     replace hS := hS.trans hE60
     clear hE60
     clear hsz61
     obtain rfl := hP9_12
     refine WT_take (dd := some 38) 13 rfl (by kernel_rfl) (by kernel_rfl) (by kernel_rfl) rfl rfl rfl (fun _wq _hq => r_pick_t rfl (v := .bool _) rfl) hS ?_
     refine WT_done (by kernel_rfl) ?_
     try clear sv58_hB sv58_hm0_0 sv58_hm5_3
     refine hK52 _ _ ?_
     clear hK52 K51
     refine WC_cond (b := _) rfl (fun hc3 => ?_) (fun hc3 => ?_)
     ·
      try with_reducible replace hc3 := of_decide_eq_true hc3
      refine WC_seq (fun K62 hK63 => ?_)
      refine WC_region ?_
      refine WL_val (dd := some 4) rfl rfl rfl (r_assign (v := .bool false) rfl) ?_
      refine WL_nil ?_
      refine hK63 _ _ ?_
      clear hK63 K62
      refine WC_ret ?_
      repeat (first | refine thenQ_ret ?_ | refine blockQ_ret ?_)
      try clear hK48 K47
      try clear hJ42 J41
      try clear hK28 K27
      try clear hJ22 J21
      try clear hK16 K15
      refine ret_t (v := .bool false) rfl ?_
      refine ⟨hB, ?_⟩
      exact needed_k (i := i) (k := k) (by omega) (by omega) (nb_with hp (by omega) (bit_yes hs9_6) hc3)
     ·
      try with_reducible replace hc3 := of_decide_eq_false hc3
      refine WC_skip ?_
      refine hK48 _ _ ?_
      clear hK48 K47
      refine WC_region ?_
      refine WL_val (dd := some 39) rfl rfl rfl (r_addI rfl rfl (by omega) (by omega)) ?_
      refine WL_val (dd := some 22) rfl rfl rfl (r_move (v := .int .i64 _) rfl) ?_
      refine WL_nil ?_
      refine hJ42 _ _ (k + 1) ?_ ?_ ?_ ?_
      · repeat (first | exact agree.mask _ _ _ | refine agree.updo ?_ rfl _ | refine agree.updL ?_ _ rfl | refine agree.maskS rfl ?_)
      · exact ⟨rfl, trivial⟩
      · exact ⟨hB, hm0_0, hm5_3, (by omega), (upTo_succ hq2 (nb_with hp (by omega) (bit_yes hs9_6) hc3)), trivial⟩
      · first | omega | (dsimp only; omega)
    ·
     try with_reducible replace hs9_6 := of_decide_eq_false hs9_6
     refine WT_pass (dd := some 32) 7 rfl (by kernel_rfl) (by kernel_rfl) (by kernel_rfl) rfl rfl rfl hS ?_
     refine WT_pass (dd := some 33) 8 rfl (by kernel_rfl) (by kernel_rfl) (by kernel_rfl) rfl rfl rfl hS ?_
     refine WT_pass (dd := some 34) 9 rfl (by kernel_rfl) (by kernel_rfl) (by kernel_rfl) rfl rfl rfl hS ?_
     refine WT_pass (dd := some 35) 10 rfl (by kernel_rfl) (by kernel_rfl) (by kernel_rfl) rfl rfl rfl hS ?_
     refine WT_pass (dd := some 36) 11 rfl (by kernel_rfl) (by kernel_rfl) (by kernel_rfl) rfl rfl rfl hS ?_
     refine WT_pass (dd := some 37) 12 rfl (by kernel_rfl) (by kernel_rfl) (by kernel_rfl) rfl rfl rfl hS ?_
     refine WT_take (dd := some 38) 13 rfl (by kernel_rfl) (by kernel_rfl) (by kernel_rfl) rfl rfl rfl (fun _wq _hq => r_pick_f rfl (v := .bool false) rfl) hS ?_
     refine WT_done (by kernel_rfl) ?_
     refine hK52 _ _ ?_
     clear hK52 K51
     refine WC_cond_false rfl ?_
     refine WC_skip ?_
     refine hK48 _ _ ?_
     clear hK48 K47
     refine WC_region ?_
     refine WL_val (dd := some 39) rfl rfl rfl (r_addI rfl rfl (by omega) (by omega)) ?_
     refine WL_val (dd := some 22) rfl rfl rfl (r_move (v := .int .i64 _) rfl) ?_
     refine WL_nil ?_
     refine hJ42 _ _ (k + 1) ?_ ?_ ?_ ?_
     · repeat (first | exact agree.mask _ _ _ | refine agree.updo ?_ rfl _ | refine agree.updL ?_ _ rfl | refine agree.maskS rfl ?_)
     · exact ⟨rfl, trivial⟩
     · exact ⟨hB, hm0_0, hm5_3, (by omega), (upTo_succ hq2 (nb_f1 (Bool.eq_false_iff.2 (bit_not hs9_6)))), trivial⟩
     · first | omega | (dsimp only; omega)
   ·
    try with_reducible replace hc2 := of_decide_eq_false hc2
    refine WC_exit ?_
    refine hK28 _ _ ?_
    clear hK46 K45
    clear hJ42 J41
    clear hK28 K27
    refine WC_region ?_
    refine WL_val (dd := some 40) rfl rfl rfl (r_addI rfl rfl (by omega) (by omega)) ?_
    refine WL_val (dd := some 14) rfl rfl rfl (r_move (v := .int .i64 _) rfl) ?_
    refine WL_nil ?_
    refine hJ22 _ _ (i + 1) ?_ ?_ ?_ ?_
    · repeat (first | exact agree.mask _ _ _ | refine agree.updo ?_ rfl _ | refine agree.updL ?_ _ rfl | refine agree.maskS rfl ?_)
    · exact ⟨rfl, trivial⟩
    · exact ⟨hB, hm0_0, (by omega), (upTo_succ hq (fun q hq => hq2 q (by omega))), trivial⟩
    · first | omega | (dsimp only; omega)
  ·
   try with_reducible replace hc1 := of_decide_eq_false hc1
   refine WC_exit ?_
   refine hK16 _ _ ?_
   clear hK26 K25
   clear hJ22 J21
   clear hK16 K15
   refine WC_seq (fun K64 hK65 => ?_)
   refine WC_region ?_
   refine WL_val (dd := some 4) rfl rfl rfl (r_assign (v := .bool true) rfl) ?_
   refine WL_nil ?_
   refine hK65 _ _ ?_
   clear hK65 K64
   refine WC_ret ?_
   repeat (first | refine thenQ_ret ?_ | refine blockQ_ret ?_)
   refine ret_t (v := .bool true) rfl ?_
   refine ⟨hB, ?_⟩
   obtain rfl : i = l.length := by omega
   exact vb_t (neededR_iff.2 ⟨hc, hq⟩)

end Go.Proofs.Ytdbcijijhhbkaaa
