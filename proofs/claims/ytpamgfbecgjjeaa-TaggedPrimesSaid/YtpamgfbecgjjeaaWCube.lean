/-
  The walks of package cube, and of the document's answer for primes.
-/
import Derived.Test.YtpamgfbecgjjeaaProg
import Derived.Test.YtpamgfbecgjjeaaPrime
import Derived.Test.YtpamgfbecgjjeaaWSet
import Derived.Test.YtpamgfbecgjjeaaWRef
namespace Go.Proofs.Ytpamgfbecgjjeaa
set_option linter.unusedVariables false
set_option linter.unusedSimpArgs false
open Go Go.RowKit

theorem tb_size5 : (Try.prog.info? 5).map (·.size) = some 1 := by kernel_rfl
theorem tb_build55_0_1 {f : Nat → Value} {w : World} {d : Option Nat} {ty : TypeId} {ps : String} {af : Array Edge} {g : Option (Nat × Bool)} {x0 x1 : Operand} {c0_0 c1_0 : Value} (h0 : evF f x0 = c0_0) (k0 : c0_0.cells = #[c0_0]) (h1 : evF f x1 = c1_0) (k1 : c1_0.cells = #[c1_0]) :
    (execOp (evF f) ⟨d, .build 55 #[(0, x0), (1, x1)], ty, ps, af, g⟩).run Try.prog w = .ok (.value (.agg #[c0_0, c1_0])) w := by
  obtain ⟨i0, hi0, hz0⟩ := Option.bind_eq_some_iff.1 (show (Try.prog.info? 55).bind (·.zero) = _ from tb_z55)
  obtain ⟨j5, hj5, hs5⟩ := Option.map_eq_some_iff.1 tb_size5
  simp [execOp, h0, k0, h1, k1, Instr.build, zeroValue, typeInfo, sizeOf, hi0, hz0, run_underlying Try.underlying55, Instr.fill, cells_agg, hj5, hs5]
theorem tb_c135 : callB Try.prog 135 = true := by kernel_rfl
theorem tb_c104 : callB Try.prog 104 = true := by kernel_rfl
theorem tb_c103 : callB Try.prog 103 = true := by kernel_rfl
theorem tb_c102 : callB Try.prog 102 = true := by kernel_rfl

theorem C_cube_plain (m u : Nat) (w : World) (hm : m < 256) (hv : u < 256) :
    Fn Try.prog 135 #[.agg #[.int .u8 (m : Int), .int .u8 (u : Int)]] w fun v w' => v = .agg #[.int .u8 (m : Int), .int .u8 ((u &&& m : Nat) : Int)] := by
 refine Fn_intro (n := 11) Try.func135 rfl rfl (Nat.le_of_ble_eq_true rfl) ?_
 have hB : Below w.heap.size w w := Below.refl _ _
 refine WC_seq (fun K1 hK2 => ?_)
 refine WC_region ?_
 refine WL_step (dd := some 1) rfl rfl rfl (Y_box (c := #[_, _]) rfl rfl (fun b0_0 W3 hb4 hE5 hm0_0 => ?_))
 have lo_b0_0 : w.heap.size ≤ b0_0 := hb4 ▸ (Below.size hB)
 clear hb4
 replace hB := below_ext hB hE5 (Nat.le_refl _)
 clear hE5
 refine WL_step (dd := some 2) rfl rfl rfl (Y_alloc tb_z55 rfl (fun b0_1 W6 hb7 hE8 hm0_1 => ?_))
 have lo_b0_1 : w.heap.size ≤ b0_1 := hb7 ▸ (Below.size hB)
 have ne_b0_0_b0_1 : b0_0 ≠ b0_1 := Nat.ne_of_lt (hb7 ▸ hm0_0.lt)
 clear hb7
 replace hB := below_ext hB hE8 (Nat.le_refl _)
 replace hm0_0 := hE8.at hm0_0
 clear hE8
 refine WL_nil ?_
 refine hK2 _ _ ?_
 clear hK2 K1
 refine WC_seq (fun K9 hK10 => ?_)
 refine WC_region ?_
 refine WL_val (dd := some 3) rfl rfl rfl (r_fieldAddr (b := _) (o := _) rfl tb_fo55_0) ?_
 refine WL_val (dd := some 4) rfl rfl rfl (r_load1 (v := .int .u8 _) rfl tb_sc5 (At.cell hm0_0 rfl)) ?_
 refine WL_val (dd := some 5) rfl rfl rfl (r_fieldAddr (b := _) (o := _) rfl tb_fo55_1) ?_
 refine WL_val (dd := some 6) rfl rfl rfl (r_load1 (v := .int .u8 _) rfl tb_sc5 (At.cell hm0_0 rfl)) ?_
 refine WL_val (dd := some 7) rfl rfl rfl (r_fieldAddr (b := _) (o := _) rfl tb_fo55_0) ?_
 refine WL_val (dd := some 8) rfl rfl rfl (r_load1 (v := .int .u8 _) rfl tb_sc5 (At.cell hm0_0 rfl)) ?_
 refine WL_val (dd := some 9) rfl rfl rfl (r_and (n := _) rfl rfl rfl (by first | assumption | (simp only [topN]; omega) | (simp only [topN]; decide)) (by first | assumption | (simp only [topN]; omega) | (simp only [topN]; decide))) ?_
 refine WL_val (dd := some 10) rfl rfl rfl (tb_build55_0_1 (h0 := rfl) (k0 := rfl) (h1 := rfl) (k1 := rfl) (c0_0 := .int .u8 _) (c1_0 := .int .u8 _)) ?_
 refine WL_step (dd := none) rfl rfl rfl (Y_storeW rfl rfl tb_ag55 rfl hm0_1 rfl (by rfl) (fun W11 hG12 hm13 => ?_))
 replace hB := below_grown hB hG12 (Nat.le_refl _) (fun j hj => by cases hj; exact lo_b0_1)
 replace hm0_0 := At.grownNe hm0_0 ne_b0_0_b0_1 hG12
 clear hG12 hm0_1
 have hm0_1 := hm13
 clear hm13
 refine WL_nil ?_
 refine hK10 _ _ ?_
 clear hK10 K9
 refine WC_ret ?_
 repeat (first | refine thenQ_ret ?_ | refine blockQ_ret ?_)
 refine ret_c rfl tb_ag55 hm0_1 rfl ?_
 refine ⟨hB, ?_⟩
 rfl

theorem C_cube_Without (m u : Nat) (i : Int) (w : World) (hm : m < 256) (hv : u < 256) :
    Fn Try.prog 109 #[.agg #[.int .u8 (m : Int), .int .u8 (u : Int)], .int .i64 i] w fun v w' => v = woV m u i := by
 refine Fn_intro (n := 19) Try.func109 rfl rfl (Nat.le_of_ble_eq_true rfl) ?_
 have hB : Below w.heap.size w w := Below.refl _ _
 refine WC_seq (fun K1 hK2 => ?_)
 refine WC_region ?_
 refine WL_step (dd := some 2) rfl rfl rfl (Y_box (c := #[_, _]) rfl rfl (fun b0_0 W3 hb4 hE5 hm0_0 => ?_))
 have lo_b0_0 : w.heap.size ≤ b0_0 := hb4 ▸ (Below.size hB)
 clear hb4
 replace hB := below_ext hB hE5 (Nat.le_refl _)
 clear hE5
 refine WL_step (dd := some 4) rfl rfl rfl (Y_alloc tb_z55 rfl (fun b0_1 W6 hb7 hE8 hm0_1 => ?_))
 have lo_b0_1 : w.heap.size ≤ b0_1 := hb7 ▸ (Below.size hB)
 have ne_b0_0_b0_1 : b0_0 ≠ b0_1 := Nat.ne_of_lt (hb7 ▸ hm0_0.lt)
 clear hb7
 replace hB := below_ext hB hE8 (Nat.le_refl _)
 replace hm0_0 := hE8.at hm0_0
 clear hE8
 refine WL_nil ?_
 refine hK2 _ _ ?_
 clear hK2 K1
 refine WC_seq (fun K9 hK10 => ?_)
 refine WC_seq (fun K11 hK12 => ?_)
 refine WC_region ?_
 refine WL_val (dd := some 5) rfl rfl rfl (r_move (v := .int .i64 _) rfl) ?_
 refine WL_val (dd := some 6) rfl rfl rfl (r_geq rfl rfl) ?_
 refine WL_split (dd := some 7) rfl rfl rfl (r_move (v := .bool _) rfl) (fun hs1_2 => ?_) (fun hs1_2 => ?_)
 ·
  try with_reducible replace hs1_2 := of_decide_eq_true hs1_2
  refine WL_val (dd := some 8) rfl rfl rfl (r_move (v := .int .i64 _) rfl) ?_
  refine WL_val (dd := some 9) rfl rfl rfl (r_lss rfl rfl) ?_
  refine WL_val (dd := some 10) rfl rfl rfl (r_pick_t rfl (v := .bool _) rfl) ?_
  refine WL_nil ?_
  refine hK12 _ _ ?_
  clear hK12 K11
  refine WC_cond (b := _) rfl (fun hc0 => ?_) (fun hc0 => ?_)
  ·
   try with_reducible replace hc0 := of_decide_eq_true hc0
   have h7 := pow7 (show i.toNat < 8 by omega)
   have hle := andNot_le m (1 * 2 ^ i.toNat)
   refine WC_draw Ext tb_mix (fun W13 hE14 => ?_)
   replace hB := below_ext hB hE14 (Nat.le_refl _)
   replace hm0_0 := hE14.at hm0_0
   replace hm0_1 := hE14.at hm0_1
   have hS := Ext.refl W13
   refine WT_take (dd := some 11) 0 rfl (by kernel_rfl) (by kernel_rfl) (by kernel_rfl) rfl rfl rfl (fun _wq _hq => r_fieldAddr (b := _) (o := _) rfl tb_fo55_0) hS ?_
   refine WT_take (dd := some 12) 1 rfl (by kernel_rfl) (by kernel_rfl) (by kernel_rfl) rfl rfl rfl (fun _wq hq => r_load1 (v := .int .u8 _) rfl tb_sc5 (At.cell (hq.at hm0_0) rfl)) hS ?_
   refine WT_take (dd := some 13) 2 rfl (by kernel_rfl) (by kernel_rfl) (by kernel_rfl) rfl rfl rfl (fun _wq _hq => r_move (v := .int .i64 _) rfl) hS ?_
   refine WT_take (dd := some 14) 3 rfl (by kernel_rfl) (by kernel_rfl) (by kernel_rfl) rfl rfl rfl (fun _wq _hq => r_shl (m := 1) rfl rfl (by omega) (by simp only [IntKind.bits]; omega) (by rw [Nat.one_mul]; simp only [topN]; omega)) hS ?_
   refine WT_take (dd := some 15) 4 rfl (by kernel_rfl) (by kernel_rfl) (by kernel_rfl) rfl rfl rfl (fun _wq _hq => r_andNot (n := _) rfl rfl rfl (by first | assumption | (simp only [topN]; omega) | (simp only [topN]; decide)) (by rw [Nat.one_mul]; simp only [topN]; omega)) hS ?_
   refine WT_take (dd := some 16) 5 rfl (by kernel_rfl) (by kernel_rfl) (by kernel_rfl) rfl rfl rfl (fun _wq _hq => r_fieldAddr (b := _) (o := _) rfl tb_fo55_0) hS ?_
   refine WT_one (dd := none) 6 (by kernel_rfl) rfl rfl rfl rfl (Y_store1 (v := .int .u8 _) rfl rfl tb_sc5 rfl hm0_0 (by simp) (fun W15 hG16 hm17 => ⟨.inr (by kernel_rfl), ?_⟩))
   have sv18_hB := hB
   have sv18_hm0_0 := hm0_0
   have sv18_hm0_1 := hm0_1
   replace hB := below_grown hB hG16 (Nat.le_refl _) (fun j hj => by cases hj; exact lo_b0_0)
   replace hm0_1 := At.grownNe hm0_1 (Ne.symm ne_b0_0_b0_1) hG16
   clear hG16 hm0_0
   have hm0_0 := hm17
   clear hm17
   replace hm0_0 : At _ _ #[_, _] _ := hm0_0
   refine WT_done (by kernel_rfl) ?_
   try clear sv18_hB sv18_hm0_1
   refine hK10 _ _ ?_
   clear hK10 K9
   refine WC_seq (fun K19 hK20 => ?_)
   refine WC_region ?_
   refine WL_val (dd := some 17) rfl rfl rfl (r_loadW rfl tb_ag55 rfl hm0_0) ?_
   refine WL_call (dd := some 18) rfl rfl rfl (r_call1 tb_c135 (v0 := .agg #[_, _]) rfl) (C_cube_plain _ _ _ (by first | omega | assumption) (by first | omega | assumption)) (fun v3_1 W21 hE22 hP3_1 => ?_)
   have hsz23 := (Below.size hB)
   replace hB := below_ext hB hE22 (Nat.le_refl _)
   replace hm0_0 := hE22.at hm0_0
   replace hm0_1 := hE22.at hm0_1
   clear hE22
   clear hsz23
   obtain rfl := hP3_1
   refine WL_step (dd := none) rfl rfl rfl (Y_storeW rfl rfl tb_ag55 rfl hm0_1 rfl (by rfl) (fun W24 hG25 hm26 => ?_))
   replace hB := below_grown hB hG25 (Nat.le_refl _) (fun j hj => by cases hj; exact lo_b0_1)
   replace hm0_0 := At.grownNe hm0_0 ne_b0_0_b0_1 hG25
   clear hG25 hm0_1
   have hm0_1 := hm26
   clear hm26
   refine WL_nil ?_
   refine hK20 _ _ ?_
   clear hK20 K19
   refine WC_ret ?_
   repeat (first | refine thenQ_ret ?_ | refine blockQ_ret ?_)
   refine ret_c rfl tb_ag55 hm0_1 rfl ?_
   refine ⟨hB, ?_⟩
   first | (rw [woV, woM, if_pos (by omega)]; simp only [Nat.one_mul]) | (rw [woV, woM, if_neg (by omega)])
  ·
   try with_reducible replace hc0 := of_decide_eq_false hc0
   refine WC_skip ?_
   refine hK10 _ _ ?_
   clear hK10 K9
   refine WC_seq (fun K27 hK28 => ?_)
   refine WC_region ?_
   refine WL_val (dd := some 17) rfl rfl rfl (r_loadW rfl tb_ag55 rfl hm0_0) ?_
   refine WL_call (dd := some 18) rfl rfl rfl (r_call1 tb_c135 (v0 := .agg #[_, _]) rfl) (C_cube_plain _ _ _ (by first | omega | assumption) (by first | omega | assumption)) (fun v3_1 W29 hE30 hP3_1 => ?_)
   have hsz31 := (Below.size hB)
   replace hB := below_ext hB hE30 (Nat.le_refl _)
   replace hm0_0 := hE30.at hm0_0
   replace hm0_1 := hE30.at hm0_1
   clear hE30
   clear hsz31
   obtain rfl := hP3_1
   refine WL_step (dd := none) rfl rfl rfl (Y_storeW rfl rfl tb_ag55 rfl hm0_1 rfl (by rfl) (fun W32 hG33 hm34 => ?_))
   replace hB := below_grown hB hG33 (Nat.le_refl _) (fun j hj => by cases hj; exact lo_b0_1)
   replace hm0_0 := At.grownNe hm0_0 ne_b0_0_b0_1 hG33
   clear hG33 hm0_1
   have hm0_1 := hm34
   clear hm34
   refine WL_nil ?_
   refine hK28 _ _ ?_
   clear hK28 K27
   refine WC_ret ?_
   repeat (first | refine thenQ_ret ?_ | refine blockQ_ret ?_)
   refine ret_c rfl tb_ag55 hm0_1 rfl ?_
   refine ⟨hB, ?_⟩
   first | (rw [woV, woM, if_pos (by omega)]; simp only [Nat.one_mul]) | (rw [woV, woM, if_neg (by omega)])
 ·
  try with_reducible replace hs1_2 := of_decide_eq_false hs1_2
  refine WL_skip (dd := some 8) rfl rfl rfl ?_
  refine WL_skip (dd := some 9) rfl rfl rfl ?_
  refine WL_val (dd := some 10) rfl rfl rfl (r_pick_f rfl (v := .bool false) rfl) ?_
  refine WL_nil ?_
  refine hK12 _ _ ?_
  clear hK12 K11
  refine WC_cond_false rfl ?_
  refine WC_skip ?_
  refine hK10 _ _ ?_
  clear hK10 K9
  refine WC_seq (fun K35 hK36 => ?_)
  refine WC_region ?_
  refine WL_val (dd := some 17) rfl rfl rfl (r_loadW rfl tb_ag55 rfl hm0_0) ?_
  refine WL_call (dd := some 18) rfl rfl rfl (r_call1 tb_c135 (v0 := .agg #[_, _]) rfl) (C_cube_plain _ _ _ (by first | omega | assumption) (by first | omega | assumption)) (fun v3_1 W37 hE38 hP3_1 => ?_)
  have hsz39 := (Below.size hB)
  replace hB := below_ext hB hE38 (Nat.le_refl _)
  replace hm0_0 := hE38.at hm0_0
  replace hm0_1 := hE38.at hm0_1
  clear hE38
  clear hsz39
  obtain rfl := hP3_1
  refine WL_step (dd := none) rfl rfl rfl (Y_storeW rfl rfl tb_ag55 rfl hm0_1 rfl (by rfl) (fun W40 hG41 hm42 => ?_))
  replace hB := below_grown hB hG41 (Nat.le_refl _) (fun j hj => by cases hj; exact lo_b0_1)
  replace hm0_0 := At.grownNe hm0_0 ne_b0_0_b0_1 hG41
  clear hG41 hm0_1
  have hm0_1 := hm42
  clear hm42
  refine WL_nil ?_
  refine hK36 _ _ ?_
  clear hK36 K35
  refine WC_ret ?_
  repeat (first | refine thenQ_ret ?_ | refine blockQ_ret ?_)
  refine ret_c rfl tb_ag55 hm0_1 rfl ?_
  refine ⟨hB, ?_⟩
  first | (rw [woV, woM, if_pos (by omega)]; simp only [Nat.one_mul]) | (rw [woV, woM, if_neg (by omega)])

theorem C_drawkniferef09_Of (s : Nat) (n : Int) (w : World) :
    Fn Try.prog 60 #[setV s, .int .i64 n] w fun v w' => v = .bool (ofB s n) := by
 refine Fn_intro (n := 18) Try.func60 rfl rfl (Nat.le_of_ble_eq_true rfl) ?_
 have hB : Below w.heap.size w w := Below.refl _ _
 refine WC_seq (fun K1 hK2 => ?_)
 refine WC_region ?_
 refine WL_step (dd := some 2) rfl rfl rfl (Y_box (c := #[_, _, _, _]) rfl rfl (fun b0_0 W3 hb4 hE5 hm0_0 => ?_))
 have lo_b0_0 : w.heap.size ≤ b0_0 := hb4 ▸ (Below.size hB)
 clear hb4
 replace hB := below_ext hB hE5 (Nat.le_refl _)
 clear hE5
 refine WL_val (dd := some 4) rfl rfl rfl (r_assign (v := .bool false) rfl) ?_
 refine WL_nil ?_
 refine hK2 _ _ ?_
 clear hK2 K1
 refine WC_seq (fun K6 hK7 => ?_)
 refine WC_draw Ext tb_mix (fun W8 hE9 => ?_)
 replace hB := below_ext hB hE9 (Nat.le_refl _)
 replace hm0_0 := hE9.at hm0_0
 have hS := Ext.refl W8
 refine WT_take (dd := some 5) 0 rfl (by kernel_rfl) (by kernel_rfl) (by kernel_rfl) rfl rfl rfl (fun _wq _hq => r_move (v := .int .i64 _) rfl) hS ?_
 refine WT_take (dd := some 6) 1 rfl (by kernel_rfl) (by kernel_rfl) (by kernel_rfl) rfl rfl rfl (fun _wq _hq => r_geq rfl rfl) hS ?_
 refine WT_split (dd := some 7) 2 rfl (by kernel_rfl) (by kernel_rfl) (by kernel_rfl) rfl rfl rfl (fun wq hq => r_move (v := .bool _) rfl) hS (fun hs1_2 => ?_) (fun hs1_2 => ?_)
 ·
  try with_reducible replace hs1_2 := of_decide_eq_true hs1_2
  refine WT_take (dd := some 8) 3 rfl (by kernel_rfl) (by kernel_rfl) (by kernel_rfl) rfl rfl rfl (fun _wq _hq => r_move (v := .int .i64 _) rfl) hS ?_
  refine WT_take (dd := some 9) 4 rfl (by kernel_rfl) (by kernel_rfl) (by kernel_rfl) rfl rfl rfl (fun _wq _hq => r_leq rfl rfl) hS ?_
  refine WT_take (dd := some 10) 5 rfl (by kernel_rfl) (by kernel_rfl) (by kernel_rfl) rfl rfl rfl (fun _wq _hq => r_pick_t rfl (v := .bool _) rfl) hS ?_
  refine WT_split (dd := some 11) 6 rfl (by kernel_rfl) (by kernel_rfl) (by kernel_rfl) rfl rfl rfl (fun wq hq => r_move (v := .bool _) rfl) hS (fun hs1_6 => ?_) (fun hs1_6 => ?_)
  ·
   try with_reducible replace hs1_6 := of_decide_eq_true hs1_6
   refine WT_take (dd := some 12) 7 rfl (by kernel_rfl) (by kernel_rfl) (by kernel_rfl) rfl rfl rfl (fun _wq hq => r_loadW rfl tb_ag69 rfl (hq.at hm0_0)) hS ?_
   refine WT_take (dd := some 13) 8 rfl (by kernel_rfl) (by kernel_rfl) (by kernel_rfl) rfl rfl rfl (fun _wq _hq => r_move (v := .int .i64 _) rfl) hS ?_
   refine WT_one (dd := some 14) 9 (by kernel_rfl) rfl rfl rfl rfl (Yd.call (r_call1 tb_c104 (v0 := .int .i64 _) rfl) (C_drawkniferef01_All _ _ (by first | assumption | omega) (by first | assumption | omega)) (fun v1_9 W10 hE11 hP1_9 => ⟨.inl (hS.trans hE11), ?_⟩))
   have hsz12 := (Below.size hB)
   have sv13_hB := hB
   have sv13_hm0_0 := hm0_0
   replace hB := below_ext hB hE11 (Nat.le_refl _)
   replace hm0_0 := hE11.at hm0_0
   replace hS := hS.trans hE11
   clear hE11
   replace hP1_9 := OwT.mono hP1_9 hsz12
   clear hsz12
   refine WT_one (dd := some 15) 10 (by kernel_rfl) rfl rfl rfl rfl (Yd.call (r_call1 tb_c103 (v0 := v1_9) rfl) (C_drawkniferef01_Set _ _ _ hP1_9.sl (by first | with_reducible assumption | with_reducible exact firstF_len _ | with_reducible exact ptF_len _ _ _ _ | simp)) (fun v1_10 W14 hE15 hP1_10 => ⟨.inl (hS.trans hE15), ?_⟩))
   have hsz16 := (Below.size hB)
   replace hB := below_ext hB hE15 (Nat.le_refl _)
   replace hm0_0 := hE15.at hm0_0
   replace hP1_9 := hE15.ow hP1_9
   replace hS := hS.trans hE15
   clear hE15
   clear hsz16
   obtain rfl := hP1_10
   refine WT_one (dd := some 16) 11 (by kernel_rfl) rfl rfl rfl rfl (Yd.call (r_call2 tb_c102 (v0 := .agg #[_, _, _, _]) rfl (v1 := .agg #[_, _, _, _]) rfl) (C_drawkniferef01_Within _ _ _) (fun v1_11 W17 hE18 hP1_11 => ⟨.inl (hS.trans hE18), ?_⟩))
   have hsz19 := (Below.size hB)
   replace hB := below_ext hB hE18 (Nat.le_refl _)
   replace hm0_0 := hE18.at hm0_0
   replace hP1_9 := hE18.ow hP1_9
   replace hS := hS.trans hE18
   clear hE18
   clear hsz19
   obtain rfl := hP1_11
   refine WT_take (dd := some 17) 12 rfl (by kernel_rfl) (by kernel_rfl) (by kernel_rfl) rfl rfl rfl (fun _wq _hq => r_pick_t rfl (v := .bool _) rfl) hS ?_
   refine WT_take (dd := some 4) 13 rfl (by kernel_rfl) (by kernel_rfl) (by kernel_rfl) rfl rfl rfl (fun _wq _hq => r_assign (v := .bool _) rfl) hS ?_
   refine WT_done (by kernel_rfl) ?_
   try clear sv13_hB sv13_hm0_0
   refine hK7 _ _ ?_
   clear hK7 K6
   refine WC_ret ?_
   repeat (first | refine thenQ_ret ?_ | refine blockQ_ret ?_)
   refine ret_t (v := .bool _) rfl ?_
   refine ⟨hB, ?_⟩
   first | exact congrArg Value.bool (ofB_t (by assumption) (by assumption)) | exact congrArg Value.bool (ofB_f (by first | exact .inl (by assumption) | exact .inr (by assumption)))
  ·
   try with_reducible replace hs1_6 := of_decide_eq_false hs1_6
   refine WT_pass (dd := some 12) 7 rfl (by kernel_rfl) (by kernel_rfl) (by kernel_rfl) rfl rfl rfl hS ?_
   refine WT_pass (dd := some 13) 8 rfl (by kernel_rfl) (by kernel_rfl) (by kernel_rfl) rfl rfl rfl hS ?_
   refine WT_pass (dd := some 14) 9 rfl (by kernel_rfl) (by kernel_rfl) (by kernel_rfl) rfl rfl rfl hS ?_
   refine WT_pass (dd := some 15) 10 rfl (by kernel_rfl) (by kernel_rfl) (by kernel_rfl) rfl rfl rfl hS ?_
   refine WT_pass (dd := some 16) 11 rfl (by kernel_rfl) (by kernel_rfl) (by kernel_rfl) rfl rfl rfl hS ?_
   refine WT_take (dd := some 17) 12 rfl (by kernel_rfl) (by kernel_rfl) (by kernel_rfl) rfl rfl rfl (fun _wq _hq => r_pick_f rfl (v := .bool false) rfl) hS ?_
   refine WT_take (dd := some 4) 13 rfl (by kernel_rfl) (by kernel_rfl) (by kernel_rfl) rfl rfl rfl (fun _wq _hq => r_assign (v := .bool false) rfl) hS ?_
   refine WT_done (by kernel_rfl) ?_
   refine hK7 _ _ ?_
   clear hK7 K6
   refine WC_ret ?_
   repeat (first | refine thenQ_ret ?_ | refine blockQ_ret ?_)
   refine ret_t (v := .bool false) rfl ?_
   refine ⟨hB, ?_⟩
   first | exact congrArg Value.bool (ofB_t (by assumption) (by assumption)) | exact congrArg Value.bool (ofB_f (by first | exact .inl (by assumption) | exact .inr (by assumption)))
 ·
  try with_reducible replace hs1_2 := of_decide_eq_false hs1_2
  refine WT_pass (dd := some 8) 3 rfl (by kernel_rfl) (by kernel_rfl) (by kernel_rfl) rfl rfl rfl hS ?_
  refine WT_pass (dd := some 9) 4 rfl (by kernel_rfl) (by kernel_rfl) (by kernel_rfl) rfl rfl rfl hS ?_
  refine WT_take (dd := some 10) 5 rfl (by kernel_rfl) (by kernel_rfl) (by kernel_rfl) rfl rfl rfl (fun _wq _hq => r_pick_f rfl (v := .bool false) rfl) hS ?_
  refine WT_take (dd := some 11) 6 rfl (by kernel_rfl) (by kernel_rfl) (by kernel_rfl) rfl rfl rfl (fun _wq _hq => r_move (v := .bool false) rfl) hS ?_
  refine WT_pass (dd := some 12) 7 rfl (by kernel_rfl) (by kernel_rfl) (by kernel_rfl) rfl rfl rfl hS ?_
  refine WT_pass (dd := some 13) 8 rfl (by kernel_rfl) (by kernel_rfl) (by kernel_rfl) rfl rfl rfl hS ?_
  refine WT_pass (dd := some 14) 9 rfl (by kernel_rfl) (by kernel_rfl) (by kernel_rfl) rfl rfl rfl hS ?_
  refine WT_pass (dd := some 15) 10 rfl (by kernel_rfl) (by kernel_rfl) (by kernel_rfl) rfl rfl rfl hS ?_
  refine WT_pass (dd := some 16) 11 rfl (by kernel_rfl) (by kernel_rfl) (by kernel_rfl) rfl rfl rfl hS ?_
  refine WT_take (dd := some 17) 12 rfl (by kernel_rfl) (by kernel_rfl) (by kernel_rfl) rfl rfl rfl (fun _wq _hq => r_pick_f rfl (v := .bool false) rfl) hS ?_
  refine WT_take (dd := some 4) 13 rfl (by kernel_rfl) (by kernel_rfl) (by kernel_rfl) rfl rfl rfl (fun _wq _hq => r_assign (v := .bool false) rfl) hS ?_
  refine WT_done (by kernel_rfl) ?_
  refine hK7 _ _ ?_
  clear hK7 K6
  refine WC_ret ?_
  repeat (first | refine thenQ_ret ?_ | refine blockQ_ret ?_)
  refine ret_t (v := .bool false) rfl ?_
  refine ⟨hB, ?_⟩
  first | exact congrArg Value.bool (ofB_t (by assumption) (by assumption)) | exact congrArg Value.bool (ofB_f (by first | exact .inl (by assumption) | exact .inr (by assumption)))

end Go.Proofs.Ytpamgfbecgjjeaa
