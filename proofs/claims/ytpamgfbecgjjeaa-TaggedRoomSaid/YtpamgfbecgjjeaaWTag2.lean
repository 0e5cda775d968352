/-
  The walks of rows, members, and the family of primes as it is asked for.
-/
import Derived.Test.YtpamgfbecgjjeaaProg
import Derived.Test.YtpamgfbecgjjeaaWTag
import Derived.Test.YtpamgfbecgjjeaaWAll
import Derived.Test.YtpamgfbecgjjeaaWRef08
import Derived.Test.YtpamgfbecgjjeaaT5
namespace Go.Proofs.Ytpamgfbecgjjeaa
set_option linter.unusedVariables false
set_option linter.unusedSimpArgs false
open Go Go.RowKit

theorem tb_fo57_0 : fieldO Try.prog 57 0 = some 0 := by kernel_rfl
theorem tb_fo57_1 : fieldO Try.prog 57 1 = some 2 := by kernel_rfl
theorem tb_z57 : zeroI Try.prog 57 = some (.agg #[.int .u8 0, .int .u8 0, .int .u8 0]) := by kernel_rfl
theorem tb_size55 : (Try.prog.info? 55).map (·.size) = some 2 := by kernel_rfl
theorem tb_build57_ {f : Nat → Value} {w : World} {d : Option Nat} {ty : TypeId} {ps : String} {af : Array Edge} {g : Option (Nat × Bool)}    :
    (execOp (evF f) ⟨d, .build 57 #[], ty, ps, af, g⟩).run Try.prog w = .ok (.value (.agg #[.int .u8 0, .int .u8 0, .int .u8 0])) w := by
  obtain ⟨i0, hi0, hz0⟩ := Option.bind_eq_some_iff.1 (show (Try.prog.info? 57).bind (·.zero) = _ from tb_z57)
  obtain ⟨j5, hj5, hs5⟩ := Option.map_eq_some_iff.1 tb_size5
  obtain ⟨j55, hj55, hs55⟩ := Option.map_eq_some_iff.1 tb_size55
  simp [execOp, Instr.build, zeroValue, typeInfo, sizeOf, hi0, hz0, run_underlying Try.underlying57, Instr.fill, cells_agg, hj5, hs5, hj55, hs55]
theorem tb_ag57 : aggN Try.prog 57 = some 3 := by kernel_rfl
theorem tb_build57_1 {f : Nat → Value} {w : World} {d : Option Nat} {ty : TypeId} {ps : String} {af : Array Edge} {g : Option (Nat × Bool)} {x0 : Operand} {c0_0 : Value} (h0 : evF f x0 = c0_0) (k0 : c0_0.cells = #[c0_0]) :
    (execOp (evF f) ⟨d, .build 57 #[(1, x0)], ty, ps, af, g⟩).run Try.prog w = .ok (.value (.agg #[.int .u8 0, .int .u8 0, c0_0])) w := by
  obtain ⟨i0, hi0, hz0⟩ := Option.bind_eq_some_iff.1 (show (Try.prog.info? 57).bind (·.zero) = _ from tb_z57)
  obtain ⟨j5, hj5, hs5⟩ := Option.map_eq_some_iff.1 tb_size5
  obtain ⟨j55, hj55, hs55⟩ := Option.map_eq_some_iff.1 tb_size55
  simp [execOp, h0, k0, Instr.build, zeroValue, typeInfo, sizeOf, hi0, hz0, run_underlying Try.underlying57, Instr.fill, cells_agg, hj5, hs5, hj55, hs55]
theorem tb_z128 : zeroI Try.prog 128 = some (.agg #[.pointer none, .int .i64 0]) := by kernel_rfl
theorem tb_size29 : (Try.prog.info? 29).map (·.size) = some 1 := by kernel_rfl
theorem tb_build128_0 {f : Nat → Value} {w : World} {d : Option Nat} {ty : TypeId} {ps : String} {af : Array Edge} {g : Option (Nat × Bool)} {x0 : Operand} {c0_0 : Value} (h0 : evF f x0 = c0_0) (k0 : c0_0.cells = #[c0_0]) :
    (execOp (evF f) ⟨d, .build 128 #[(0, x0)], ty, ps, af, g⟩).run Try.prog w = .ok (.value (.agg #[c0_0, .int .i64 0])) w := by
  obtain ⟨i0, hi0, hz0⟩ := Option.bind_eq_some_iff.1 (show (Try.prog.info? 128).bind (·.zero) = _ from tb_z128)
  obtain ⟨j24, hj24, hs24⟩ := Option.map_eq_some_iff.1 tb_size24
  obtain ⟨j29, hj29, hs29⟩ := Option.map_eq_some_iff.1 tb_size29
  simp [execOp, h0, k0, Instr.build, zeroValue, typeInfo, sizeOf, hi0, hz0, run_underlying Try.underlying128, Instr.fill, cells_agg, hj24, hs24, hj29, hs29]
theorem tb_c98 : callB Try.prog 98 = true := by kernel_rfl
theorem tb_c97 : callB Try.prog 97 = true := by kernel_rfl
theorem tb_c94 : callB Try.prog 94 = true := by kernel_rfl
theorem tb_c54 : callB Try.prog 54 = true := by kernel_rfl
theorem tb_el75 : elemI Try.prog 75 = some (57, 3, 3) := by kernel_rfl
theorem tb_c52 : callB Try.prog 52 = true := by kernel_rfl
theorem tb_c21 : callB Try.prog 21 = true := by kernel_rfl

theorem C_tagged_Member (x : Rw) (w : World) (hbx : x.c.m < 256 ∧ x.c.v < 256 ∧ x.o < 256) :
    Fn Try.prog 51 #[.agg #[.int .u8 (x.c.m : Int), .int .u8 (x.c.v : Int), .int .u8 (x.o : Int)]] w fun v w' => v = .int .i64 ((memRw x : Nat) : Int) := by
 refine Fn_intro (n := 36) Try.func51 rfl rfl (Nat.le_of_ble_eq_true rfl) ?_
 have hB : Below w.heap.size w w := Below.refl _ _
 obtain ⟨hb1, hb2, hb3⟩ := hbx
 refine WC_seq (fun K1 hK2 => ?_)
 refine WC_region ?_
 refine WL_step (dd := some 1) rfl rfl rfl (Y_box (c := #[_, _, _]) rfl rfl (fun b0_0 W3 hb4 hE5 hm0_0 => ?_))
 have lo_b0_0 : w.heap.size ≤ b0_0 := hb4 ▸ (Below.size hB)
 clear hb4
 replace hB := below_ext hB hE5 (Nat.le_refl _)
 clear hE5
 refine WL_val (dd := some 2) rfl rfl rfl (r_assign (v := .int .i64 0) rfl) ?_
 refine WL_nil ?_
 refine hK2 _ _ ?_
 clear hK2 K1
 refine WC_seq (fun K6 hK7 => ?_)
 refine WC_region ?_
 refine WL_val (dd := some 3) rfl rfl rfl (r_assign (v := .int .i64 0) rfl) ?_
 refine WL_nil ?_
 refine hK7 _ _ ?_
 clear hK7 K6
 refine WC_seq (fun K8 hK9 => ?_)
 refine WC_seq (fun K10 hK11 => ?_)
 refine WC_region ?_
 refine WL_val (dd := some 5) rfl rfl rfl (r_move (v := .int .i64 0) rfl) ?_
 refine WL_nil ?_
 refine hK11 _ _ ?_
 clear hK11 K10
 refine WC_block ?_
 refine WC_loop (σ := (Nat)) [3, 4, 5, 6, 7, 8, 9, 10, 11, 12, 13, 14, 15, 16, 17, 18, 19, 20, 21, 22, 23, 24, 25, 26, 27, 28] (fun i => [(5, .int .i64 (i : Int)), (3, .int .i64 ((memT x.c.m x.c.v i : Nat) : Int))]) (fun i W => (Below w.heap.size w W) ∧ (At W b0_0 _ 57) ∧ (i ≤ 8) ∧ (True)) (fun i => 8 - i) (0) ⟨rfl, rfl, trivial⟩ ⟨hB, hm0_0, (Nat.zero_le _), trivial⟩ ?_
 clear hB hm0_0
 rintro i g13 W12 ⟨hB, hm0_0, hi, _⟩ J14 hJ15
 refine WC_seq (fun K16 hK17 => ?_)
 refine WC_region ?_
 refine WL_val (dd := some 6) rfl rfl rfl (r_lss rfl rfl) ?_
 refine WL_nil ?_
 refine hK17 _ _ ?_
 clear hK17 K16
 refine WC_seq (fun K18 hK19 => ?_)
 refine WC_cond (b := _) rfl (fun hc0 => ?_) (fun hc0 => ?_)
 ·
  try with_reducible replace hc0 := of_decide_eq_true hc0
  refine WC_skip ?_
  refine hK19 _ _ ?_
  clear hK19 K18
  refine WC_seq (fun K20 hK21 => ?_)
  refine WC_block ?_
  refine WC_seq (fun K22 hK23 => ?_)
  refine WC_region ?_
  refine WL_val (dd := some 7) rfl rfl rfl (r_move (v := .int .i64 _) rfl) ?_
  refine WL_val (dd := some 4) rfl rfl rfl (r_assign (v := .int .i64 _) rfl) ?_
  refine WL_nil ?_
  refine hK23 _ _ ?_
  clear hK23 K22
  refine WC_seq (fun K24 hK25 => ?_)
  have hd1 := Nat.div_le_self x.c.m (2 ^ ((i : Nat) : Int).toNat)
  refine WC_region ?_
  refine WL_val (dd := some 8) rfl rfl rfl (r_fieldAddr (b := _) (o := _) rfl tb_fo57_0) ?_
  refine WL_val (dd := some 9) rfl rfl rfl (r_fieldAddr (b := _) (o := _) rfl tb_fo55_0) ?_
  refine WL_val (dd := some 10) rfl rfl rfl (r_load1 (v := .int .u8 _) rfl tb_sc5 (At.cell hm0_0 rfl)) ?_
  refine WL_val (dd := some 11) rfl rfl rfl (r_move (v := .int .i64 _) rfl) ?_
  refine WL_val (dd := some 12) rfl rfl rfl (r_shr rfl rfl (by omega) (by simp only [IntKind.bits]; omega)) ?_
  refine WL_val (dd := some 13) rfl rfl rfl (r_and (n := 1) rfl rfl rfl (by simp only [topN]; omega) (by decide)) ?_
  refine WL_val (dd := some 14) rfl rfl rfl (r_eql rfl rfl) ?_
  refine WL_nil ?_
  refine hK25 _ _ ?_
  clear hK25 K24
  refine WC_cond (b := _) rfl (fun hc1 => ?_) (fun hc1 => ?_)
  ·
   try with_reducible replace hc1 := of_decide_eq_true hc1
   have hv0 := Nat.div_le_self x.c.v (2 ^ ((i : Nat) : Int).toNat)
   have hv1 := and1_le (x.c.v / 2 ^ ((i : Nat) : Int).toNat)
   have hml := memT_16 x.c.m x.c.v (show i ≤ 8 by omega)
   refine WC_region ?_
   refine WL_val (dd := some 15) rfl rfl rfl (r_move (v := .int .i64 _) rfl) ?_
   refine WL_val (dd := some 16) rfl rfl rfl (r_move (v := .int .i64 _) rfl) ?_
   refine WL_val (dd := some 17) rfl rfl rfl (r_mulI rfl rfl (by omega) (by omega)) ?_
   refine WL_val (dd := some 18) rfl rfl rfl (r_fieldAddr (b := _) (o := _) rfl tb_fo57_0) ?_
   refine WL_val (dd := some 19) rfl rfl rfl (r_fieldAddr (b := _) (o := _) rfl tb_fo55_1) ?_
   refine WL_val (dd := some 20) rfl rfl rfl (r_load1 (v := .int .u8 _) rfl tb_sc5 (At.cell hm0_0 rfl)) ?_
   refine WL_val (dd := some 21) rfl rfl rfl (r_move (v := .int .i64 _) rfl) ?_
   refine WL_val (dd := some 22) rfl rfl rfl (r_shr rfl rfl (by omega) (by simp only [IntKind.bits]; omega)) ?_
   refine WL_val (dd := some 23) rfl rfl rfl (r_and (n := 1) rfl rfl rfl (by simp only [topN]; omega) (by decide)) ?_
   refine WL_val (dd := some 24) rfl rfl rfl (r_convN rfl Try.underlying5 Try.underlying3 (by simp only [topN]; omega)) ?_
   refine WL_val (dd := some 25) rfl rfl rfl (r_addI rfl rfl (by omega) (by omega)) ?_
   refine WL_val (dd := some 26) rfl rfl rfl (r_shl (m := 1) rfl rfl (by omega) (by simp only [IntKind.bits]; omega) (by exact Nat.lt_trans (shl15 (by omega)) (by decide))) ?_
   refine WL_val (dd := some 27) rfl rfl rfl (r_or (n := _) rfl rfl rfl (by simp only [topN]; omega) (by exact Nat.lt_trans (shl15 (by omega)) (by decide))) ?_
   refine WL_val (dd := some 3) rfl rfl rfl (r_assign (v := .int .i64 _) rfl) ?_
   refine WL_nil ?_
   refine hK21 _ _ ?_
   clear hK21 K20
   refine WC_region ?_
   refine WL_val (dd := some 28) rfl rfl rfl (r_addI rfl rfl (by omega) (by omega)) ?_
   refine WL_val (dd := some 5) rfl rfl rfl (r_move (v := .int .i64 _) rfl) ?_
   refine WL_nil ?_
   refine hJ15 _ _ (i + 1) ?_ ?_ ?_ ?_
   · repeat (first | exact agree.mask _ _ _ | refine agree.updo ?_ rfl _ | refine agree.updL ?_ _ rfl | refine agree.maskS rfl ?_)
   · exact ⟨rfl, (by first | exact congrArg (fun z : Nat => Value.int .i64 (z : Int)) (mem_s (bit_u8.1 hc1)) | exact congrArg (fun z : Nat => Value.int .i64 (z : Int)) (memT_skip _ _ _ (Bool.eq_false_iff.2 fun h => hc1 (bit_u8.2 h)))), trivial⟩
   · exact ⟨hB, hm0_0, (by omega), trivial⟩
   · first | omega | (dsimp only; omega)
  ·
   try with_reducible replace hc1 := of_decide_eq_false hc1
   refine WC_skip ?_
   refine hK21 _ _ ?_
   clear hK21 K20
   refine WC_region ?_
   refine WL_val (dd := some 28) rfl rfl rfl (r_addI rfl rfl (by omega) (by omega)) ?_
   refine WL_val (dd := some 5) rfl rfl rfl (r_move (v := .int .i64 _) rfl) ?_
   refine WL_nil ?_
   refine hJ15 _ _ (i + 1) ?_ ?_ ?_ ?_
   · repeat (first | exact agree.mask _ _ _ | refine agree.updo ?_ rfl _ | refine agree.updL ?_ _ rfl | refine agree.maskS rfl ?_)
   · exact ⟨rfl, (by first | exact congrArg (fun z : Nat => Value.int .i64 (z : Int)) (mem_s (bit_u8.1 hc1)) | exact congrArg (fun z : Nat => Value.int .i64 (z : Int)) (memT_skip _ _ _ (Bool.eq_false_iff.2 fun h => hc1 (bit_u8.2 h)))), trivial⟩
   · exact ⟨hB, hm0_0, (by omega), trivial⟩
   · first | omega | (dsimp only; omega)
 ·
  try with_reducible replace hc0 := of_decide_eq_false hc0
  refine WC_exit ?_
  refine hK9 _ _ ?_
  clear hK19 K18
  clear hJ15 J14
  clear hK9 K8
  refine WC_seq (fun K26 hK27 => ?_)
  obtain rfl : i = 8 := by omega
  have hml := memT_16 x.c.m x.c.v (show 8 ≤ 8 by omega)
  have ho := and15_le x.o
  refine WC_region ?_
  refine WL_val (dd := some 29) rfl rfl rfl (r_move (v := .int .i64 _) rfl) ?_
  refine WL_val (dd := some 30) rfl rfl rfl (r_fieldAddr (b := _) (o := _) rfl tb_fo57_1) ?_
  refine WL_val (dd := some 31) rfl rfl rfl (r_load1 (v := .int .u8 _) rfl tb_sc5 (At.cell hm0_0 rfl)) ?_
  refine WL_val (dd := some 32) rfl rfl rfl (r_and (n := 15) rfl rfl rfl (by simp only [topN]; omega) (by decide)) ?_
  refine WL_val (dd := some 33) rfl rfl rfl (r_convN rfl Try.underlying5 Try.underlying3 (by simp only [topN]; omega)) ?_
  refine WL_val (dd := some 34) rfl rfl rfl (r_shl (m := _) rfl rfl (by omega) (by simp only [IntKind.bits]; omega) (by show (x.o &&& 15) * 65536 < _; simp only [topN]; omega)) ?_
  refine WL_val (dd := some 35) rfl rfl rfl (r_or (n := _) rfl rfl rfl (by simp only [topN]; omega) (by show (x.o &&& 15) * 65536 < _; simp only [topN]; omega)) ?_
  refine WL_val (dd := some 2) rfl rfl rfl (r_assign (v := .int .i64 _) rfl) ?_
  refine WL_nil ?_
  refine hK27 _ _ ?_
  clear hK27 K26
  refine WC_ret ?_
  repeat (first | refine thenQ_ret ?_ | refine blockQ_ret ?_)
  refine ret_t (v := .int .i64 _) rfl ?_
  refine ⟨hB, ?_⟩
  exact congrArg (fun z : Nat => Value.int .i64 (z : Int)) (mem_e x.c x.o)

theorem C_tagged_Row (m : Int) (w : World) :
    Fn Try.prog 49 #[.int .i64 m] w fun v w' => v = .tuple #[rowV (rowR m), .int .i64 (if rwOk m = true then 0 else 1)] := by
 refine Fn_intro (n := 63) Try.func49 rfl rfl (Nat.le_of_ble_eq_true rfl) ?_
 have hB : Below w.heap.size w w := Below.refl _ _
 refine WC_seq (fun K1 hK2 => ?_)
 refine WC_region ?_
 refine WL_step (dd := some 2) rfl rfl rfl (Y_alloc tb_z57 rfl (fun b0_0 W3 hb4 hE5 hm0_0 => ?_))
 have lo_b0_0 : w.heap.size ≤ b0_0 := hb4 ▸ (Below.size hB)
 clear hb4
 replace hB := below_ext hB hE5 (Nat.le_refl _)
 clear hE5
 refine WL_val (dd := some 3) rfl rfl rfl (r_assign (v := .int .i64 0) rfl) ?_
 refine WL_nil ?_
 refine hK2 _ _ ?_
 clear hK2 K1
 refine WC_seq (fun K6 hK7 => ?_)
 refine WC_seq (fun K8 hK9 => ?_)
 refine WC_region ?_
 refine WL_val (dd := some 6) rfl rfl rfl (r_move (v := .int .i64 _) rfl) ?_
 refine WL_val (dd := some 7) rfl rfl rfl (r_lss rfl rfl) ?_
 refine WL_split (dd := some 8) rfl rfl rfl (r_move (v := .bool _) rfl) (fun hs1_2 => ?_) (fun hs1_2 => ?_)
 ·
  try with_reducible replace hs1_2 := of_decide_eq_true hs1_2
  refine WL_skip (dd := some 9) rfl rfl rfl ?_
  refine WL_skip (dd := some 10) rfl rfl rfl ?_
  refine WL_val (dd := some 11) rfl rfl rfl (r_pick_t rfl (v := .bool true) rfl) ?_
  refine WL_val (dd := some 12) rfl rfl rfl (r_move (v := .bool true) rfl) ?_
  refine WL_skip (dd := some 13) rfl rfl rfl ?_
  refine WL_skip (dd := some 14) rfl rfl rfl ?_
  refine WL_skip (dd := some 15) rfl rfl rfl ?_
  refine WL_val (dd := some 16) rfl rfl rfl (r_pick_t rfl (v := .bool true) rfl) ?_
  refine WL_nil ?_
  refine hK9 _ _ ?_
  clear hK9 K8
  refine WC_cond_true rfl ?_
  refine WC_seq (fun K10 hK11 => ?_)
  refine WC_region ?_
  refine WL_val (dd := some 17) rfl rfl rfl (tb_build57_ ) ?_
  refine WL_step (dd := none) rfl rfl rfl (Y_storeW rfl rfl tb_ag57 rfl hm0_0 rfl (by rfl) (fun W12 hG13 hm14 => ?_))
  replace hB := below_grown hB hG13 (Nat.le_refl _) (fun j hj => by cases hj; exact lo_b0_0)
  clear hG13 hm0_0
  have hm0_0 := hm14
  clear hm14
  refine WL_val (dd := some 3) rfl rfl rfl (r_assign (v := .int .i64 1) rfl) ?_
  refine WL_nil ?_
  refine hK11 _ _ ?_
  clear hK11 K10
  refine WC_ret ?_
  repeat (first | refine thenQ_ret ?_ | refine blockQ_ret ?_)
  try clear hK7 K6
  refine ret_ct rfl tb_ag57 hm0_0 rfl (v1 := .int .i64 1) rfl ?_
  refine ⟨hB, ?_⟩
  exact row_no (rw_f1 (by omega))
 ·
  try with_reducible replace hs1_2 := of_decide_eq_false hs1_2
  refine WL_val (dd := some 9) rfl rfl rfl (r_move (v := .int .i64 _) rfl) ?_
  refine WL_val (dd := some 10) rfl rfl rfl (r_geq rfl rfl) ?_
  refine WL_val (dd := some 11) rfl rfl rfl (r_pick_f rfl (v := .bool _) rfl) ?_
  refine WL_split (dd := some 12) rfl rfl rfl (r_move (v := .bool _) rfl) (fun hs1_6 => ?_) (fun hs1_6 => ?_)
  ·
   try with_reducible replace hs1_6 := of_decide_eq_true hs1_6
   refine WL_skip (dd := some 13) rfl rfl rfl ?_
   refine WL_skip (dd := some 14) rfl rfl rfl ?_
   refine WL_skip (dd := some 15) rfl rfl rfl ?_
   refine WL_val (dd := some 16) rfl rfl rfl (r_pick_t rfl (v := .bool true) rfl) ?_
   refine WL_nil ?_
   refine hK9 _ _ ?_
   clear hK9 K8
   refine WC_cond_true rfl ?_
   refine WC_seq (fun K15 hK16 => ?_)
   refine WC_region ?_
   refine WL_val (dd := some 17) rfl rfl rfl (tb_build57_ ) ?_
   refine WL_step (dd := none) rfl rfl rfl (Y_storeW rfl rfl tb_ag57 rfl hm0_0 rfl (by rfl) (fun W17 hG18 hm19 => ?_))
   replace hB := below_grown hB hG18 (Nat.le_refl _) (fun j hj => by cases hj; exact lo_b0_0)
   clear hG18 hm0_0
   have hm0_0 := hm19
   clear hm19
   refine WL_val (dd := some 3) rfl rfl rfl (r_assign (v := .int .i64 1) rfl) ?_
   refine WL_nil ?_
   refine hK16 _ _ ?_
   clear hK16 K15
   refine WC_ret ?_
   repeat (first | refine thenQ_ret ?_ | refine blockQ_ret ?_)
   try clear hK7 K6
   refine ret_ct rfl tb_ag57 hm0_0 rfl (v1 := .int .i64 1) rfl ?_
   refine ⟨hB, ?_⟩
   exact row_no (rw_f2 (by omega))
  ·
   try with_reducible replace hs1_6 := of_decide_eq_false hs1_6
   refine WL_val (dd := some 13) rfl rfl rfl (r_move (v := .int .i64 _) rfl) ?_
   refine WL_val (dd := some 14) rfl rfl rfl (r_shrI rfl rfl (by omega) (by decide) (by decide)) ?_
   refine WL_val (dd := some 15) rfl rfl rfl (r_eql rfl rfl) ?_
   refine WL_val (dd := some 16) rfl rfl rfl (r_pick_f rfl (v := .bool _) rfl) ?_
   refine WL_nil ?_
   refine hK9 _ _ ?_
   clear hK9 K8
   refine WC_cond (b := _) rfl (fun hc0 => ?_) (fun hc0 => ?_)
   ·
    try with_reducible replace hc0 := of_decide_eq_true hc0
    refine WC_seq (fun K20 hK21 => ?_)
    refine WC_region ?_
    refine WL_val (dd := some 17) rfl rfl rfl (tb_build57_ ) ?_
    refine WL_step (dd := none) rfl rfl rfl (Y_storeW rfl rfl tb_ag57 rfl hm0_0 rfl (by rfl) (fun W22 hG23 hm24 => ?_))
    replace hB := below_grown hB hG23 (Nat.le_refl _) (fun j hj => by cases hj; exact lo_b0_0)
    clear hG23 hm0_0
    have hm0_0 := hm24
    clear hm24
    refine WL_val (dd := some 3) rfl rfl rfl (r_assign (v := .int .i64 1) rfl) ?_
    refine WL_nil ?_
    refine hK21 _ _ ?_
    clear hK21 K20
    refine WC_ret ?_
    repeat (first | refine thenQ_ret ?_ | refine blockQ_ret ?_)
    try clear hK7 K6
    refine ret_ct rfl tb_ag57 hm0_0 rfl (v1 := .int .i64 1) rfl ?_
    refine ⟨hB, ?_⟩
    exact row_no (rw_f1 (by have := row_zero hc0; omega))
   ·
    try with_reducible replace hc0 := of_decide_eq_false hc0
    refine WC_skip ?_
    refine hK7 _ _ ?_
    clear hK7 K6
    refine WC_seq (fun K25 hK26 => ?_)
    have hm0 : 0 ≤ m := by omega
    have hm1 : m < 1048576 := by omega
    have hm2 := row_ge hc0
    have hmd : m.toNat / 2 ^ ((16 : Int)).toNat < 16 := by
      show m.toNat / 65536 < 16
      omega
    refine WC_region ?_
    refine WL_val (dd := some 18) rfl rfl rfl (r_move (v := .int .i64 _) rfl) ?_
    refine WL_val (dd := some 19) rfl rfl rfl (r_shrI rfl rfl (by omega) (by decide) (by decide)) ?_
    refine WL_val (dd := some 20) rfl rfl rfl (r_convN rfl Try.underlying3 Try.underlying5 (by simp only [topN]; omega)) ?_
    refine WL_val (dd := some 21) rfl rfl rfl (tb_build57_1 (h0 := rfl) (k0 := rfl) (c0_0 := .int .u8 _)) ?_
    refine WL_step (dd := some 4) rfl rfl rfl (Y_alloc tb_z57 rfl (fun b3_4 W27 hb28 hE29 hm3_4 => ?_))
    have lo_b3_4 : w.heap.size ≤ b3_4 := hb28 ▸ (Below.size hB)
    have ne_b0_0_b3_4 : b0_0 ≠ b3_4 := Nat.ne_of_lt (hb28 ▸ hm0_0.lt)
    clear hb28
    replace hB := below_ext hB hE29 (Nat.le_refl _)
    replace hm0_0 := hE29.at hm0_0
    clear hE29
    refine WL_step (dd := none) rfl rfl rfl (Y_storeW rfl rfl tb_ag57 rfl hm3_4 rfl (by rfl) (fun W30 hG31 hm32 => ?_))
    replace hB := below_grown hB hG31 (Nat.le_refl _) (fun j hj => by cases hj; exact lo_b3_4)
    replace hm0_0 := At.grownNe hm0_0 ne_b0_0_b3_4 hG31
    clear hG31 hm3_4
    have hm3_4 := hm32
    clear hm32
    refine WL_nil ?_
    refine hK26 _ _ ?_
    clear hK26 K25
    refine WC_seq (fun K33 hK34 => ?_)
    refine WC_seq (fun K35 hK36 => ?_)
    refine WC_region ?_
    refine WL_val (dd := some 22) rfl rfl rfl (r_move (v := .int .i64 0) rfl) ?_
    refine WL_nil ?_
    refine hK36 _ _ ?_
    clear hK36 K35
    refine WC_block ?_
    refine WC_loop (σ := (Nat)) [3, 5, 22, 23, 24, 25, 26, 27, 28, 29, 30, 31, 32, 33, 34, 35, 36, 37, 38, 39, 40, 41, 42, 43, 44, 45, 46, 47, 48, 49, 50, 51, 52, 53, 54, 55, 56, 57, 58, 59, 60, 61] (fun k => [(22, .int .i64 (k : Int))]) (fun k W => (Below w.heap.size w W) ∧ (At W b0_0 _ 57) ∧ (At W b3_4 #[.int .u8 ((mkT m.toNat k : Nat) : Int), .int .u8 ((vlT m.toNat k : Nat) : Int), .int .u8 ((m.toNat / 65536 : Nat) : Int)] 57) ∧ (k ≤ 8) ∧ (∀ q, q < k → ¬ dgt m.toNat q = 3) ∧ (True)) (fun k => 8 - k) (0) ⟨rfl, trivial⟩ ⟨hB, hm0_0, hm3_4, (Nat.zero_le _), upTo_zero, trivial⟩ ?_
    clear hB hm0_0 hm3_4
    rintro k g38 W37 ⟨hB, hm0_0, hrw, hk, hq, _⟩ J39 hJ40
    refine WC_seq (fun K41 hK42 => ?_)
    refine WC_region ?_
    refine WL_val (dd := some 23) rfl rfl rfl (r_lss rfl rfl) ?_
    refine WL_nil ?_
    refine hK42 _ _ ?_
    clear hK42 K41
    refine WC_seq (fun K43 hK44 => ?_)
    refine WC_cond (b := _) rfl (fun hc1 => ?_) (fun hc1 => ?_)
    ·
     try with_reducible replace hc1 := of_decide_eq_true hc1
     refine WC_skip ?_
     refine hK44 _ _ ?_
     clear hK44 K43
     refine WC_seq (fun K45 hK46 => ?_)
     refine WC_block ?_
     refine WC_seq (fun K47 hK48 => ?_)
     refine WC_region ?_
     refine WL_val (dd := some 24) rfl rfl rfl (r_move (v := .int .i64 _) rfl) ?_
     refine WL_val (dd := some 5) rfl rfl rfl (r_assign (v := .int .i64 _) rfl) ?_
     refine WL_nil ?_
     refine hK48 _ _ ?_
     clear hK48 K47
     refine WC_seq (fun K49 hK50 => ?_)
     have hdl := Nat.div_le_self m.toNat (2 ^ (2 * (k : Int)).toNat)
     have hmt : m.toNat < topN .i64 := by simp only [topN]; omega
     refine WC_region ?_
     refine WL_val (dd := some 25) rfl rfl rfl (r_move (v := .int .i64 _) rfl) ?_
     refine WL_val (dd := some 26) rfl rfl rfl (r_move (v := .int .i64 _) rfl) ?_
     refine WL_val (dd := some 27) rfl rfl rfl (r_mulI rfl rfl (by omega) (by omega)) ?_
     refine WL_val (dd := some 28) rfl rfl rfl (r_shrI rfl rfl hm0 (by omega) (by omega)) ?_
     refine WL_val (dd := some 29) rfl rfl rfl (r_and (n := 3) rfl rfl rfl (by exact Nat.lt_of_le_of_lt hdl hmt) (by decide)) ?_
     refine WL_nil ?_
     refine hK50 _ _ ?_
     clear hK50 K49
     refine WC_block ?_
     refine WC_seq (fun K51 hK52 => ?_)
     refine WC_region ?_
     refine WL_val (dd := some 31) rfl rfl rfl (r_eql rfl rfl) ?_
     refine WL_val (dd := some 30) rfl rfl rfl (r_assign (v := .bool _) rfl) ?_
     refine WL_nil ?_
     refine hK52 _ _ ?_
     clear hK52 K51
     refine WC_cond (b := _) rfl (fun hc2 => ?_) (fun hc2 => ?_)
     ·
      try with_reducible replace hc2 := of_decide_eq_true hc2
      have hmk := mkT_lt m.toNat k
      have h7 := pow7 (show k < 8 by omega)
      refine WC_draw Ext tb_mix (fun W53 hE54 => ?_)
      replace hB := below_ext hB hE54 (Nat.le_refl _)
      replace hm0_0 := hE54.at hm0_0
      replace hrw := hE54.at hrw
      have hS := Ext.refl W53
      refine WT_take (dd := some 32) 0 rfl (by kernel_rfl) (by kernel_rfl) (by kernel_rfl) rfl rfl rfl (fun _wq _hq => r_fieldAddr (b := _) (o := _) rfl tb_fo57_0) hS ?_
      refine WT_take (dd := some 33) 1 rfl (by kernel_rfl) (by kernel_rfl) (by kernel_rfl) rfl rfl rfl (fun _wq _hq => r_fieldAddr (b := _) (o := _) rfl tb_fo55_0) hS ?_
      refine WT_take (dd := some 34) 2 rfl (by kernel_rfl) (by kernel_rfl) (by kernel_rfl) rfl rfl rfl (fun _wq hq => r_load1 (v := .int .u8 _) rfl tb_sc5 (At.cell (hq.at hrw) rfl)) hS ?_
      refine WT_take (dd := some 35) 3 rfl (by kernel_rfl) (by kernel_rfl) (by kernel_rfl) rfl rfl rfl (fun _wq _hq => r_move (v := .int .i64 _) rfl) hS ?_
      refine WT_take (dd := some 36) 4 rfl (by kernel_rfl) (by kernel_rfl) (by kernel_rfl) rfl rfl rfl (fun _wq _hq => r_shl (m := 1) rfl rfl (by omega) (by simp only [IntKind.bits]; omega) (by simp only [topN, Int.toNat_natCast, Nat.one_mul]; omega)) hS ?_
      refine WT_take (dd := some 37) 5 rfl (by kernel_rfl) (by kernel_rfl) (by kernel_rfl) rfl rfl rfl (fun _wq _hq => r_or (n := _) rfl rfl rfl (by simp only [topN]; omega) (by simp only [topN, Int.toNat_natCast, Nat.one_mul]; omega)) hS ?_
      refine WT_take (dd := some 38) 6 rfl (by kernel_rfl) (by kernel_rfl) (by kernel_rfl) rfl rfl rfl (fun _wq _hq => r_fieldAddr (b := _) (o := _) rfl tb_fo57_0) hS ?_
      refine WT_take (dd := some 39) 7 rfl (by kernel_rfl) (by kernel_rfl) (by kernel_rfl) rfl rfl rfl (fun _wq _hq => r_fieldAddr (b := _) (o := _) rfl tb_fo55_0) hS ?_
      refine WT_one (dd := none) 8 (by kernel_rfl) rfl rfl rfl rfl (Y_store1 (v := .int .u8 _) rfl rfl tb_sc5 rfl hrw (by simp) (fun W55 hG56 hm57 => ⟨.inr (by kernel_rfl), ?_⟩))
      have sv58_hB := hB
      have sv58_hm0_0 := hm0_0
      have sv58_hrw := hrw
      replace hB := below_grown hB hG56 (Nat.le_refl _) (fun j hj => by cases hj; exact lo_b3_4)
      replace hm0_0 := At.grownNe hm0_0 ne_b0_0_b3_4 hG56
      clear hG56 hrw
      have hrw := hm57
      clear hm57
      replace hrw : At _ _ #[_, _, _] _ := hrw
      refine WT_done (by kernel_rfl) ?_
      try clear sv58_hB sv58_hm0_0
      refine hK46 _ _ ?_
      clear hK46 K45
      have hd : dgt m.toNat k = 1 := dg_n hc2
      refine WC_region ?_
      refine WL_val (dd := some 61) rfl rfl rfl (r_addI rfl rfl (by omega) (by omega)) ?_
      refine WL_val (dd := some 22) rfl rfl rfl (r_move (v := .int .i64 _) rfl) ?_
      refine WL_nil ?_
      refine hJ40 _ _ (k + 1) ?_ ?_ ?_ ?_
      · repeat (first | exact agree.mask _ _ _ | refine agree.updo ?_ rfl _ | refine agree.updL ?_ _ rfl | refine agree.maskS rfl ?_)
      · exact ⟨rfl, trivial⟩
      · exact ⟨hB, hm0_0, (by first | (rw [← mkT_or (.inl hd), ← vlT_skip (by omega)]; exact hrw) | (rw [← mkT_or (.inr hd), ← vlT_or hd]; exact hrw) | (rw [← mkT_skip (by omega), ← vlT_skip (by omega)]; exact hrw)), (by omega), (upTo_succ hq (by omega)), trivial⟩
      · first | omega | (dsimp only; omega)
     ·
      try with_reducible replace hc2 := of_decide_eq_false hc2
      refine WC_seq (fun K59 hK60 => ?_)
      refine WC_region ?_
      refine WL_val (dd := some 41) rfl rfl rfl (r_eql rfl rfl) ?_
      refine WL_val (dd := some 40) rfl rfl rfl (r_assign (v := .bool _) rfl) ?_
      refine WL_nil ?_
      refine hK60 _ _ ?_
      clear hK60 K59
      refine WC_cond (b := _) rfl (fun hc3 => ?_) (fun hc3 => ?_)
      ·
       try with_reducible replace hc3 := of_decide_eq_true hc3
       refine WC_seq (fun K61 hK62 => ?_)
       have hmk := mkT_lt m.toNat k
       have hvk := vlT_lt m.toNat k
       have h7 := pow7 (show k < 8 by omega)
       refine WC_draw Ext tb_mix (fun W63 hE64 => ?_)
       replace hB := below_ext hB hE64 (Nat.le_refl _)
       replace hm0_0 := hE64.at hm0_0
       replace hrw := hE64.at hrw
       have hS := Ext.refl W63
       refine WT_take (dd := some 42) 0 rfl (by kernel_rfl) (by kernel_rfl) (by kernel_rfl) rfl rfl rfl (fun _wq _hq => r_fieldAddr (b := _) (o := _) rfl tb_fo57_0) hS ?_
       refine WT_take (dd := some 43) 1 rfl (by kernel_rfl) (by kernel_rfl) (by kernel_rfl) rfl rfl rfl (fun _wq _hq => r_fieldAddr (b := _) (o := _) rfl tb_fo55_0) hS ?_
       refine WT_take (dd := some 44) 2 rfl (by kernel_rfl) (by kernel_rfl) (by kernel_rfl) rfl rfl rfl (fun _wq hq => r_load1 (v := .int .u8 _) rfl tb_sc5 (At.cell (hq.at hrw) rfl)) hS ?_
       refine WT_take (dd := some 45) 3 rfl (by kernel_rfl) (by kernel_rfl) (by kernel_rfl) rfl rfl rfl (fun _wq _hq => r_move (v := .int .i64 _) rfl) hS ?_
       refine WT_take (dd := some 46) 4 rfl (by kernel_rfl) (by kernel_rfl) (by kernel_rfl) rfl rfl rfl (fun _wq _hq => r_shl (m := 1) rfl rfl (by omega) (by simp only [IntKind.bits]; omega) (by simp only [topN, Int.toNat_natCast, Nat.one_mul]; omega)) hS ?_
       refine WT_take (dd := some 47) 5 rfl (by kernel_rfl) (by kernel_rfl) (by kernel_rfl) rfl rfl rfl (fun _wq _hq => r_or (n := _) rfl rfl rfl (by simp only [topN]; omega) (by simp only [topN, Int.toNat_natCast, Nat.one_mul]; omega)) hS ?_
       refine WT_take (dd := some 48) 6 rfl (by kernel_rfl) (by kernel_rfl) (by kernel_rfl) rfl rfl rfl (fun _wq _hq => r_fieldAddr (b := _) (o := _) rfl tb_fo57_0) hS ?_
       refine WT_take (dd := some 49) 7 rfl (by kernel_rfl) (by kernel_rfl) (by kernel_rfl) rfl rfl rfl (fun _wq _hq => r_fieldAddr (b := _) (o := _) rfl tb_fo55_0) hS ?_
       refine WT_one (dd := none) 8 (by kernel_rfl) rfl rfl rfl rfl (Y_store1 (v := .int .u8 _) rfl rfl tb_sc5 rfl hrw (by simp) (fun W65 hG66 hm67 => ⟨.inr (by kernel_rfl), ?_⟩))
       have sv68_hB := hB
       have sv68_hm0_0 := hm0_0
       have sv68_hrw := hrw
       replace hB := below_grown hB hG66 (Nat.le_refl _) (fun j hj => by cases hj; exact lo_b3_4)
       replace hm0_0 := At.grownNe hm0_0 ne_b0_0_b3_4 hG66
       clear hG66 hrw
       have hrw := hm67
       clear hm67
       replace hrw : At _ _ #[_, _, _] _ := hrw
       refine WT_done (by kernel_rfl) ?_
       try clear sv68_hB sv68_hm0_0
       refine hK62 _ _ ?_
       clear hK62 K61
       refine WC_draw Ext tb_mix (fun W69 hE70 => ?_)
       replace hB := below_ext hB hE70 (Nat.le_refl _)
       replace hm0_0 := hE70.at hm0_0
       replace hrw := hE70.at hrw
       have hS := Ext.refl W69
       refine WT_take (dd := some 50) 0 rfl (by kernel_rfl) (by kernel_rfl) (by kernel_rfl) rfl rfl rfl (fun _wq _hq => r_fieldAddr (b := _) (o := _) rfl tb_fo57_0) hS ?_
       refine WT_take (dd := some 51) 1 rfl (by kernel_rfl) (by kernel_rfl) (by kernel_rfl) rfl rfl rfl (fun _wq _hq => r_fieldAddr (b := _) (o := _) rfl tb_fo55_1) hS ?_
       refine WT_take (dd := some 52) 2 rfl (by kernel_rfl) (by kernel_rfl) (by kernel_rfl) rfl rfl rfl (fun _wq hq => r_load1 (v := .int .u8 _) rfl tb_sc5 (At.cell (hq.at hrw) rfl)) hS ?_
       refine WT_take (dd := some 53) 3 rfl (by kernel_rfl) (by kernel_rfl) (by kernel_rfl) rfl rfl rfl (fun _wq _hq => r_move (v := .int .i64 _) rfl) hS ?_
       refine WT_take (dd := some 54) 4 rfl (by kernel_rfl) (by kernel_rfl) (by kernel_rfl) rfl rfl rfl (fun _wq _hq => r_shl (m := 1) rfl rfl (by omega) (by simp only [IntKind.bits]; omega) (by simp only [topN, Int.toNat_natCast, Nat.one_mul]; omega)) hS ?_
       refine WT_take (dd := some 55) 5 rfl (by kernel_rfl) (by kernel_rfl) (by kernel_rfl) rfl rfl rfl (fun _wq _hq => r_or (n := _) rfl rfl rfl (by simp only [topN]; omega) (by simp only [topN, Int.toNat_natCast, Nat.one_mul]; omega)) hS ?_
       refine WT_take (dd := some 56) 6 rfl (by kernel_rfl) (by kernel_rfl) (by kernel_rfl) rfl rfl rfl (fun _wq _hq => r_fieldAddr (b := _) (o := _) rfl tb_fo57_0) hS ?_
       refine WT_take (dd := some 57) 7 rfl (by kernel_rfl) (by kernel_rfl) (by kernel_rfl) rfl rfl rfl (fun _wq _hq => r_fieldAddr (b := _) (o := _) rfl tb_fo55_1) hS ?_
       refine WT_one (dd := none) 8 (by kernel_rfl) rfl rfl rfl rfl (Y_store1 (v := .int .u8 _) rfl rfl tb_sc5 rfl hrw (by simp) (fun W71 hG72 hm73 => ⟨.inr (by kernel_rfl), ?_⟩))
       have sv74_hB := hB
       have sv74_hm0_0 := hm0_0
       have sv74_hrw := hrw
       replace hB := below_grown hB hG72 (Nat.le_refl _) (fun j hj => by cases hj; exact lo_b3_4)
       replace hm0_0 := At.grownNe hm0_0 ne_b0_0_b3_4 hG72
       clear hG72 hrw
       have hrw := hm73
       clear hm73
       replace hrw : At _ _ #[_, _, _] _ := hrw
       refine WT_done (by kernel_rfl) ?_
       try clear sv74_hB sv74_hm0_0
       refine hK46 _ _ ?_
       clear hK46 K45
       have hd : dgt m.toNat k = 2 := dg_n hc3
       refine WC_region ?_
       refine WL_val (dd := some 61) rfl rfl rfl (r_addI rfl rfl (by omega) (by omega)) ?_
       refine WL_val (dd := some 22) rfl rfl rfl (r_move (v := .int .i64 _) rfl) ?_
       refine WL_nil ?_
       refine hJ40 _ _ (k + 1) ?_ ?_ ?_ ?_
       · repeat (first | exact agree.mask _ _ _ | refine agree.updo ?_ rfl _ | refine agree.updL ?_ _ rfl | refine agree.maskS rfl ?_)
       · exact ⟨rfl, trivial⟩
       · exact ⟨hB, hm0_0, (by first | (rw [← mkT_or (.inl hd), ← vlT_skip (by omega)]; exact hrw) | (rw [← mkT_or (.inr hd), ← vlT_or hd]; exact hrw) | (rw [← mkT_skip (by omega), ← vlT_skip (by omega)]; exact hrw)), (by omega), (upTo_succ hq (by omega)), trivial⟩
       · first | omega | (dsimp only; omega)
      ·
       try with_reducible replace hc3 := of_decide_eq_false hc3
       refine WC_seq (fun K75 hK76 => ?_)
       refine WC_region ?_
       refine WL_val (dd := some 59) rfl rfl rfl (r_eql rfl rfl) ?_
       refine WL_val (dd := some 58) rfl rfl rfl (r_assign (v := .bool _) rfl) ?_
       refine WL_nil ?_
       refine hK76 _ _ ?_
       clear hK76 K75
       refine WC_cond (b := _) rfl (fun hc4 => ?_) (fun hc4 => ?_)
       ·
        try with_reducible replace hc4 := of_decide_eq_true hc4
        refine WC_seq (fun K77 hK78 => ?_)
        refine WC_region ?_
        refine WL_val (dd := some 60) rfl rfl rfl (tb_build57_ ) ?_
        refine WL_step (dd := none) rfl rfl rfl (Y_storeW rfl rfl tb_ag57 rfl hm0_0 rfl (by rfl) (fun W79 hG80 hm81 => ?_))
        replace hB := below_grown hB hG80 (Nat.le_refl _) (fun j hj => by cases hj; exact lo_b0_0)
        replace hrw := At.grownNe hrw (Ne.symm ne_b0_0_b3_4) hG80
        clear hG80 hm0_0
        have hm0_0 := hm81
        clear hm81
        refine WL_val (dd := some 3) rfl rfl rfl (r_assign (v := .int .i64 1) rfl) ?_
        refine WL_nil ?_
        refine hK78 _ _ ?_
        clear hK78 K77
        refine WC_ret ?_
        repeat (first | refine thenQ_ret ?_ | refine blockQ_ret ?_)
        try clear hK46 K45
        try clear hJ40 J39
        try clear hK34 K33
        refine ret_ct rfl tb_ag57 hm0_0 rfl (v1 := .int .i64 1) rfl ?_
        refine ⟨hB, ?_⟩
        exact row_no (rw_f3 (k := k) (by omega) (dg_n hc4))
       ·
        try with_reducible replace hc4 := of_decide_eq_false hc4
        refine WC_skip ?_
        refine hK46 _ _ ?_
        clear hK46 K45
        have hd : dgt m.toNat k = 0 := by
          have h1 := and3_le (m.toNat / 2 ^ (2 * (k : Int)).toNat)
          rw [← dg_i]
          omega
        refine WC_region ?_
        refine WL_val (dd := some 61) rfl rfl rfl (r_addI rfl rfl (by omega) (by omega)) ?_
        refine WL_val (dd := some 22) rfl rfl rfl (r_move (v := .int .i64 _) rfl) ?_
        refine WL_nil ?_
        refine hJ40 _ _ (k + 1) ?_ ?_ ?_ ?_
        · repeat (first | exact agree.mask _ _ _ | refine agree.updo ?_ rfl _ | refine agree.updL ?_ _ rfl | refine agree.maskS rfl ?_)
        · exact ⟨rfl, trivial⟩
        · exact ⟨hB, hm0_0, (by first | (rw [← mkT_or (.inl hd), ← vlT_skip (by omega)]; exact hrw) | (rw [← mkT_or (.inr hd), ← vlT_or hd]; exact hrw) | (rw [← mkT_skip (by omega), ← vlT_skip (by omega)]; exact hrw)), (by omega), (upTo_succ hq (by omega)), trivial⟩
        · first | omega | (dsimp only; omega)
    ·
     try with_reducible replace hc1 := of_decide_eq_false hc1
     refine WC_exit ?_
     refine hK34 _ _ ?_
     clear hK44 K43
     clear hJ40 J39
     clear hK34 K33
     refine WC_seq (fun K82 hK83 => ?_)
     refine WC_region ?_
     refine WL_val (dd := some 62) rfl rfl rfl (r_loadW rfl tb_ag57 rfl hrw) ?_
     refine WL_step (dd := none) rfl rfl rfl (Y_storeW rfl rfl tb_ag57 rfl hm0_0 rfl (by rfl) (fun W84 hG85 hm86 => ?_))
     replace hB := below_grown hB hG85 (Nat.le_refl _) (fun j hj => by cases hj; exact lo_b0_0)
     replace hrw := At.grownNe hrw (Ne.symm ne_b0_0_b3_4) hG85
     clear hG85 hm0_0
     have hm0_0 := hm86
     clear hm86
     refine WL_val (dd := some 3) rfl rfl rfl (r_assign (v := .int .i64 0) rfl) ?_
     refine WL_nil ?_
     refine hK83 _ _ ?_
     clear hK83 K82
     refine WC_ret ?_
     repeat (first | refine thenQ_ret ?_ | refine blockQ_ret ?_)
     refine ret_ct rfl tb_ag57 hm0_0 rfl (v1 := .int .i64 0) rfl ?_
     refine ⟨hB, ?_⟩
     obtain rfl : k = 8 := by omega
     exact row_yes (rw_t hm2 hm1 rfl hq)

theorem PrAll : ∀ q, PrAt q
  | 0 => fun N ba bm bz bc R ns e s n i w _ _ _ _ _ _ hfr hn => by
    have := hfr.le
    omega
  | q + 1 => fun N ba bm bz bc R ns e s n i w => C_primes q N ba bm bz bc R ns e s n i w (PrAll q)

set_option maxRecDepth 10000 in
theorem C_tagged_Primes (N ba bm bz R : Nat) (ns : List Nd) (s n : Nat) (w : World) (hN0 : N ≤ w.heap.size) (hz : At w bz #[.pointer (some ⟨ba, 0, none⟩)] 100) (hD : Dia 147 150 N ba bm R w ns) (hof : ofB s (n : Int) = true) :
    FnG Try.prog 61 #[.pointer (some ⟨bz, 0, none⟩), setV s, .int .i64 (n : Int)] w fun v w' => PW 147 150 N ba bm R w ns (PrO R ns n s) v w' := by
 refine FnG_intro (n := 47) Try.func61 rfl rfl (Nat.le_of_ble_eq_true rfl) ?_
 have hB : Below N w w := Below.refl _ _
 have hX : Dx 150 N [ba, bm] w w := Dx.refl
 have hwf := hD.wf
 have hroom := hD.room
 have htop := hD.top
 obtain ⟨h8, hfr⟩ := of_fre hof
 have hwi := of_within hof
 refine WC_seq (fun K1 hK2 => ?_)
 refine WC_region ?_
 refine WL_step (dd := some 4) rfl rfl rfl (Y_box (c := #[_, _, _, _]) rfl rfl (fun b0_0 W3 hb4 hE5 hm0_0 => ?_))
 have lo_b0_0 : N ≤ b0_0 := hb4 ▸ (Nat.le_trans hN0 (Below.size hB))
 have lz_b0_0 : w.heap.size ≤ b0_0 := hb4 ▸ hX.size
 clear hb4
 replace hz := hE5.at hz
 replace hD := Dia.ext hE5 hD
 replace hX := Dx.trans hX (Dx.ext hE5)
 replace hB := below_ext hB hE5 hN0
 clear hE5
 refine WL_val (dd := some 6) rfl rfl rfl (r_assign (v := .int .i64 0) rfl) ?_
 refine WL_val (dd := some 7) rfl rfl rfl (r_assign (v := .int .i64 0) rfl) ?_
 refine WL_nil ?_
 refine hK2 _ _ ?_
 clear hK2 K1
 refine WC_seq (fun K6 hK7 => ?_)
 refine WC_region ?_
 refine WL_val (dd := some 13) rfl rfl rfl (r_move (v := .int .i64 _) rfl) ?_
 refine WL_call (dd := some 14) rfl rfl rfl (r_call1 tb_c105 (v0 := .int .i64 _) rfl) (C_set_All _ _) (fun v1_1 W8 hE9 hP1_1 => ?_)
 have hsz10 := (Nat.le_trans hN0 (Below.size hB))
 replace hz := hE9.at hz
 replace hD := Dia.ext hE9 hD
 replace hX := Dx.trans hX (Dx.ext hE9)
 replace hB := below_ext hB hE9 hN0
 replace hm0_0 := hE9.at hm0_0
 clear hE9
 obtain rfl := all_val h8 hP1_1
 clear hsz10
 refine WL_val (dd := some 12) rfl rfl rfl (r_move (v := .tuple #[.agg #[_, _, _, _], .int .i64 0]) rfl) ?_
 refine WL_val (dd := some 15) rfl rfl rfl (r_ext2_0 (h := rfl)) ?_
 refine WL_val (dd := some 16) rfl rfl rfl (r_ext2_1 (h := rfl)) ?_
 refine WL_step (dd := some 8) rfl rfl rfl (Y_alloc tb_z69 rfl (fun b1_5 W11 hb12 hE13 hm1_5 => ?_))
 have lo_b1_5 : N ≤ b1_5 := hb12 ▸ (Nat.le_trans hN0 (Below.size hB))
 have ne_b0_0_b1_5 : b0_0 ≠ b1_5 := Nat.ne_of_lt (hb12 ▸ hm0_0.lt)
 have lz_b1_5 : w.heap.size ≤ b1_5 := hb12 ▸ hX.size
 clear hb12
 replace hz := hE13.at hz
 replace hD := Dia.ext hE13 hD
 replace hX := Dx.trans hX (Dx.ext hE13)
 replace hB := below_ext hB hE13 hN0
 replace hm0_0 := hE13.at hm0_0
 clear hE13
 replace hm1_5 : At W11 b1_5 #[wv 0 0, wv 0 1, wv 0 2, wv 0 3] 69 := hm1_5
 refine WL_step (dd := none) rfl rfl rfl (Y_storeW rfl rfl tb_ag69 rfl hm1_5 rfl (by rfl) (fun W14 hG15 hm16 => ?_))
 replace hz := At.grownAt hz hm1_5 hG15 (by decide)
 replace hD := Dia.grownAt hD hm1_5 hG15 (by decide) (by decide)
 replace hX := Dx.new1 hX lz_b1_5 (Dx.grown hG15 (List.mem_cons_self ..) lo_b1_5)
 replace hB := below_grown hB hG15 hN0 (fun j hj => by cases hj; exact lo_b1_5)
 replace hm0_0 := At.grownNe hm0_0 ne_b0_0_b1_5 hG15
 clear hG15 hm1_5
 have hm1_5 := hm16
 clear hm16
 refine WL_val (dd := some 9) rfl rfl rfl (r_assign (v := .int .i64 0) rfl) ?_
 refine WL_nil ?_
 refine hK7 _ _ ?_
 clear hK7 K6
 refine WC_seq (fun K17 hK18 => ?_)
 refine WC_seq (fun K19 hK20 => ?_)
 refine WC_region ?_
 refine WL_val (dd := some 17) rfl rfl rfl (r_move (v := .pointer (some ⟨bz, 0, none⟩)) rfl) ?_
 refine WL_val (dd := some 18) rfl rfl rfl (r_ptrNil rfl rfl Try.underlying24) ?_
 refine WL_val (dd := some 19) rfl rfl rfl (r_move (v := .bool false) rfl) ?_
 refine WL_val (dd := some 20) rfl rfl rfl (r_move (v := .int .i64 0) rfl) ?_
 refine WL_val (dd := some 21) rfl rfl rfl (r_neq rfl rfl) ?_
 refine WL_val (dd := some 22) rfl rfl rfl (r_pick_f rfl (v := .bool _) rfl) ?_
 refine WL_split (dd := some 23) rfl rfl rfl (r_move (v := .bool _) rfl) (fun hs2_6 => ?_) (fun hs2_6 => ?_)
 ·
  try with_reducible replace hs2_6 := of_decide_eq_true hs2_6
  exact absurd rfl hs2_6
 ·
  try with_reducible replace hs2_6 := of_decide_eq_false hs2_6
  refine WL_val (dd := some 24) rfl rfl rfl (r_loadW rfl tb_ag69 rfl hm0_0) ?_
  refine WL_val (dd := some 25) rfl rfl rfl (r_loadW rfl tb_ag69 rfl hm1_5) ?_
  refine WL_call (dd := some 26) rfl rfl rfl (r_call2 tb_c106 (v0 := .agg #[_, _, _, _]) rfl (v1 := .agg #[_, _, _, _]) rfl) (C_set_Within _ _ _) (fun v2_9 W21 hE22 hP2_9 => ?_)
  have hsz23 := (Nat.le_trans hN0 (Below.size hB))
  replace hz := hE22.at hz
  replace hD := Dia.ext hE22 hD
  replace hX := Dx.trans hX (Dx.ext hE22)
  replace hB := below_ext hB hE22 hN0
  replace hm0_0 := hE22.at hm0_0
  replace hm1_5 := hE22.at hm1_5
  clear hE22
  clear hsz23
  obtain rfl := hP2_9
  refine WL_val (dd := some 27) rfl rfl rfl (r_not rfl) ?_
  refine WL_val (dd := some 28) rfl rfl rfl (r_pick_f rfl (v := .bool _) rfl) ?_
  refine WL_nil ?_
  refine hK20 _ _ ?_
  clear hK20 K19
  refine WC_cond (b := _) rfl (fun hc0 => ?_) (fun hc0 => ?_)
  ·
   try with_reducible replace hc0 := of_decide_eq_true hc0
   exact absurd (not_t' hc0) (by rw [hwi]; decide)
  ·
   try with_reducible replace hc0 := of_decide_eq_false hc0
   refine WC_skip ?_
   refine hK18 _ _ ?_
   clear hK18 K17
   refine WC_seq (fun K24 hK25 => ?_)
   refine WC_region ?_
   refine WL_val (dd := some 29) rfl rfl rfl (r_move (v := .pointer (some ⟨bz, 0, none⟩)) rfl) ?_
   refine WL_val (dd := some 30) rfl rfl rfl (tb_build128_0 (h0 := rfl) (k0 := rfl) (c0_0 := .pointer (some ⟨bz, 0, none⟩))) ?_
   refine WL_step (dd := some 31) rfl rfl rfl (Y_box (c := #[_, _]) rfl rfl (fun b4_2 W26 hb27 hE28 hm4_2 => ?_))
   have lo_b4_2 : N ≤ b4_2 := hb27 ▸ (Nat.le_trans hN0 (Below.size hB))
   have lz_b4_2 : w.heap.size ≤ b4_2 := hb27 ▸ hX.size
   clear hb27
   replace hz := hE28.at hz
   replace hD := Dia.ext hE28 hD
   replace hX := Dx.trans hX (Dx.ext hE28)
   replace hB := below_ext hB hE28 hN0
   replace hm0_0 := hE28.at hm0_0
   replace hm1_5 := hE28.at hm1_5
   clear hE28
   refine WL_val (dd := some 10) rfl rfl rfl (r_assign (v := .pointer (some ⟨b4_2, 0, none⟩)) rfl) ?_
   refine WL_nil ?_
   refine hK25 _ _ ?_
   clear hK25 K24
   refine WC_seq (fun K29 hK30 => ?_)
   refine WC_region ?_
   refine WL_val (dd := some 32) rfl rfl rfl (r_move (v := .pointer (some ⟨b4_2, 0, none⟩)) rfl) ?_
   refine WL_val (dd := some 33) rfl rfl rfl (r_loadW rfl tb_ag69 rfl hm0_0) ?_
   refine WL_val (dd := some 34) rfl rfl rfl (r_loadW rfl tb_ag69 rfl hm1_5) ?_
   refine WL_val (dd := some 35) rfl rfl rfl (r_move (v := .int .i64 _) rfl) ?_
   refine WL_callG (dd := some 36) rfl rfl rfl (r_call5 tb_c107 (v0 := .pointer (some ⟨b4_2, 0, none⟩)) rfl (v1 := .agg #[_, _, _, _]) rfl (v2 := .agg #[_, _, _, _]) rfl (v3 := .int .i64 _) rfl (v4 := .int .i64 0) rfl) (PrAll (n + 1) N ba bm bz b4_2 R ns 0 s n 0 _ (Nat.le_trans hN0 (Below.size hB)) hz hD hm4_2 lo_b4_2 h8 hfr (by omega)) (fun v5_4 W31 hP5_4 => ?_)
   obtain ⟨ns5_4, e5_4, id5_4, rfl, hx5_4, hz5_4, hD5_4, hc5_4, hp5_4⟩ := hP5_4
   replace hX := Dx.new1 hX lz_b4_2 hx5_4.dx
   replace hB := Below.dx hB (Nat.le_refl _) hN0 hx5_4.dx
   try clear hm0_0
   try clear hm1_5
   replace hz := hz5_4
   replace hD := hD5_4
   replace hm4_2 := hc5_4
   refine WL_val (dd := some 11) rfl rfl rfl (r_assign (v := .int .i64 _) rfl) ?_
   refine WL_nil ?_
   refine hK30 _ _ ?_
   clear hK30 K29
   refine WC_seq (fun K33 hK34 => ?_)
   refine WC_seq (fun K35 hK36 => ?_)
   refine WC_region ?_
   refine WL_val (dd := some 37) rfl rfl rfl (r_move (v := .pointer (some ⟨b4_2, 0, none⟩)) rfl) ?_
   refine WL_val (dd := some 38) rfl rfl rfl (r_nilCheck_ptr rfl) ?_
   refine WL_val (dd := some 39) rfl rfl rfl (r_fieldAddr (b := _) (o := _) rfl tb_fo128_1) ?_
   refine WL_val (dd := some 40) rfl rfl rfl (r_load1 (v := .int .i64 _) rfl tb_sc29 (At.cell hm4_2 rfl)) ?_
   refine WL_val (dd := some 41) rfl rfl rfl (r_neq rfl rfl) ?_
   refine WL_nil ?_
   refine hK36 _ _ ?_
   clear hK36 K35
   refine WC_cond (b := _) rfl (fun hc1 => ?_) (fun hc1 => ?_)
   ·
    try with_reducible replace hc1 := of_decide_eq_true hc1
    refine WC_seq (fun K37 hK38 => ?_)
    refine WC_draw Ext tb_mix (fun W39 hE40 => ?_)
    replace hz := hE40.at hz
    replace hD := Dia.ext hE40 hD
    replace hX := Dx.trans hX (Dx.ext hE40)
    replace hB := below_ext hB hE40 hN0
    replace hm4_2 := hE40.at hm4_2
    have hS := Ext.refl W39
    refine WT_take (dd := some 42) 0 rfl (by kernel_rfl) (by kernel_rfl) (by kernel_rfl) rfl rfl rfl (fun _wq _hq => r_move (v := .pointer (some ⟨b4_2, 0, none⟩)) rfl) hS ?_
    refine WT_take (dd := some 43) 1 rfl (by kernel_rfl) (by kernel_rfl) (by kernel_rfl) rfl rfl rfl (fun _wq _hq => r_nilCheck_ptr rfl) hS ?_
    refine WT_take (dd := some 44) 2 rfl (by kernel_rfl) (by kernel_rfl) (by kernel_rfl) rfl rfl rfl (fun _wq _hq => r_fieldAddr (b := _) (o := _) rfl tb_fo128_1) hS ?_
    refine WT_take (dd := some 45) 3 rfl (by kernel_rfl) (by kernel_rfl) (by kernel_rfl) rfl rfl rfl (fun _wq hq => r_load1 (v := .int .i64 _) rfl tb_sc29 (At.cell (hq.at hm4_2) rfl)) hS ?_
    refine WT_take (dd := some 6) 4 rfl (by kernel_rfl) (by kernel_rfl) (by kernel_rfl) rfl rfl rfl (fun _wq _hq => r_assign (v := .int .i64 0) rfl) hS ?_
    refine WT_take (dd := some 7) 5 rfl (by kernel_rfl) (by kernel_rfl) (by kernel_rfl) rfl rfl rfl (fun _wq _hq => r_assign (v := .int .i64 _) rfl) hS ?_
    refine WT_done (by kernel_rfl) ?_
    refine hK38 _ _ ?_
    clear hK38 K37
    refine WC_ret ?_
    repeat (first | refine thenQ_ret ?_ | refine blockQ_ret ?_)
    try clear hK34 K33
    refine ret_tt (v := .int .i64 0) rfl (v1 := .int .i64 _) rfl ?_
    exact ⟨_, _, _, rfl, hX, hD, pr_fail hp5_4 hc1⟩
   ·
    try with_reducible replace hc1 := of_decide_eq_false hc1
    refine WC_skip ?_
    refine hK34 _ _ ?_
    clear hK34 K33
    refine WC_seq (fun K41 hK42 => ?_)
    refine WC_region ?_
    refine WL_val (dd := some 46) rfl rfl rfl (r_move (v := .int .i64 _) rfl) ?_
    refine WL_val (dd := some 6) rfl rfl rfl (r_assign (v := .int .i64 _) rfl) ?_
    refine WL_val (dd := some 7) rfl rfl rfl (r_assign (v := .int .i64 0) rfl) ?_
    refine WL_nil ?_
    refine hK42 _ _ ?_
    clear hK42 K41
    refine WC_ret ?_
    repeat (first | refine thenQ_ret ?_ | refine blockQ_ret ?_)
    refine ret_tt (v := .int .i64 _) rfl (v1 := .int .i64 0) rfl ?_
    exact ⟨_, _, _, rfl, hX, hD, pr_out hp5_4 (Decidable.of_not_not hc1)⟩

theorem C_bit11 (o i : Nat) (w : World) (ho : o < 256) (hi : i < 8) :
    Fn Try.prog 54 #[.int .u8 (o : Int), .int .i64 (i : Int)] w fun v w' => v = .bool (o.testBit i) := by
 refine Fn_intro (n := 10) Try.func54 rfl rfl (Nat.le_of_ble_eq_true rfl) ?_
 have hB : Below w.heap.size w w := Below.refl _ _
 refine WC_seq (fun K1 hK2 => ?_)
 refine WC_region ?_
 refine WL_val (dd := some 4) rfl rfl rfl (r_assign (v := .bool false) rfl) ?_
 refine WL_nil ?_
 refine hK2 _ _ ?_
 clear hK2 K1
 refine WC_seq (fun K3 hK4 => ?_)
 refine WC_region ?_
 refine WL_val (dd := some 5) rfl rfl rfl (r_move (v := .int .u8 _) rfl) ?_
 refine WL_val (dd := some 6) rfl rfl rfl (r_convN rfl Try.underlying5 Try.underlying3 (by first | assumption | (simp only [topN]; omega) | (simp only [topN]; decide))) ?_
 refine WL_val (dd := some 7) rfl rfl rfl (r_move (v := .int .i64 _) rfl) ?_
 refine WL_call (dd := some 8) rfl rfl rfl (r_call2 tb_c98 (v0 := .int .i64 _) rfl (v1 := .int .i64 _) rfl) (C_drawkniferef01_Bit _ _ _ (by first | assumption | omega) (by first | assumption | omega)) (fun v1_3 W5 hE6 hP1_3 => ?_)
 have hsz7 := (Below.size hB)
 replace hB := below_ext hB hE6 (Nat.le_refl _)
 clear hE6
 clear hsz7
 obtain rfl := hP1_3
 refine WL_val (dd := some 9) rfl rfl rfl (r_eql rfl rfl) ?_
 refine WL_val (dd := some 4) rfl rfl rfl (r_assign (v := .bool _) rfl) ?_
 refine WL_nil ?_
 refine hK4 _ _ ?_
 clear hK4 K3
 refine WC_ret ?_
 repeat (first | refine thenQ_ret ?_ | refine blockQ_ret ?_)
 refine ret_t (v := .bool _) rfl ?_
 refine ⟨hB, ?_⟩
 exact bit_rem o i

theorem C_drawkniferef11_power (n : Int) (w : World) (h0 : 0 ≤ n) (hn : n ≤ 61) :
    Fn Try.prog 94 #[.int .i64 n] w fun v w' => v = .int .i64 ((2 ^ n.toNat : Nat) : Int) := by
 refine Fn_intro (n := 13) Try.func94 rfl rfl (Nat.le_of_ble_eq_true rfl) ?_
 have hB : Below w.heap.size w w := Below.refl _ _
 refine WC_seq (fun K1 hK2 => ?_)
 refine WC_region ?_
 refine WL_val (dd := some 2) rfl rfl rfl (r_assign (v := .int .i64 0) rfl) ?_
 refine WL_nil ?_
 refine hK2 _ _ ?_
 clear hK2 K1
 refine WC_seq (fun K3 hK4 => ?_)
 refine WC_region ?_
 refine WL_val (dd := some 3) rfl rfl rfl (r_assign (v := .int .i64 1) rfl) ?_
 refine WL_nil ?_
 refine hK4 _ _ ?_
 clear hK4 K3
 refine WC_seq (fun K5 hK6 => ?_)
 refine WC_seq (fun K7 hK8 => ?_)
 refine WC_region ?_
 refine WL_val (dd := some 4) rfl rfl rfl (r_assign (v := .int .i64 0) rfl) ?_
 refine WL_nil ?_
 refine hK8 _ _ ?_
 clear hK8 K7
 refine WC_block ?_
 refine WC_loop (σ := (Nat)) [3, 4, 5, 6, 7, 8, 9, 10, 11] (fun k => [(4, .int .i64 (k : Int)), (3, .int .i64 ((2 ^ k : Nat) : Int))]) (fun k W => (Below w.heap.size w W) ∧ (k ≤ n.toNat) ∧ (True)) (fun k => n.toNat - k) (0) ⟨rfl, rfl, trivial⟩ ⟨hB, (Nat.zero_le _), trivial⟩ ?_
 clear hB
 rintro k g10 W9 ⟨hB, hk, _⟩ J11 hJ12
 refine WC_seq (fun K13 hK14 => ?_)
 refine WC_seq (fun K15 hK16 => ?_)
 refine WC_region ?_
 refine WL_val (dd := some 5) rfl rfl rfl (r_move (v := .int .i64 _) rfl) ?_
 refine WL_val (dd := some 6) rfl rfl rfl (r_move (v := .int .i64 _) rfl) ?_
 refine WL_val (dd := some 7) rfl rfl rfl (r_lss rfl rfl) ?_
 refine WL_nil ?_
 refine hK16 _ _ ?_
 clear hK16 K15
 refine WC_cond (b := _) rfl (fun hc0 => ?_) (fun hc0 => ?_)
 ·
  try with_reducible replace hc0 := of_decide_eq_true hc0
  refine WC_skip ?_
  refine hK14 _ _ ?_
  clear hK14 K13
  refine WC_seq (fun K17 hK18 => ?_)
  refine WC_block ?_
  have h63 := Nat.two_pow_pos k
  have h62 : 2 ^ k ≤ 2 ^ 61 := Nat.pow_le_pow_right (by decide) (by omega)
  refine WC_region ?_
  refine WL_val (dd := some 10) rfl rfl rfl (r_move (v := .int .i64 _) rfl) ?_
  refine WL_val (dd := some 11) rfl rfl rfl (r_mulI rfl rfl (by omega) (by omega)) ?_
  refine WL_val (dd := some 3) rfl rfl rfl (r_assign (v := .int .i64 _) rfl) ?_
  refine WL_nil ?_
  refine hK18 _ _ ?_
  clear hK18 K17
  refine WC_region ?_
  refine WL_val (dd := some 8) rfl rfl rfl (r_move (v := .int .i64 _) rfl) ?_
  refine WL_val (dd := some 9) rfl rfl rfl (r_addI rfl rfl (by omega) (by omega)) ?_
  refine WL_val (dd := some 4) rfl rfl rfl (r_assign (v := .int .i64 _) rfl) ?_
  refine WL_nil ?_
  refine hJ12 _ _ (k + 1) ?_ ?_ ?_ ?_
  · repeat (first | exact agree.mask _ _ _ | refine agree.updo ?_ rfl _ | refine agree.updL ?_ _ rfl | refine agree.maskS rfl ?_)
  · exact ⟨rfl, congrArg (Value.int .i64) (two_step k), trivial⟩
  · exact ⟨hB, (by omega), trivial⟩
  · first | omega | (dsimp only; omega)
 ·
  try with_reducible replace hc0 := of_decide_eq_false hc0
  refine WC_exit ?_
  refine hK6 _ _ ?_
  clear hK14 K13
  clear hJ12 J11
  clear hK6 K5
  refine WC_seq (fun K19 hK20 => ?_)
  refine WC_region ?_
  refine WL_val (dd := some 12) rfl rfl rfl (r_move (v := .int .i64 _) rfl) ?_
  refine WL_val (dd := some 2) rfl rfl rfl (r_assign (v := .int .i64 _) rfl) ?_
  refine WL_nil ?_
  refine hK20 _ _ ?_
  clear hK20 K19
  refine WC_ret ?_
  repeat (first | refine thenQ_ret ?_ | refine blockQ_ret ?_)
  refine ret_t (v := .int .i64 _) rfl ?_
  refine ⟨hB, ?_⟩
  obtain rfl : k = n.toNat := by omega
  rfl

theorem C_drawkniferef11_Member (x : Rw) (w : World) (hbx : x.c.m < 256 ∧ x.c.v < 256 ∧ x.o < 256) :
    Fn Try.prog 52 #[.agg #[.int .u8 (x.c.m : Int), .int .u8 (x.c.v : Int), .int .u8 (x.o : Int)]] w fun v w' => v = .int .i64 ((memRw x : Nat) : Int) := by
 refine Fn_intro (n := 43) Try.func52 rfl rfl (Nat.le_of_ble_eq_true rfl) ?_
 have hB : Below w.heap.size w w := Below.refl _ _
 obtain ⟨hb1, hb2, hb3⟩ := hbx
 refine WC_seq (fun K1 hK2 => ?_)
 refine WC_region ?_
 refine WL_step (dd := some 1) rfl rfl rfl (Y_box (c := #[_, _, _]) rfl rfl (fun b0_0 W3 hb4 hE5 hm0_0 => ?_))
 have lo_b0_0 : w.heap.size ≤ b0_0 := hb4 ▸ (Below.size hB)
 clear hb4
 replace hB := below_ext hB hE5 (Nat.le_refl _)
 clear hE5
 refine WL_val (dd := some 2) rfl rfl rfl (r_assign (v := .int .i64 0) rfl) ?_
 refine WL_nil ?_
 refine hK2 _ _ ?_
 clear hK2 K1
 refine WC_seq (fun K6 hK7 => ?_)
 refine WC_region ?_
 refine WL_val (dd := some 3) rfl rfl rfl (r_assign (v := .int .i64 0) rfl) ?_
 refine WL_nil ?_
 refine hK7 _ _ ?_
 clear hK7 K6
 refine WC_seq (fun K8 hK9 => ?_)
 refine WC_region ?_
 refine WL_val (dd := some 7) rfl rfl rfl (r_fieldAddr (b := _) (o := _) rfl tb_fo57_0) ?_
 refine WL_val (dd := some 8) rfl rfl rfl (r_load2 rfl tb_ag55 (At.cell hm0_0 rfl) (At.cell hm0_0 rfl)) ?_
 refine WL_call (dd := some 9) rfl rfl rfl (r_call1 tb_c97 (v0 := .agg #[_, _]) rfl) (C_drawkniferef02_Literals _ _ _ (by first | assumption | omega) (by first | assumption | omega)) (fun v2_2 W10 hE11 hP2_2 => ?_)
 have hsz12 := (Below.size hB)
 replace hB := below_ext hB hE11 (Nat.le_refl _)
 replace hm0_0 := hE11.at hm0_0
 clear hE11
 replace hP2_2 := OwT.mono hP2_2 hsz12
 clear hsz12
 refine WL_val (dd := some 4) rfl rfl rfl (r_assign (v := v2_2) rfl) ?_
 refine WL_nil ?_
 refine hK9 _ _ ?_
 clear hK9 K8
 refine WC_seq (fun K13 hK14 => ?_)
 refine WC_seq (fun K15 hK16 => ?_)
 refine WC_region ?_
 refine WL_val (dd := some 5) rfl rfl rfl (r_assign (v := .int .i64 0) rfl) ?_
 refine WL_nil ?_
 refine hK16 _ _ ?_
 clear hK16 K15
 refine WC_block ?_
 refine WC_loop (σ := (Nat)) [3, 5, 10, 11, 12, 13, 14, 15, 16, 17, 18, 19, 20, 21, 22, 23, 24, 25, 26, 27, 28] (fun i => [(5, .int .i64 (i : Int)), (3, .int .i64 ((memT x.c.m x.c.v i : Nat) : Int))]) (fun i W => (Below w.heap.size w W) ∧ (At W b0_0 _ 57) ∧ (OwT encI 1 3 W w.heap.size v2_2 _) ∧ (i ≤ 8) ∧ (True)) (fun i => 8 - i) (0) ⟨rfl, rfl, trivial⟩ ⟨hB, hm0_0, hP2_2, (Nat.zero_le _), trivial⟩ ?_
 clear hB hm0_0 hP2_2
 rintro i g18 W17 ⟨hB, hm0_0, hP2_2, hi, _⟩ J19 hJ20
 refine WC_seq (fun K21 hK22 => ?_)
 refine WC_seq (fun K23 hK24 => ?_)
 refine WC_region ?_
 refine WL_val (dd := some 10) rfl rfl rfl (r_move (v := .int .i64 _) rfl) ?_
 refine WL_val (dd := some 11) rfl rfl rfl (r_lss rfl rfl) ?_
 refine WL_nil ?_
 refine hK24 _ _ ?_
 clear hK24 K23
 refine WC_cond (b := _) rfl (fun hc0 => ?_) (fun hc0 => ?_)
 ·
  try with_reducible replace hc0 := of_decide_eq_true hc0
  refine WC_skip ?_
  refine hK22 _ _ ?_
  clear hK22 K21
  refine WC_seq (fun K25 hK26 => ?_)
  refine WC_block ?_
  refine WC_seq (fun K27 hK28 => ?_)
  have hml := memT_16 x.c.m x.c.v (show i ≤ 8 by omega)
  refine WC_region ?_
  refine WL_val (dd := some 14) rfl rfl rfl (r_move (v := v2_2) rfl) ?_
  refine WL_val (dd := some 15) rfl rfl rfl (r_move (v := .int .i64 _) rfl) ?_
  refine WL_val (dd := some 16) rfl rfl rfl (r_idxS (v := v2_2) rfl hP2_2.sl rfl tb_el22 (by omega) (by first | omega | (simp only [flagsTo_len, litsTo_len, firstF_len, ptF_len]; omega))) ?_
  refine WL_val (dd := some 17) rfl rfl rfl (r_load1 (v := .int .i64 _) rfl tb_sc3 (SlT.cell hP2_2.sl encI_len 0 (by omega) (by first | omega | (simp only [flagsTo_len, litsTo_len, firstF_len, ptF_len]; omega)) 0 rfl)) ?_
  refine WL_val (dd := some 18) rfl rfl rfl (r_neq rfl rfl) ?_
  refine WL_nil ?_
  refine hK28 _ _ ?_
  clear hK28 K27
  refine WC_cond (b := _) rfl (fun hc1 => ?_) (fun hc1 => ?_)
  ·
   try with_reducible replace hc1 := of_decide_eq_true hc1
   have hli := lit_b (m := x.c.m) (v := x.c.v) (i := i) (by intro h; exact hc1 ((litsTo_get (show i < 8 by omega)).trans h))
   have hlv := lit_v (v := x.c.v) hli
   have hl1 : (litsS x.c.m x.c.v).getD ((i : Nat) : Int).toNat 0 = lit x.c.m x.c.v i := litsTo_get (show i < 8 by omega)
   have hl2 : 0 ≤ ((litsS x.c.m x.c.v).getD ((i : Nat) : Int).toNat 0) ∧ ((litsS x.c.m x.c.v).getD ((i : Nat) : Int).toNat 0) ≤ 1 := by rw [hl1, hlv]; split <;> omega
   refine WC_region ?_
   refine WL_val (dd := some 19) rfl rfl rfl (r_move (v := .int .i64 _) rfl) ?_
   refine WL_val (dd := some 20) rfl rfl rfl (r_move (v := .int .i64 _) rfl) ?_
   refine WL_val (dd := some 21) rfl rfl rfl (r_mulI rfl rfl (by omega) (by omega)) ?_
   refine WL_val (dd := some 22) rfl rfl rfl (r_move (v := v2_2) rfl) ?_
   refine WL_val (dd := some 23) rfl rfl rfl (r_move (v := .int .i64 _) rfl) ?_
   refine WL_val (dd := some 24) rfl rfl rfl (r_idxS (v := v2_2) rfl hP2_2.sl rfl tb_el22 (by omega) (by first | omega | (simp only [flagsTo_len, litsTo_len, firstF_len, ptF_len]; omega))) ?_
   refine WL_val (dd := some 25) rfl rfl rfl (r_load1 (v := .int .i64 _) rfl tb_sc3 (SlT.cell hP2_2.sl encI_len 0 (by omega) (by first | omega | (simp only [flagsTo_len, litsTo_len, firstF_len, ptF_len]; omega)) 0 rfl)) ?_
   refine WL_val (dd := some 26) rfl rfl rfl (r_addI rfl rfl (by omega) (by omega)) ?_
   refine WL_call (dd := some 27) rfl rfl rfl (r_call1 tb_c94 (v0 := .int .i64 _) rfl) (C_drawkniferef11_power (2 * (i : Int) + ((litsS x.c.m x.c.v).getD ((i : Nat) : Int).toNat 0)) _ (by omega) (by omega)) (fun v7_8 W29 hE30 hP7_8 => ?_)
   have hsz31 := (Below.size hB)
   replace hB := below_ext hB hE30 (Nat.le_refl _)
   replace hm0_0 := hE30.at hm0_0
   replace hP2_2 := hE30.ow hP2_2
   clear hE30
   clear hsz31
   obtain rfl := hP7_8
   have hsh := shl15 (e := 2 * (i : Int) + ((litsS x.c.m x.c.v).getD ((i : Nat) : Int).toNat 0)) (by omega)
   refine WL_val (dd := some 28) rfl rfl rfl (r_addI rfl rfl (by omega) (by omega)) ?_
   refine WL_val (dd := some 3) rfl rfl rfl (r_assign (v := .int .i64 _) rfl) ?_
   refine WL_nil ?_
   refine hK26 _ _ ?_
   clear hK26 K25
   refine WC_region ?_
   refine WL_val (dd := some 12) rfl rfl rfl (r_move (v := .int .i64 _) rfl) ?_
   refine WL_val (dd := some 13) rfl rfl rfl (r_addI rfl rfl (by omega) (by omega)) ?_
   refine WL_val (dd := some 5) rfl rfl rfl (r_assign (v := .int .i64 _) rfl) ?_
   refine WL_nil ?_
   refine hJ20 _ _ (i + 1) ?_ ?_ ?_ ?_
   · repeat (first | exact agree.mask _ _ _ | refine agree.updo ?_ rfl _ | refine agree.updL ?_ _ rfl | refine agree.maskS rfl ?_)
   · exact ⟨rfl, (congrArg (Value.int .i64) (by rw [hl1]; exact mem_lit hli)), trivial⟩
   · exact ⟨hB, hm0_0, hP2_2, (by omega), trivial⟩
   · first | omega | (dsimp only; omega)
  ·
   try with_reducible replace hc1 := of_decide_eq_false hc1
   refine WC_skip ?_
   refine hK26 _ _ ?_
   clear hK26 K25
   refine WC_region ?_
   refine WL_val (dd := some 12) rfl rfl rfl (r_move (v := .int .i64 _) rfl) ?_
   refine WL_val (dd := some 13) rfl rfl rfl (r_addI rfl rfl (by omega) (by omega)) ?_
   refine WL_val (dd := some 5) rfl rfl rfl (r_assign (v := .int .i64 _) rfl) ?_
   refine WL_nil ?_
   refine hJ20 _ _ (i + 1) ?_ ?_ ?_ ?_
   · repeat (first | exact agree.mask _ _ _ | refine agree.updo ?_ rfl _ | refine agree.updL ?_ _ rfl | refine agree.maskS rfl ?_)
   · exact ⟨rfl, (congrArg (fun z : Nat => Value.int .i64 (z : Int)) (memT_skip _ _ _ (lit_two.1 ((litsTo_get (show i < 8 by omega)).symm.trans (Decidable.of_not_not hc1))))), trivial⟩
   · exact ⟨hB, hm0_0, hP2_2, (by omega), trivial⟩
   · first | omega | (dsimp only; omega)
 ·
  try with_reducible replace hc0 := of_decide_eq_false hc0
  refine WC_exit ?_
  refine hK14 _ _ ?_
  clear hK22 K21
  clear hJ20 J19
  clear hK14 K13
  refine WC_seq (fun K32 hK33 => ?_)
  refine WC_seq (fun K34 hK35 => ?_)
  obtain rfl : i = 8 := by omega
  refine WC_region ?_
  refine WL_val (dd := some 6) rfl rfl rfl (r_assign (v := .int .i64 0) rfl) ?_
  refine WL_nil ?_
  refine hK35 _ _ ?_
  clear hK35 K34
  refine WC_block ?_
  refine WC_loop (σ := (Nat)) [3, 6, 29, 30, 31, 32, 33, 34, 35, 36, 37, 38, 39, 40, 41] (fun j => [(6, .int .i64 (j : Int)), (3, .int .i64 ((memC x.c + otT x.o j : Nat) : Int))]) (fun j W => (Below w.heap.size w W) ∧ (At W b0_0 _ 57) ∧ (OwT encI 1 3 W w.heap.size v2_2 _) ∧ (j ≤ 4) ∧ (True)) (fun j => 4 - j) (0) ⟨rfl, congrArg (fun z : Nat => Value.int .i64 (z : Int)) (by unfold otT memC; simp [Nat.mod_one]), trivial⟩ ⟨hB, hm0_0, hP2_2, (Nat.zero_le _), trivial⟩ ?_
  clear hB hm0_0 hP2_2
  rintro j g37 W36 ⟨hB, hm0_0, hP2_2, hj, _⟩ J38 hJ39
  refine WC_seq (fun K40 hK41 => ?_)
  refine WC_seq (fun K42 hK43 => ?_)
  refine WC_region ?_
  refine WL_val (dd := some 29) rfl rfl rfl (r_move (v := .int .i64 _) rfl) ?_
  refine WL_val (dd := some 30) rfl rfl rfl (r_lss rfl rfl) ?_
  refine WL_nil ?_
  refine hK43 _ _ ?_
  clear hK43 K42
  refine WC_cond (b := _) rfl (fun hc2 => ?_) (fun hc2 => ?_)
  ·
   try with_reducible replace hc2 := of_decide_eq_true hc2
   refine WC_skip ?_
   refine hK41 _ _ ?_
   clear hK41 K40
   refine WC_seq (fun K44 hK45 => ?_)
   refine WC_block ?_
   refine WC_seq (fun K46 hK47 => ?_)
   have hml := memC_lt x.c
   have hot : otT x.o j ≤ 16 * 65536 := by
     unfold otT
     refine Nat.mul_le_mul_right _ ?_
     have := Nat.mod_lt x.o (Nat.two_pow_pos j)
     have h4 : 2 ^ j ≤ 8 := pow_le8 (by omega)
     omega
   refine WC_region ?_
   refine WL_val (dd := some 33) rfl rfl rfl (r_fieldAddr (b := _) (o := _) rfl tb_fo57_1) ?_
   refine WL_val (dd := some 34) rfl rfl rfl (r_load1 (v := .int .u8 _) rfl tb_sc5 (At.cell hm0_0 rfl)) ?_
   refine WL_val (dd := some 35) rfl rfl rfl (r_move (v := .int .i64 _) rfl) ?_
   refine WL_call (dd := some 36) rfl rfl rfl (r_call2 tb_c54 (v0 := .int .u8 _) rfl (v1 := .int .i64 _) rfl) (C_bit11 _ _ _ (by first | assumption | omega) (by first | assumption | omega)) (fun v11_3 W48 hE49 hP11_3 => ?_)
   have hsz50 := (Below.size hB)
   replace hB := below_ext hB hE49 (Nat.le_refl _)
   replace hm0_0 := hE49.at hm0_0
   replace hP2_2 := hE49.ow hP2_2
   clear hE49
   clear hsz50
   obtain rfl := hP11_3
   refine WL_nil ?_
   refine hK47 _ _ ?_
   clear hK47 K46
   refine WC_cond (b := _) rfl (fun hc3 => ?_) (fun hc3 => ?_)
   ·
    try with_reducible replace hc3 := of_decide_eq_true hc3
    refine WC_region ?_
    refine WL_val (dd := some 37) rfl rfl rfl (r_move (v := .int .i64 _) rfl) ?_
    refine WL_val (dd := some 38) rfl rfl rfl (r_move (v := .int .i64 _) rfl) ?_
    refine WL_val (dd := some 39) rfl rfl rfl (r_addI rfl rfl (by omega) (by omega)) ?_
    refine WL_call (dd := some 40) rfl rfl rfl (r_call1 tb_c94 (v0 := .int .i64 _) rfl) (C_drawkniferef11_power (16 + (j : Int)) _ (by omega) (by omega)) (fun v12_3 W51 hE52 hP12_3 => ?_)
    have hsz53 := (Below.size hB)
    replace hB := below_ext hB hE52 (Nat.le_refl _)
    replace hm0_0 := hE52.at hm0_0
    replace hP2_2 := hE52.ow hP2_2
    clear hE52
    clear hsz53
    obtain rfl := hP12_3
    have hsh := shl15 (e := 16 + (j : Int)) (by omega)
    refine WL_val (dd := some 41) rfl rfl rfl (r_addI rfl rfl (by omega) (by omega)) ?_
    refine WL_val (dd := some 3) rfl rfl rfl (r_assign (v := .int .i64 _) rfl) ?_
    refine WL_nil ?_
    refine hK45 _ _ ?_
    clear hK45 K44
    refine WC_region ?_
    refine WL_val (dd := some 31) rfl rfl rfl (r_move (v := .int .i64 _) rfl) ?_
    refine WL_val (dd := some 32) rfl rfl rfl (r_addI rfl rfl (by omega) (by omega)) ?_
    refine WL_val (dd := some 6) rfl rfl rfl (r_assign (v := .int .i64 _) rfl) ?_
    refine WL_nil ?_
    refine hJ39 _ _ (j + 1) ?_ ?_ ?_ ?_
    · repeat (first | exact agree.mask _ _ _ | refine agree.updo ?_ rfl _ | refine agree.updL ?_ _ rfl | refine agree.maskS rfl ?_)
    · exact ⟨rfl, (congrArg (Value.int .i64) (ot_int hc3)), trivial⟩
    · exact ⟨hB, hm0_0, hP2_2, (by omega), trivial⟩
    · first | omega | (dsimp only; omega)
   ·
    try with_reducible replace hc3 := of_decide_eq_false hc3
    refine WC_skip ?_
    refine hK45 _ _ ?_
    clear hK45 K44
    refine WC_region ?_
    refine WL_val (dd := some 31) rfl rfl rfl (r_move (v := .int .i64 _) rfl) ?_
    refine WL_val (dd := some 32) rfl rfl rfl (r_addI rfl rfl (by omega) (by omega)) ?_
    refine WL_val (dd := some 6) rfl rfl rfl (r_assign (v := .int .i64 _) rfl) ?_
    refine WL_nil ?_
    refine hJ39 _ _ (j + 1) ?_ ?_ ?_ ?_
    · repeat (first | exact agree.mask _ _ _ | refine agree.updo ?_ rfl _ | refine agree.updL ?_ _ rfl | refine agree.maskS rfl ?_)
    · exact ⟨rfl, (congrArg (fun z : Nat => Value.int .i64 (z : Int)) (congrArg (memC x.c + ·) (ot_f hc3))), trivial⟩
    · exact ⟨hB, hm0_0, hP2_2, (by omega), trivial⟩
    · first | omega | (dsimp only; omega)
  ·
   try with_reducible replace hc2 := of_decide_eq_false hc2
   refine WC_exit ?_
   refine hK33 _ _ ?_
   clear hK41 K40
   clear hJ39 J38
   clear hK33 K32
   refine WC_seq (fun K54 hK55 => ?_)
   refine WC_region ?_
   refine WL_val (dd := some 42) rfl rfl rfl (r_move (v := .int .i64 _) rfl) ?_
   refine WL_val (dd := some 2) rfl rfl rfl (r_assign (v := .int .i64 _) rfl) ?_
   refine WL_nil ?_
   refine hK55 _ _ ?_
   clear hK55 K54
   refine WC_ret ?_
   repeat (first | refine thenQ_ret ?_ | refine blockQ_ret ?_)
   refine ret_t (v := .int .i64 _) rfl ?_
   refine ⟨hB, ?_⟩
   obtain rfl : j = 4 := by omega
   exact congrArg (fun z : Nat => Value.int .i64 (z : Int)) (ot_end x.c x.o)

theorem C_drawkniferef11_Members (xl : Value) (l : List Rw) (w : World) (hl : SlT encR 3 w xl l) (hlb : l.length ≤ 1000000) (hr : ∀ x, x ∈ l → x.c.m < 256 ∧ x.c.v < 256 ∧ x.o < 256) :
    Fn Try.prog 63 #[xl] w fun v w' => OwT encI 1 3 w' w.heap.size v (memsT l l.length) := by
 refine Fn_intro (n := 19) Try.func63 rfl rfl (Nat.le_of_ble_eq_true rfl) ?_
 have hB : Below w.heap.size w w := Below.refl _ _
 refine WC_seq (fun K1 hK2 => ?_)
 refine WC_region ?_
 refine WL_val (dd := some 2) rfl rfl rfl (r_assign (v := .slice none 0 0) rfl) ?_
 refine WL_nil ?_
 refine hK2 _ _ ?_
 clear hK2 K1
 refine WC_seq (fun K3 hK4 => ?_)
 refine WC_region ?_
 refine WL_val (dd := some 3) rfl rfl rfl (r_assign (v := .slice none 0 0) rfl) ?_
 refine WL_nil ?_
 refine hK4 _ _ ?_
 clear hK4 K3
 refine WC_seq (fun K5 hK6 => ?_)
 refine WC_seq (fun K7 hK8 => ?_)
 refine WC_region ?_
 refine WL_val (dd := some 4) rfl rfl rfl (r_assign (v := .int .i64 0) rfl) ?_
 refine WL_nil ?_
 refine hK8 _ _ ?_
 clear hK8 K7
 refine WC_block ?_
 refine WC_loop (σ := (Nat) × (Value)) [3, 4, 5, 6, 7, 8, 9, 10, 11, 12, 13, 14, 15, 16, 17] (fun (k, v0) => [(4, .int .i64 (k : Int)), (3, v0)]) (fun sg W => match sg with | (k, v0) => (Below w.heap.size w W) ∧ (OwT encI 1 3 W w.heap.size v0 (memsT l k)) ∧ (k ≤ l.length) ∧ (True)) (fun (k, v0) => l.length - k) ((0, .slice none 0 0)) ⟨rfl, rfl, trivial⟩ ⟨hB, OwT.nil, (Nat.zero_le _), trivial⟩ ?_
 clear hB
 rintro ⟨k, v0⟩ g10 W9 ⟨hB, ho, hk, _⟩ J11 hJ12
 refine WC_seq (fun K13 hK14 => ?_)
 refine WC_seq (fun K15 hK16 => ?_)
 refine WC_region ?_
 refine WL_val (dd := some 5) rfl rfl rfl (r_move (v := .int .i64 _) rfl) ?_
 refine WL_val (dd := some 6) rfl rfl rfl (r_move (v := xl) rfl) ?_
 refine WL_val (dd := some 7) rfl rfl rfl (r_lenS (v := xl) rfl (Below.slT hB hl) tb_el75) ?_
 refine WL_val (dd := some 8) rfl rfl rfl (r_lss rfl rfl) ?_
 refine WL_nil ?_
 refine hK16 _ _ ?_
 clear hK16 K15
 refine WC_cond (b := _) rfl (fun hc0 => ?_) (fun hc0 => ?_)
 ·
  try with_reducible replace hc0 := of_decide_eq_true hc0
  refine WC_skip ?_
  refine hK14 _ _ ?_
  clear hK14 K13
  refine WC_seq (fun K17 hK18 => ?_)
  refine WC_block ?_
  have hrk := hr (l.getD k ⟨⟨0, 0⟩, 0⟩) (getD_mem (by omega))
  have hml := mems_len l k
  refine WC_region ?_
  refine WL_val (dd := some 11) rfl rfl rfl (r_move (v := v0) rfl) ?_
  refine WL_val (dd := some 12) rfl rfl rfl (r_move (v := xl) rfl) ?_
  refine WL_val (dd := some 13) rfl rfl rfl (r_move (v := .int .i64 _) rfl) ?_
  refine WL_val (dd := some 14) rfl rfl rfl (r_idxS (v := xl) rfl (Below.slT hB hl) rfl tb_el75 (by omega) (by first | omega | (simp only [flagsTo_len, litsTo_len, firstF_len, ptF_len]; omega))) ?_
  refine WL_val (dd := some 15) rfl rfl rfl (r_load3 rfl tb_ag57 (SlT.cell (Below.slT hB hl) encR_len ⟨⟨0, 0⟩, 0⟩ (by omega) (by first | omega | (simp only [flagsTo_len, litsTo_len, firstF_len, ptF_len]; omega)) 0 rfl) (SlT.cell (Below.slT hB hl) encR_len ⟨⟨0, 0⟩, 0⟩ (by omega) (by first | omega | (simp only [flagsTo_len, litsTo_len, firstF_len, ptF_len]; omega)) 1 rfl) (SlT.cell (Below.slT hB hl) encR_len ⟨⟨0, 0⟩, 0⟩ (by omega) (by first | omega | (simp only [flagsTo_len, litsTo_len, firstF_len, ptF_len]; omega)) 2 rfl)) ?_
  refine WL_call (dd := some 16) rfl rfl rfl (r_call1 tb_c52 (v0 := .agg #[_, _, _]) rfl) (C_drawkniferef11_Member (l.getD k ⟨⟨0, 0⟩, 0⟩) _ hrk) (fun v5_5 W19 hE20 hP5_5 => ?_)
  have hsz21 := (Below.size hB)
  replace hB := below_ext hB hE20 (Nat.le_refl _)
  replace ho := hE20.ow ho
  clear hE20
  clear hsz21
  obtain rfl := hP5_5
  refine WL_call (dd := some 17) rfl rfl rfl (r_call2 tb_c21 (v0 := v0) rfl (v1 := .int .i64 _) rfl) (C_drawkniferef08_With _ _ (memsT l k) (memI (l.getD k ⟨⟨0, 0⟩, 0⟩)) _ ho (Below.size hB) (by omega)) (fun v5_6 W22 hE23 hP5_6 => ?_)
  have hlt24 := OwT.lt2 ho
  have hsz25 := (Below.size hB)
  replace hB := below_ext hB hE23 (Nat.le_refl _)
  replace ho := hE23.ow ho
  clear hE23
  clear ho
  clear hsz25
  refine WL_val (dd := some 3) rfl rfl rfl (r_assign (v := v5_6) rfl) ?_
  refine WL_nil ?_
  refine hK18 _ _ ?_
  clear hK18 K17
  refine WC_region ?_
  refine WL_val (dd := some 9) rfl rfl rfl (r_move (v := .int .i64 _) rfl) ?_
  refine WL_val (dd := some 10) rfl rfl rfl (r_addI rfl rfl (by omega) (by omega)) ?_
  refine WL_val (dd := some 4) rfl rfl rfl (r_assign (v := .int .i64 _) rfl) ?_
  refine WL_nil ?_
  refine hJ12 _ _ ((k + 1, v5_6)) ?_ ?_ ?_ ?_
  · repeat (first | exact agree.mask _ _ _ | refine agree.updo ?_ rfl _ | refine agree.updL ?_ _ rfl | refine agree.maskS rfl ?_)
  · exact ⟨rfl, rfl, trivial⟩
  · exact ⟨hB, (by rw [← mems_s (by omega)]; exact hP5_6), (by omega), trivial⟩
  · show l.length - (k + 1) < l.length - k; omega
 ·
  try with_reducible replace hc0 := of_decide_eq_false hc0
  refine WC_exit ?_
  refine hK6 _ _ ?_
  clear hK14 K13
  clear hJ12 J11
  clear hK6 K5
  refine WC_seq (fun K26 hK27 => ?_)
  refine WC_region ?_
  refine WL_val (dd := some 18) rfl rfl rfl (r_move (v := v0) rfl) ?_
  refine WL_val (dd := some 2) rfl rfl rfl (r_assign (v := v0) rfl) ?_
  refine WL_nil ?_
  refine hK27 _ _ ?_
  clear hK27 K26
  refine WC_ret ?_
  repeat (first | refine thenQ_ret ?_ | refine blockQ_ret ?_)
  refine ret_t (v := v0) rfl ?_
  refine ⟨hB, ?_⟩
  obtain rfl : k = l.length := by omega
  exact ho

end Go.Proofs.Ytpamgfbecgjjeaa
