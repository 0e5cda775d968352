/-
  The walks of great, same and growing the document's way.
-/
import Derived.Test.YtdbcijijhhbkaaaProg
import Derived.Test.YtdbcijijhhbkaaaWCov
import Derived.Test.YtdbcijijhhbkaaaRef10
namespace Go.Proofs.Ytdbcijijhhbkaaa
set_option linter.unusedVariables false
set_option linter.unusedSimpArgs false
open Go Go.RowKit

theorem tb_neq79 {f : Nat → Value} {w : World} {d : Option Nat} {ty t2 : TypeId} {ps : String} {af : Array Edge} {g : Option (Nat × Bool)} {x y : Operand} {a0 a1 a2 b0 b1 b2 : Int} (hx : evF f x = .agg #[.int .u8 a0, .int .u8 a1, .int .u8 a2]) (hy : evF f y = .agg #[.int .u8 b0, .int .u8 b1, .int .u8 b2]) :
    (execOp (evF f) ⟨d, .binOp .neq 79 x y t2, ty, ps, af, g⟩).run Try.prog w = .ok (.value (.bool (decide (¬ (a0 = b0 ∧ a1 = b1 ∧ a2 = b2))))) w := by
  have hg : Try.prog.eqGuardType Try.prog.depth 79 = false := by kernel_rfl
  have hp79 : Try.prog.stoodInHeld 79 = false := by kernel_rfl
  have hu79 : Try.prog.underlying 79 = some (.struct (Try.prog.fieldsOf 79)) := by kernel_rfl
  have hp34 : Try.prog.stoodInHeld 34 = false := by kernel_rfl
  have hu34 : Try.prog.underlying 34 = some (.struct (Try.prog.fieldsOf 34)) := by kernel_rfl
  obtain ⟨j34, hj34, hs34⟩ := Option.map_eq_some_iff.1 (show (Try.prog.info? 34).map (·.size) = some 2 by kernel_rfl)
  simp only [execOp, hx, hy, Sem.run_bind, run_eqGuard_agg _ _ _ _ _ _ _ hg, Result.andThen_ok, run_neq_struct, run_equalIn_agg _ 9999 79 _ _ hu79 hp79]
  simp only [Program.fieldsOf, Try.underlying79]
  simp [Op.eqFields, part, isAgg, run_equalIn_int _ 9998 5 _ _ _ _ Try.underlying5, run_underlying Try.underlying5, run_equalIn_agg _ 9998 34 _ _ hu34 hp34, Program.fieldsOf, Try.underlying34, run_equalIn_int _ 9997 5 _ _ _ _ Try.underlying5, sizeOf, typeInfo, hj34, hs34, run_underlying Try.underlying34]
  by_cases q0 : a0 = b0 <;> by_cases q1 : a1 = b1 <;> by_cases q2 : a2 = b2 <;> simp [q0, q1, q2]
theorem tb_c65 : callB Try.prog 65 = true := by kernel_rfl

theorem C_drawkniferef10_Same (xa xb : Value) (l l2 : List Rw) (w : World) (hl : SlT encR 3 w xa l) (hl2 : SlT encR 3 w xb l2) (hb : l.length ≤ 2000000) :
    Fn Try.prog 60 #[xa, xb] w fun v w' => v = .bool (decide (l = l2)) := by
 refine Fn_intro (n := 26) Try.func60 rfl rfl (Nat.le_of_ble_eq_true rfl) ?_
 have hB : Below w.heap.size w w := Below.refl _ _
 refine WC_seq (fun K1 hK2 => ?_)
 refine WC_region ?_
 refine WL_val (dd := some 4) rfl rfl rfl (r_assign (v := .bool false) rfl) ?_
 refine WL_nil ?_
 refine hK2 _ _ ?_
 clear hK2 K1
 refine WC_seq (fun K3 hK4 => ?_)
 refine WC_seq (fun K5 hK6 => ?_)
 refine WC_region ?_
 refine WL_val (dd := some 6) rfl rfl rfl (r_move (v := xa) rfl) ?_
 refine WL_val (dd := some 7) rfl rfl rfl (r_lenS (v := xa) rfl (Below.slT hB hl) tb_el65) ?_
 refine WL_val (dd := some 8) rfl rfl rfl (r_move (v := xb) rfl) ?_
 refine WL_val (dd := some 9) rfl rfl rfl (r_lenS (v := xb) rfl (Below.slT hB hl2) tb_el65) ?_
 refine WL_val (dd := some 10) rfl rfl rfl (r_neq rfl rfl) ?_
 refine WL_nil ?_
 refine hK6 _ _ ?_
 clear hK6 K5
 refine WC_cond (b := _) rfl (fun hc0 => ?_) (fun hc0 => ?_)
 ·
  try with_reducible replace hc0 := of_decide_eq_true hc0
  refine WC_seq (fun K7 hK8 => ?_)
  refine WC_region ?_
  refine WL_val (dd := some 4) rfl rfl rfl (r_assign (v := .bool false) rfl) ?_
  refine WL_nil ?_
  refine hK8 _ _ ?_
  clear hK8 K7
  refine WC_ret ?_
  repeat (first | refine thenQ_ret ?_ | refine blockQ_ret ?_)
  try clear hK4 K3
  refine ret_t (v := .bool false) rfl ?_
  refine ⟨hB, ?_⟩
  exact congrArg Value.bool (decide_eq_false (fun e => hc0 (by rw [e]))).symm
 ·
  try with_reducible replace hc0 := of_decide_eq_false hc0
  refine WC_skip ?_
  refine hK4 _ _ ?_
  clear hK4 K3
  refine WC_seq (fun K9 hK10 => ?_)
  refine WC_seq (fun K11 hK12 => ?_)
  have hlen : l.length = l2.length := by omega
  refine WC_region ?_
  refine WL_val (dd := some 5) rfl rfl rfl (r_assign (v := .int .i64 0) rfl) ?_
  refine WL_nil ?_
  refine hK12 _ _ ?_
  clear hK12 K11
  refine WC_block ?_
  refine WC_loop (σ := (Nat)) [4, 5, 11, 12, 13, 14, 15, 16, 17, 18, 19, 20, 21, 22, 23, 24, 25] (fun i => [(5, .int .i64 (i : Int))]) (fun i W => (Below w.heap.size w W) ∧ (i ≤ l.length) ∧ (∀ q, q < i → l.getD q ⟨⟨0, 0⟩, 0⟩ = l2.getD q ⟨⟨0, 0⟩, 0⟩) ∧ (True)) (fun i => l.length - i) (0) ⟨rfl, trivial⟩ ⟨hB, (Nat.zero_le _), upTo_zero, trivial⟩ ?_
  clear hB
  rintro i g14 W13 ⟨hB, hi, hq, _⟩ J15 hJ16
  refine WC_seq (fun K17 hK18 => ?_)
  refine WC_seq (fun K19 hK20 => ?_)
  refine WC_region ?_
  refine WL_val (dd := some 11) rfl rfl rfl (r_move (v := .int .i64 _) rfl) ?_
  refine WL_val (dd := some 12) rfl rfl rfl (r_move (v := xa) rfl) ?_
  refine WL_val (dd := some 13) rfl rfl rfl (r_lenS (v := xa) rfl (Below.slT hB hl) tb_el65) ?_
  refine WL_val (dd := some 14) rfl rfl rfl (r_lss rfl rfl) ?_
  refine WL_nil ?_
  refine hK20 _ _ ?_
  clear hK20 K19
  refine WC_cond (b := _) rfl (fun hc1 => ?_) (fun hc1 => ?_)
  ·
   try with_reducible replace hc1 := of_decide_eq_true hc1
   refine WC_skip ?_
   refine hK18 _ _ ?_
   clear hK18 K17
   refine WC_seq (fun K21 hK22 => ?_)
   refine WC_block ?_
   refine WC_seq (fun K23 hK24 => ?_)
   refine WC_draw Ext tb_mix (fun W25 hE26 => ?_)
   replace hB := below_ext hB hE26 (Nat.le_refl _)
   have hS := Ext.refl W25
   refine WT_take (dd := some 17) 0 rfl (by kernel_rfl) (by kernel_rfl) (by kernel_rfl) rfl rfl rfl (fun _wq _hq => r_move (v := xa) rfl) hS ?_
   refine WT_take (dd := some 18) 1 rfl (by kernel_rfl) (by kernel_rfl) (by kernel_rfl) rfl rfl rfl (fun _wq _hq => r_move (v := .int .i64 _) rfl) hS ?_
   refine WT_take (dd := some 19) 2 rfl (by kernel_rfl) (by kernel_rfl) (by kernel_rfl) rfl rfl rfl (fun _wq hq => r_idxS (v := xa) rfl (hq.slT (Below.slT hB hl)) rfl tb_el65 (by omega) (by first | omega | (simp only [flagsTo_len, litsTo_len, firstF_len, ptF_len, setF_len]; omega))) hS ?_
   refine WT_take (dd := some 20) 3 rfl (by kernel_rfl) (by kernel_rfl) (by kernel_rfl) rfl rfl rfl (fun _wq hq => r_load3 rfl tb_ag79 (SlT.cell (hq.slT (Below.slT hB hl)) encR_len ⟨⟨0, 0⟩, 0⟩ (by omega) (by first | omega | (simp only [flagsTo_len, litsTo_len, firstF_len, ptF_len, setF_len]; omega)) 0 rfl) (SlT.cell (hq.slT (Below.slT hB hl)) encR_len ⟨⟨0, 0⟩, 0⟩ (by omega) (by first | omega | (simp only [flagsTo_len, litsTo_len, firstF_len, ptF_len, setF_len]; omega)) 1 rfl) (SlT.cell (hq.slT (Below.slT hB hl)) encR_len ⟨⟨0, 0⟩, 0⟩ (by omega) (by first | omega | (simp only [flagsTo_len, litsTo_len, firstF_len, ptF_len, setF_len]; omega)) 2 rfl)) hS ?_
   refine WT_take (dd := some 21) 4 rfl (by kernel_rfl) (by kernel_rfl) (by kernel_rfl) rfl rfl rfl (fun _wq _hq => r_move (v := xb) rfl) hS ?_
   refine WT_take (dd := some 22) 5 rfl (by kernel_rfl) (by kernel_rfl) (by kernel_rfl) rfl rfl rfl (fun _wq _hq => r_move (v := .int .i64 _) rfl) hS ?_
   refine WT_take (dd := some 23) 6 rfl (by kernel_rfl) (by kernel_rfl) (by kernel_rfl) rfl rfl rfl (fun _wq hq => r_idxS (v := xb) rfl (hq.slT (Below.slT hB hl2)) rfl tb_el65 (by omega) (by first | omega | (simp only [flagsTo_len, litsTo_len, firstF_len, ptF_len, setF_len]; omega))) hS ?_
   refine WT_take (dd := some 24) 7 rfl (by kernel_rfl) (by kernel_rfl) (by kernel_rfl) rfl rfl rfl (fun _wq hq => r_load3 rfl tb_ag79 (SlT.cell (hq.slT (Below.slT hB hl2)) encR_len ⟨⟨0, 0⟩, 0⟩ (by omega) (by first | omega | (simp only [flagsTo_len, litsTo_len, firstF_len, ptF_len, setF_len]; omega)) 0 rfl) (SlT.cell (hq.slT (Below.slT hB hl2)) encR_len ⟨⟨0, 0⟩, 0⟩ (by omega) (by first | omega | (simp only [flagsTo_len, litsTo_len, firstF_len, ptF_len, setF_len]; omega)) 1 rfl) (SlT.cell (hq.slT (Below.slT hB hl2)) encR_len ⟨⟨0, 0⟩, 0⟩ (by omega) (by first | omega | (simp only [flagsTo_len, litsTo_len, firstF_len, ptF_len, setF_len]; omega)) 2 rfl)) hS ?_
   refine WT_take (dd := some 25) 8 rfl (by kernel_rfl) (by kernel_rfl) (by kernel_rfl) rfl rfl rfl (fun _wq _hq => tb_neq79 rfl rfl) hS ?_
   refine WT_done (by kernel_rfl) ?_
   refine hK24 _ _ ?_
   clear hK24 K23
   refine WC_cond (b := _) rfl (fun hc2 => ?_) (fun hc2 => ?_)
   ·
    try with_reducible replace hc2 := of_decide_eq_true hc2
    refine WC_seq (fun K27 hK28 => ?_)
    refine WC_region ?_
    refine WL_val (dd := some 4) rfl rfl rfl (r_assign (v := .bool false) rfl) ?_
    refine WL_nil ?_
    refine hK28 _ _ ?_
    clear hK28 K27
    refine WC_ret ?_
    repeat (first | refine thenQ_ret ?_ | refine blockQ_ret ?_)
    try clear hK22 K21
    try clear hJ16 J15
    try clear hK10 K9
    refine ret_t (v := .bool false) rfl ?_
    refine ⟨hB, ?_⟩
    exact congrArg Value.bool (decide_eq_false (fun e => hc2 (by rw [e]; exact ⟨rfl, rfl, rfl⟩))).symm
   ·
    try with_reducible replace hc2 := of_decide_eq_false hc2
    refine WC_skip ?_
    refine hK22 _ _ ?_
    clear hK22 K21
    refine WC_region ?_
    refine WL_val (dd := some 15) rfl rfl rfl (r_move (v := .int .i64 _) rfl) ?_
    refine WL_val (dd := some 16) rfl rfl rfl (r_addI rfl rfl (by omega) (by omega)) ?_
    refine WL_val (dd := some 5) rfl rfl rfl (r_assign (v := .int .i64 _) rfl) ?_
    refine WL_nil ?_
    refine hJ16 _ _ (i + 1) ?_ ?_ ?_ ?_
    · repeat (first | exact agree.mask _ _ _ | refine agree.updo ?_ rfl _ | refine agree.updL ?_ _ rfl | refine agree.maskS rfl ?_)
    · exact ⟨rfl, trivial⟩
    · exact ⟨hB, (by omega), (upTo_succ hq (rw_eq (x := l.getD i ⟨⟨0, 0⟩, 0⟩) (y := l2.getD i ⟨⟨0, 0⟩, 0⟩) hc2)), trivial⟩
    · first | omega | (dsimp only; omega)
  ·
   try with_reducible replace hc1 := of_decide_eq_false hc1
   refine WC_exit ?_
   refine hK10 _ _ ?_
   clear hK18 K17
   clear hJ16 J15
   clear hK10 K9
   refine WC_seq (fun K29 hK30 => ?_)
   refine WC_region ?_
   refine WL_val (dd := some 4) rfl rfl rfl (r_assign (v := .bool true) rfl) ?_
   refine WL_nil ?_
   refine hK30 _ _ ?_
   clear hK30 K29
   refine WC_ret ?_
   repeat (first | refine thenQ_ret ?_ | refine blockQ_ret ?_)
   refine ret_t (v := .bool true) rfl ?_
   refine ⟨hB, ?_⟩
   exact congrArg Value.bool (decide_eq_true (list_extR hlen (fun q h => hq q (by omega)))).symm

theorem C_drawkniferef10_Grow (S : Sp) (onV mayV : Value) (x : Rw) (w : World) (hon : SlT encS 4 w onV S.on) (hmay : SlT encS 4 w mayV S.may) (hi : inR S x = true) (hbx : x.c.m < 256 ∧ x.c.v < 256 ∧ x.o < 256) :
    Fn Try.prog 70 #[.agg #[.int .i64 S.n, onV, mayV], .agg #[.int .u8 (x.c.m : Int), .int .u8 (x.c.v : Int), .int .u8 (x.o : Int)]] w fun v w' => v = .agg #[.int .u8 ((growR S x).c.m : Int), .int .u8 ((growR S x).c.v : Int), .int .u8 ((growR S x).o : Int)] := by
 refine Fn_intro (n := 62) Try.func70 rfl rfl (Nat.le_of_ble_eq_true rfl) ?_
 have hB : Below w.heap.size w w := Below.refl _ _
 obtain ⟨h0, h8, h1, h4, h5, _⟩ := rightS_iff.1 (inR_iff.1 hi).1
 refine WC_seq (fun K1 hK2 => ?_)
 refine WC_region ?_
 refine WL_step (dd := some 2) rfl rfl rfl (Y_box (c := #[_, _, _]) rfl rfl (fun b0_0 W3 hb4 hE5 hm0_0 => ?_))
 have lo_b0_0 : w.heap.size ≤ b0_0 := hb4 ▸ (Below.size hB)
 clear hb4
 replace hB := below_ext hB hE5 (Nat.le_refl _)
 clear hE5
 refine WL_step (dd := some 3) rfl rfl rfl (Y_box (c := #[_, _, _]) rfl rfl (fun b0_1 W6 hb7 hE8 hm0_1 => ?_))
 have lo_b0_1 : w.heap.size ≤ b0_1 := hb7 ▸ (Below.size hB)
 clear hb7
 replace hB := below_ext hB hE8 (Nat.le_refl _)
 replace hm0_0 := hE8.at hm0_0
 clear hE8
 refine WL_step (dd := some 4) rfl rfl rfl (Y_alloc tb_z79 rfl (fun b0_2 W9 hb10 hE11 hm0_2 => ?_))
 have lo_b0_2 : w.heap.size ≤ b0_2 := hb10 ▸ (Below.size hB)
 have ne_b0_1_b0_2 : b0_1 ≠ b0_2 := Nat.ne_of_lt (hb10 ▸ hm0_1.lt)
 clear hb10
 replace hB := below_ext hB hE11 (Nat.le_refl _)
 replace hm0_0 := hE11.at hm0_0
 replace hm0_1 := hE11.at hm0_1
 clear hE11
 refine WL_nil ?_
 refine hK2 _ _ ?_
 clear hK2 K1
 refine WC_seq (fun K12 hK13 => ?_)
 refine WC_seq (fun K14 hK15 => ?_)
 refine WC_region ?_
 refine WL_val (dd := some 5) rfl rfl rfl (r_assign (v := .int .i64 0) rfl) ?_
 refine WL_nil ?_
 refine hK15 _ _ ?_
 clear hK15 K14
 refine WC_block ?_
 refine WC_loop (σ := (Nat)) [5, 6, 7, 10, 11, 12, 13, 14, 15, 16, 17, 18, 19, 20, 21, 22, 23, 24, 25, 26, 27, 28, 29, 30] (fun i => [(5, .int .i64 (i : Int))]) (fun i W => (Below w.heap.size w W) ∧ (At W b0_0 _ 64) ∧ (At W b0_2 _ 79) ∧ (At W b0_1 #[.int .u8 ((growRTo S x i).m : Int), .int .u8 ((growRTo S x i).v : Int), .int .u8 (x.o : Int)] 79) ∧ ((i : Int) ≤ S.n) ∧ (True)) (fun i => S.n.toNat - i) (0) ⟨rfl, trivial⟩ ⟨hB, hm0_0, hm0_2, hm0_1, (by omega), trivial⟩ ?_
 clear hB hm0_0 hm0_1 hm0_2
 rintro i g17 W16 ⟨hB, hm0_0, hm0_2, hm0_1, hi2, _⟩ J18 hJ19
 refine WC_seq (fun K20 hK21 => ?_)
 refine WC_seq (fun K22 hK23 => ?_)
 refine WC_region ?_
 refine WL_val (dd := some 10) rfl rfl rfl (r_move (v := .int .i64 _) rfl) ?_
 refine WL_val (dd := some 11) rfl rfl rfl (r_fieldAddr (b := _) (o := _) rfl tb_fo64_0) ?_
 refine WL_val (dd := some 12) rfl rfl rfl (r_load1 (v := .int .i64 _) rfl tb_sc3 (At.cell hm0_0 rfl)) ?_
 refine WL_val (dd := some 13) rfl rfl rfl (r_lss rfl rfl) ?_
 refine WL_nil ?_
 refine hK23 _ _ ?_
 clear hK23 K22
 refine WC_cond (b := _) rfl (fun hc0 => ?_) (fun hc0 => ?_)
 ·
  try with_reducible replace hc0 := of_decide_eq_true hc0
  refine WC_skip ?_
  refine hK21 _ _ ?_
  clear hK21 K20
  refine WC_seq (fun K24 hK25 => ?_)
  refine WC_block ?_
  refine WC_seq (fun K26 hK27 => ?_)
  have hg := growR_lt (S := S) (x := x) ⟨hbx.1, hbx.2.1⟩ i
  have hw := wo_cube (c := growRTo S x i) (i := i) (by omega) hg.1 hg.2
  have hwl := wo_lits (c := growRTo S x i) (i := i) (by omega)
  have hle := woM_le (growRTo S x i).m (i : Int)
  have hle2 : (growRTo S x i).v &&& woM (growRTo S x i).m (i : Int) ≤ (growRTo S x i).v := Nat.and_le_left
  refine WC_region ?_
  refine WL_val (dd := some 16) rfl rfl rfl (r_fieldAddr (b := _) (o := _) rfl tb_fo79_0) ?_
  refine WL_val (dd := some 17) rfl rfl rfl (r_load2 rfl tb_ag34 (At.cell hm0_1 rfl) (At.cell hm0_1 rfl)) ?_
  refine WL_call (dd := some 18) rfl rfl rfl (r_call1 tb_c86 (v0 := .agg #[_, _]) rfl) (C_drawkniferef02_Literals _ _ _ hg.1 hg.2) (fun v4_2 W28 hE29 hP4_2 => ?_)
  have hsz30 := (Below.size hB)
  replace hB := below_ext hB hE29 (Nat.le_refl _)
  replace hm0_0 := hE29.at hm0_0
  replace hm0_2 := hE29.at hm0_2
  replace hm0_1 := hE29.at hm0_1
  clear hE29
  replace hP4_2 := OwT.mono hP4_2 hsz30
  clear hsz30
  refine WL_val (dd := some 6) rfl rfl rfl (r_assign (v := v4_2) rfl) ?_
  refine WL_nil ?_
  refine hK27 _ _ ?_
  clear hK27 K26
  refine WC_seq (fun K31 hK32 => ?_)
  refine WC_region ?_
  refine WL_val (dd := some 19) rfl rfl rfl (r_move (v := v4_2) rfl) ?_
  refine WL_val (dd := some 20) rfl rfl rfl (r_move (v := .int .i64 _) rfl) ?_
  refine WL_val (dd := some 21) rfl rfl rfl (r_idxS (v := v4_2) rfl hP4_2.sl rfl tb_el57 (by omega) (by first | omega | (simp only [flagsTo_len, litsTo_len, firstF_len, ptF_len, setF_len]; omega))) ?_
  refine WL_step (dd := none) rfl rfl rfl (Y_storeE (v := v4_2) (u := .int .i64 2) (a := 2) (j := _) rfl rfl (.inl ⟨tb_sc3, rfl⟩) encI_len rfl rfl hP4_2 (by omega) (by first | omega | (simp only [flagsTo_len, litsTo_len, firstF_len, ptF_len, setF_len]; omega)) (fun W33 hG34 hm35 => ?_))
  replace hB := below_grown hB hG34 (Nat.le_refl _) (fun j hj => (OwT.lt hP4_2 j hj))
  replace hm0_0 := At.grownOw hm0_0 hP4_2 hG34 (by decide)
  replace hm0_2 := At.grownOw hm0_2 hP4_2 hG34 (by decide)
  replace hm0_1 := At.grownOw hm0_1 hP4_2 hG34 (by decide)
  clear hG34 hP4_2
  have hP4_2 := hm35
  clear hm35
  refine WL_nil ?_
  refine hK32 _ _ ?_
  clear hK32 K31
  refine WC_seq (fun K36 hK37 => ?_)
  refine WC_draw Ext tb_mix (fun W38 hE39 => ?_)
  replace hB := below_ext hB hE39 (Nat.le_refl _)
  replace hm0_0 := hE39.at hm0_0
  replace hm0_2 := hE39.at hm0_2
  replace hm0_1 := hE39.at hm0_1
  replace hP4_2 := hE39.ow hP4_2
  have hS := Ext.refl W38
  refine WT_take (dd := some 22) 0 rfl (by kernel_rfl) (by kernel_rfl) (by kernel_rfl) rfl rfl rfl (fun _wq _hq => r_move (v := v4_2) rfl) hS ?_
  refine WT_take (dd := some 24) 2 rfl (by kernel_rfl) (by kernel_rfl) (by kernel_rfl) rfl rfl rfl (fun _wq _hq => r_fieldAddr (b := _) (o := _) rfl tb_fo79_1) hS ?_
  refine WT_take (dd := some 25) 3 rfl (by kernel_rfl) (by kernel_rfl) (by kernel_rfl) rfl rfl rfl (fun _wq hq => r_load1 (v := .int .u8 _) rfl tb_sc5 (At.cell (hq.at hm0_1) rfl)) hS ?_
  refine WT_two 1 5 (by kernel_rfl) rfl rfl rfl rfl rfl rfl rfl rfl (Yd.call (r_call1 tb_c127 (v0 := v4_2) rfl) (C_drawkniferef02_Cube _ _ _ hP4_2.sl hwl) (fun v6_1 W40 hE41 hP6_1 => ⟨.inl (hS.trans hE41), ?_⟩)) (Y_alloc tb_z79 rfl (fun b6_5 W44 hb45 hE46 hm6_5 => ⟨.inl (hS.trans hE46), ?_⟩))
  ·
   have hsz42 := (Below.size hB)
   have sv43_hB := hB
   have sv43_hm0_0 := hm0_0
   have sv43_hm0_2 := hm0_2
   have sv43_hm0_1 := hm0_1
   have sv43_hP4_2 := hP4_2
   replace hB := below_ext hB hE41 (Nat.le_refl _)
   replace hm0_0 := hE41.at hm0_0
   replace hm0_2 := hE41.at hm0_2
   replace hm0_1 := hE41.at hm0_1
   replace hP4_2 := hE41.ow hP4_2
   replace hS := hS.trans hE41
   clear hE41
   rw [hw.1, hw.2] at hP6_1
   obtain rfl := hP6_1
   clear hsz42
   refine WT_take (dd := some 26) 4 rfl (by kernel_rfl) (by kernel_rfl) (by kernel_rfl) rfl rfl rfl (fun _wq _hq => tb_build79_0_1 (h0 := rfl) (h1 := rfl) (k1 := rfl) (c1_0 := .int .u8 _)) hS ?_
   refine WT_one (dd := some 7) 5 (by kernel_rfl) rfl rfl rfl rfl (Y_alloc tb_z79 rfl (fun b6_5 W48 hb49 hE50 hm6_5 => ⟨.inl (hS.trans hE50), ?_⟩))
   have lo_b6_5 : w.heap.size ≤ b6_5 := hb49 ▸ (Below.size hB)
   have ne_b0_2_b6_5 : b0_2 ≠ b6_5 := Nat.ne_of_lt (hb49 ▸ hm0_2.lt)
   have ne_b0_1_b6_5 : b0_1 ≠ b6_5 := Nat.ne_of_lt (hb49 ▸ hm0_1.lt)
   clear hb49
   replace hB := below_ext hB hE50 (Nat.le_refl _)
   replace hm0_0 := hE50.at hm0_0
   replace hm0_2 := hE50.at hm0_2
   replace hm0_1 := hE50.at hm0_1
   replace hP4_2 := hE50.ow hP4_2
   replace hS := hS.trans hE50
   clear hE50
   refine WT_one (dd := none) 6 (by kernel_rfl) rfl rfl rfl rfl (Y_storeW rfl rfl tb_ag79 rfl hm6_5 rfl (by rfl) (fun W51 hG52 hm53 => ⟨.inr (by kernel_rfl), ?_⟩))
   replace hB := below_grown hB hG52 (Nat.le_refl _) (fun j hj => by cases hj; exact lo_b6_5)
   replace hm0_0 := At.grownAt hm0_0 hm6_5 hG52 (by decide)
   replace hm0_2 := At.grownNe hm0_2 ne_b0_2_b6_5 hG52
   replace hm0_1 := At.grownNe hm0_1 ne_b0_1_b6_5 hG52
   replace hP4_2 := OwT.grownAt hP4_2 hm6_5 hG52 (by decide)
   clear hG52 hm6_5
   have hm6_5 := hm53
   clear hm53
   refine WT_done (by kernel_rfl) ?_
   try clear sv43_hB sv43_hm0_0 sv43_hm0_2 sv43_hm0_1 sv43_hP4_2
   refine hK37 _ _ ?_
   clear hK37 K36
   refine WC_seq (fun K54 hK55 => ?_)
   refine WC_region ?_
   refine WL_val (dd := some 27) rfl rfl rfl (r_loadW rfl tb_ag64 rfl hm0_0) ?_
   refine WL_val (dd := some 28) rfl rfl rfl (r_loadW rfl tb_ag79 rfl hm6_5) ?_
   refine WL_call (dd := some 29) rfl rfl rfl (r_call2 tb_c65 (v0 := .agg #[_, _, _]) rfl (v1 := .agg #[_, _, _]) rfl) (C_drawkniferef10_Within S _ _ (woC (growRTo S x i) i).m (woC (growRTo S x i) i).v x.o _ (Below.slT hB hon) (Below.slT hB hmay) (inR_iff.1 hi).1 (by show woM (growRTo S x i).m (i : Int) < 256; omega) (by show (growRTo S x i).v &&& woM (growRTo S x i).m (i : Int) < 256; omega) hbx.2.2) (fun v7_2 W56 hE57 hP7_2 => ?_)
   have hsz58 := (Below.size hB)
   replace hB := below_ext hB hE57 (Nat.le_refl _)
   replace hm0_0 := hE57.at hm0_0
   replace hm0_2 := hE57.at hm0_2
   replace hm0_1 := hE57.at hm0_1
   replace hP4_2 := hE57.ow hP4_2
   replace hm6_5 := hE57.at hm6_5
   clear hE57
   clear hsz58
   obtain rfl := hP7_2
   refine WL_nil ?_
   refine hK55 _ _ ?_
   clear hK55 K54
   refine WC_cond (b := _) rfl (fun hc1 => ?_) (fun hc1 => ?_)
   ·
    try with_reducible replace hc1 := of_decide_eq_true hc1
    refine WC_region ?_
    refine WL_val (dd := some 30) rfl rfl rfl (r_loadW rfl tb_ag79 rfl hm6_5) ?_
    refine WL_step (dd := none) rfl rfl rfl (Y_storeW rfl rfl tb_ag79 rfl hm0_1 rfl (by rfl) (fun W59 hG60 hm61 => ?_))
    replace hB := below_grown hB hG60 (Nat.le_refl _) (fun j hj => by cases hj; exact lo_b0_1)
    replace hm0_0 := At.grownAt hm0_0 hm0_1 hG60 (by decide)
    replace hm0_2 := At.grownNe hm0_2 (Ne.symm ne_b0_1_b0_2) hG60
    replace hP4_2 := OwT.grownAt hP4_2 hm0_1 hG60 (by decide)
    replace hm6_5 := At.grownNe hm6_5 (Ne.symm ne_b0_1_b6_5) hG60
    clear hG60 hm0_1
    have hm0_1 := hm61
    clear hm61
    refine WL_nil ?_
    refine hK25 _ _ ?_
    clear hK25 K24
    refine WC_region ?_
    refine WL_val (dd := some 14) rfl rfl rfl (r_move (v := .int .i64 _) rfl) ?_
    refine WL_val (dd := some 15) rfl rfl rfl (r_addI rfl rfl (by omega) (by omega)) ?_
    refine WL_val (dd := some 5) rfl rfl rfl (r_assign (v := .int .i64 _) rfl) ?_
    refine WL_nil ?_
    refine hJ19 _ _ (i + 1) ?_ ?_ ?_ ?_
    · repeat (first | exact agree.mask _ _ _ | refine agree.updo ?_ rfl _ | refine agree.updL ?_ _ rfl | refine agree.maskS rfl ?_)
    · exact ⟨rfl, trivial⟩
    · exact ⟨hB, hm0_0, hm0_2, (by first | (rw [← growR_t hc1]; exact hm0_1) | (rw [← growR_f hc1]; exact hm0_1)), (by omega), trivial⟩
    · first | omega | (dsimp only; omega)
   ·
    try with_reducible replace hc1 := of_decide_eq_false hc1
    refine WC_skip ?_
    refine hK25 _ _ ?_
    clear hK25 K24
    refine WC_region ?_
    refine WL_val (dd := some 14) rfl rfl rfl (r_move (v := .int .i64 _) rfl) ?_
    refine WL_val (dd := some 15) rfl rfl rfl (r_addI rfl rfl (by omega) (by omega)) ?_
    refine WL_val (dd := some 5) rfl rfl rfl (r_assign (v := .int .i64 _) rfl) ?_
    refine WL_nil ?_
    refine hJ19 _ _ (i + 1) ?_ ?_ ?_ ?_
    · repeat (first | exact agree.mask _ _ _ | refine agree.updo ?_ rfl _ | refine agree.updL ?_ _ rfl | refine agree.maskS rfl ?_)
    · exact ⟨rfl, trivial⟩
    · exact ⟨hB, hm0_0, hm0_2, (by first | (rw [← growR_t hc1]; exact hm0_1) | (rw [← growR_f hc1]; exact hm0_1)), (by omega), trivial⟩
    · first | omega | (dsimp only; omega)
  ·
   have lo_b6_5 : w.heap.size ≤ b6_5 := hb45 ▸ (Below.size hB)
   have ne_b0_2_b6_5 : b0_2 ≠ b6_5 := Nat.ne_of_lt (hb45 ▸ hm0_2.lt)
   have ne_b0_1_b6_5 : b0_1 ≠ b6_5 := Nat.ne_of_lt (hb45 ▸ hm0_1.lt)
   clear hb45
   have sv47_hB := hB
   have sv47_hm0_0 := hm0_0
   have sv47_hm0_2 := hm0_2
   have sv47_hm0_1 := hm0_1
   have sv47_hP4_2 := hP4_2
   replace hB := below_ext hB hE46 (Nat.le_refl _)
   replace hm0_0 := hE46.at hm0_0
   replace hm0_2 := hE46.at hm0_2
   replace hm0_1 := hE46.at hm0_1
   replace hP4_2 := hE46.ow hP4_2
   replace hS := hS.trans hE46
   clear hE46
   refine WT_one (dd := some 23) 1 (by kernel_rfl) rfl rfl rfl rfl (Yd.call (r_call1 tb_c127 (v0 := v4_2) rfl) (C_drawkniferef02_Cube _ _ _ hP4_2.sl hwl) (fun v6_1 W62 hE63 hP6_1 => ⟨.inl (hS.trans hE63), ?_⟩))
   have hsz64 := (Below.size hB)
   replace hB := below_ext hB hE63 (Nat.le_refl _)
   replace hm0_0 := hE63.at hm0_0
   replace hm0_2 := hE63.at hm0_2
   replace hm0_1 := hE63.at hm0_1
   replace hP4_2 := hE63.ow hP4_2
   replace hm6_5 := hE63.at hm6_5
   replace hS := hS.trans hE63
   clear hE63
   rw [hw.1, hw.2] at hP6_1
   obtain rfl := hP6_1
   clear hsz64
   refine WT_take (dd := some 26) 4 rfl (by kernel_rfl) (by kernel_rfl) (by kernel_rfl) rfl rfl rfl (fun _wq _hq => tb_build79_0_1 (h0 := rfl) (h1 := rfl) (k1 := rfl) (c1_0 := .int .u8 _)) hS ?_
   refine WT_one (dd := none) 6 (by kernel_rfl) rfl rfl rfl rfl (Y_storeW rfl rfl tb_ag79 rfl hm6_5 rfl (by rfl) (fun W65 hG66 hm67 => ⟨.inr (by kernel_rfl), ?_⟩))
   replace hB := below_grown hB hG66 (Nat.le_refl _) (fun j hj => by cases hj; exact lo_b6_5)
   replace hm0_0 := At.grownAt hm0_0 hm6_5 hG66 (by decide)
   replace hm0_2 := At.grownNe hm0_2 ne_b0_2_b6_5 hG66
   replace hm0_1 := At.grownNe hm0_1 ne_b0_1_b6_5 hG66
   replace hP4_2 := OwT.grownAt hP4_2 hm6_5 hG66 (by decide)
   clear hG66 hm6_5
   have hm6_5 := hm67
   clear hm67
   refine WT_done (by kernel_rfl) ?_
   try clear sv47_hB sv47_hm0_0 sv47_hm0_2 sv47_hm0_1 sv47_hP4_2
   refine hK37 _ _ ?_
   clear hK37 K36
   refine WC_seq (fun K68 hK69 => ?_)
   refine WC_region ?_
   refine WL_val (dd := some 27) rfl rfl rfl (r_loadW rfl tb_ag64 rfl hm0_0) ?_
   refine WL_val (dd := some 28) rfl rfl rfl (r_loadW rfl tb_ag79 rfl hm6_5) ?_
   refine WL_call (dd := some 29) rfl rfl rfl (r_call2 tb_c65 (v0 := .agg #[_, _, _]) rfl (v1 := .agg #[_, _, _]) rfl) (C_drawkniferef10_Within S _ _ (woC (growRTo S x i) i).m (woC (growRTo S x i) i).v x.o _ (Below.slT hB hon) (Below.slT hB hmay) (inR_iff.1 hi).1 (by show woM (growRTo S x i).m (i : Int) < 256; omega) (by show (growRTo S x i).v &&& woM (growRTo S x i).m (i : Int) < 256; omega) hbx.2.2) (fun v7_2 W70 hE71 hP7_2 => ?_)
   have hsz72 := (Below.size hB)
   replace hB := below_ext hB hE71 (Nat.le_refl _)
   replace hm0_0 := hE71.at hm0_0
   replace hm0_2 := hE71.at hm0_2
   replace hm0_1 := hE71.at hm0_1
   replace hP4_2 := hE71.ow hP4_2
   replace hm6_5 := hE71.at hm6_5
   clear hE71
   clear hsz72
   obtain rfl := hP7_2
   refine WL_nil ?_
   refine hK69 _ _ ?_
   clear hK69 K68
   refine WC_cond (b := _) rfl (fun hc1 => ?_) (fun hc1 => ?_)
   ·
    try with_reducible replace hc1 := of_decide_eq_true hc1
    refine WC_region ?_
    refine WL_val (dd := some 30) rfl rfl rfl (r_loadW rfl tb_ag79 rfl hm6_5) ?_
    refine WL_step (dd := none) rfl rfl rfl (Y_storeW rfl rfl tb_ag79 rfl hm0_1 rfl (by rfl) (fun W73 hG74 hm75 => ?_))
    replace hB := below_grown hB hG74 (Nat.le_refl _) (fun j hj => by cases hj; exact lo_b0_1)
    replace hm0_0 := At.grownAt hm0_0 hm0_1 hG74 (by decide)
    replace hm0_2 := At.grownNe hm0_2 (Ne.symm ne_b0_1_b0_2) hG74
    replace hP4_2 := OwT.grownAt hP4_2 hm0_1 hG74 (by decide)
    replace hm6_5 := At.grownNe hm6_5 (Ne.symm ne_b0_1_b6_5) hG74
    clear hG74 hm0_1
    have hm0_1 := hm75
    clear hm75
    refine WL_nil ?_
    refine hK25 _ _ ?_
    clear hK25 K24
    refine WC_region ?_
    refine WL_val (dd := some 14) rfl rfl rfl (r_move (v := .int .i64 _) rfl) ?_
    refine WL_val (dd := some 15) rfl rfl rfl (r_addI rfl rfl (by omega) (by omega)) ?_
    refine WL_val (dd := some 5) rfl rfl rfl (r_assign (v := .int .i64 _) rfl) ?_
    refine WL_nil ?_
    refine hJ19 _ _ (i + 1) ?_ ?_ ?_ ?_
    · repeat (first | exact agree.mask _ _ _ | refine agree.updo ?_ rfl _ | refine agree.updL ?_ _ rfl | refine agree.maskS rfl ?_)
    · exact ⟨rfl, trivial⟩
    · exact ⟨hB, hm0_0, hm0_2, (by first | (rw [← growR_t hc1]; exact hm0_1) | (rw [← growR_f hc1]; exact hm0_1)), (by omega), trivial⟩
    · first | omega | (dsimp only; omega)
   ·
    try with_reducible replace hc1 := of_decide_eq_false hc1
    refine WC_skip ?_
    refine hK25 _ _ ?_
    clear hK25 K24
    refine WC_region ?_
    refine WL_val (dd := some 14) rfl rfl rfl (r_move (v := .int .i64 _) rfl) ?_
    refine WL_val (dd := some 15) rfl rfl rfl (r_addI rfl rfl (by omega) (by omega)) ?_
    refine WL_val (dd := some 5) rfl rfl rfl (r_assign (v := .int .i64 _) rfl) ?_
    refine WL_nil ?_
    refine hJ19 _ _ (i + 1) ?_ ?_ ?_ ?_
    · repeat (first | exact agree.mask _ _ _ | refine agree.updo ?_ rfl _ | refine agree.updL ?_ _ rfl | refine agree.maskS rfl ?_)
    · exact ⟨rfl, trivial⟩
    · exact ⟨hB, hm0_0, hm0_2, (by first | (rw [← growR_t hc1]; exact hm0_1) | (rw [← growR_f hc1]; exact hm0_1)), (by omega), trivial⟩
    · first | omega | (dsimp only; omega)
 ·
  try with_reducible replace hc0 := of_decide_eq_false hc0
  refine WC_exit ?_
  refine hK13 _ _ ?_
  clear hK21 K20
  clear hJ19 J18
  clear hK13 K12
  refine WC_seq (fun K76 hK77 => ?_)
  obtain rfl : i = S.n.toNat := by omega
  have hin2 := growRTo_in hi S.n.toNat
  have hg2 := growR_lt (S := S) (x := x) ⟨hbx.1, hbx.2.1⟩ S.n.toNat
  refine WC_region ?_
  refine WL_val (dd := some 8) rfl rfl rfl (r_assign (v := .int .u8 1) rfl) ?_
  refine WL_nil ?_
  refine hK77 _ _ ?_
  clear hK77 K76
  refine WC_seq (fun K78 hK79 => ?_)
  refine WC_seq (fun K80 hK81 => ?_)
  refine WC_region ?_
  refine WL_val (dd := some 9) rfl rfl rfl (r_assign (v := .int .i64 0) rfl) ?_
  refine WL_nil ?_
  refine hK81 _ _ ?_
  clear hK81 K80
  refine WC_block ?_
  refine WC_loop (σ := (Nat)) [8, 9, 31, 32, 33, 34, 35, 36, 37, 38, 39, 40, 41, 42, 43, 44, 45, 46, 47, 48, 49, 50, 51, 52, 53, 54, 55, 56, 57, 58, 59, 60] (fun j => [(9, .int .i64 (j : Int)), (8, .int .u8 ((2 ^ j % 256 : Nat) : Int))]) (fun j W => (Below w.heap.size w W) ∧ (At W b0_0 _ 64) ∧ (At W b0_2 _ 79) ∧ (At W b0_1 #[.int .u8 ((growRTo S x S.n.toNat).m : Int), .int .u8 ((growRTo S x S.n.toNat).v : Int), .int .u8 ((addTo S (growRTo S x S.n.toNat) x.o j : Nat) : Int)] 79) ∧ (j ≤ S.on.length) ∧ (True)) (fun j => S.on.length - j) (0) ⟨rfl, rfl, trivial⟩ ⟨hB, hm0_0, hm0_2, hm0_1, (Nat.zero_le _), trivial⟩ ?_
  clear hB hm0_0 hm0_2 hm0_1
  rintro j g83 W82 ⟨hB, hm0_0, hm0_2, hm0_1, hj, _⟩ J84 hJ85
  refine WC_seq (fun K86 hK87 => ?_)
  refine WC_seq (fun K88 hK89 => ?_)
  refine WC_region ?_
  refine WL_val (dd := some 31) rfl rfl rfl (r_move (v := .int .i64 _) rfl) ?_
  refine WL_val (dd := some 32) rfl rfl rfl (r_fieldAddr (b := _) (o := _) rfl tb_fo64_1) ?_
  refine WL_val (dd := some 33) rfl rfl rfl (r_load1 (v := onV) rfl tb_sc62 (At.cell hm0_0 rfl)) ?_
  refine WL_val (dd := some 34) rfl rfl rfl (r_lenS (v := onV) rfl (Below.slT hB hon) tb_el62) ?_
  refine WL_val (dd := some 35) rfl rfl rfl (r_lss rfl rfl) ?_
  refine WL_nil ?_
  refine hK89 _ _ ?_
  clear hK89 K88
  refine WC_cond (b := _) rfl (fun hc2 => ?_) (fun hc2 => ?_)
  ·
   try with_reducible replace hc2 := of_decide_eq_true hc2
   refine WC_skip ?_
   refine hK87 _ _ ?_
   clear hK87 K86
   refine WC_seq (fun K90 hK91 => ?_)
   refine WC_block ?_
   refine WC_seq (fun K92 hK93 => ?_)
   refine WC_seq (fun K94 hK95 => ?_)
   have hal := add_lt hin2 j
   have h7 := pow7 (show j < 8 by omega)
   have hmod : 2 ^ j % 256 = 2 ^ j := Nat.mod_eq_of_lt (by omega)
   rw [hmod]
   refine WC_region ?_
   refine WL_val (dd := some 38) rfl rfl rfl (r_fieldAddr (b := _) (o := _) rfl tb_fo79_1) ?_
   refine WL_val (dd := some 39) rfl rfl rfl (r_load1 (v := .int .u8 _) rfl tb_sc5 (At.cell hm0_1 rfl)) ?_
   refine WL_val (dd := some 40) rfl rfl rfl (r_move (v := .int .i64 _) rfl) ?_
   refine WL_call (dd := some 41) rfl rfl rfl (r_call2 tb_c112 (v0 := .int .u8 _) rfl (v1 := .int .i64 _) rfl) (C_drawkniferef04_Bit _ _ _ (by omega) (by omega)) (fun v13_3 W96 hE97 hP13_3 => ?_)
   have hsz98 := (Below.size hB)
   replace hB := below_ext hB hE97 (Nat.le_refl _)
   replace hm0_0 := hE97.at hm0_0
   replace hm0_2 := hE97.at hm0_2
   replace hm0_1 := hE97.at hm0_1
   clear hE97
   clear hsz98
   obtain rfl := hP13_3
   refine WL_val (dd := some 42) rfl rfl rfl (r_not rfl) ?_
   refine WL_split (dd := some 43) rfl rfl rfl (r_move (v := .bool _) rfl) (fun hs13_5 => ?_) (fun hs13_5 => ?_)
   ·
    try with_reducible replace hs13_5 := of_decide_eq_true hs13_5
    refine WL_val (dd := some 44) rfl rfl rfl (r_loadW rfl tb_ag64 rfl hm0_0) ?_
    refine WL_val (dd := some 45) rfl rfl rfl (r_fieldAddr (b := _) (o := _) rfl tb_fo79_0) ?_
    refine WL_val (dd := some 46) rfl rfl rfl (r_load2 rfl tb_ag34 (At.cell hm0_1 rfl) (At.cell hm0_1 rfl)) ?_
    refine WL_val (dd := some 47) rfl rfl rfl (r_fieldAddr (b := _) (o := _) rfl tb_fo79_1) ?_
    refine WL_val (dd := some 48) rfl rfl rfl (r_load1 (v := .int .u8 _) rfl tb_sc5 (At.cell hm0_1 rfl)) ?_
    refine WL_val (dd := some 49) rfl rfl rfl (r_move (v := .int .u8 _) rfl) ?_
    refine WL_val (dd := some 50) rfl rfl rfl (r_addN rfl (n := (2 ^ j)) rfl rfl (by simp only [topN]; omega)) ?_
    refine WL_val (dd := some 51) rfl rfl rfl (tb_build79_0_1 (h0 := rfl) (h1 := rfl) (k1 := rfl) (c1_0 := .int .u8 _)) ?_
    refine WL_call (dd := some 52) rfl rfl rfl (r_call2 tb_c65 (v0 := .agg #[_, _, _]) rfl (v1 := .agg #[_, _, _]) rfl) (C_drawkniferef10_Within S _ _ (growRTo S x S.n.toNat).m (growRTo S x S.n.toNat).v (addTo S (growRTo S x S.n.toNat) x.o j + 2 ^ j) _ (Below.slT hB hon) (Below.slT hB hmay) (inR_iff.1 hi).1 hg2.1 hg2.2 (by omega)) (fun v13_14 W99 hE100 hP13_14 => ?_)
    have hsz101 := (Below.size hB)
    replace hB := below_ext hB hE100 (Nat.le_refl _)
    replace hm0_0 := hE100.at hm0_0
    replace hm0_2 := hE100.at hm0_2
    replace hm0_1 := hE100.at hm0_1
    clear hE100
    clear hsz101
    obtain rfl := hP13_14
    refine WL_val (dd := some 53) rfl rfl rfl (r_pick_t rfl (v := .bool _) rfl) ?_
    refine WL_nil ?_
    refine hK95 _ _ ?_
    clear hK95 K94
    refine WC_cond (b := _) rfl (fun hc3 => ?_) (fun hc3 => ?_)
    ·
     try with_reducible replace hc3 := of_decide_eq_true hc3
     refine WC_region ?_
     refine WL_val (dd := some 54) rfl rfl rfl (r_fieldAddr (b := _) (o := _) rfl tb_fo79_1) ?_
     refine WL_val (dd := some 55) rfl rfl rfl (r_load1 (v := .int .u8 _) rfl tb_sc5 (At.cell hm0_1 rfl)) ?_
     refine WL_val (dd := some 56) rfl rfl rfl (r_move (v := .int .u8 _) rfl) ?_
     refine WL_val (dd := some 57) rfl rfl rfl (r_addN rfl (n := (2 ^ j)) rfl rfl (by simp only [topN]; omega)) ?_
     refine WL_val (dd := some 58) rfl rfl rfl (r_fieldAddr (b := _) (o := _) rfl tb_fo79_1) ?_
     refine WL_step (dd := none) rfl rfl rfl (Y_store1 (v := .int .u8 _) rfl rfl tb_sc5 rfl hm0_1 (by simp) (fun W102 hG103 hm104 => ?_))
     replace hB := below_grown hB hG103 (Nat.le_refl _) (fun j hj => by cases hj; exact lo_b0_1)
     replace hm0_0 := At.grownAt hm0_0 hm0_1 hG103 (by decide)
     replace hm0_2 := At.grownNe hm0_2 (Ne.symm ne_b0_1_b0_2) hG103
     clear hG103 hm0_1
     have hm0_1 := hm104
     clear hm104
     replace hm0_1 : At _ _ #[_, _, _] _ := hm0_1
     refine WL_nil ?_
     refine hK93 _ _ ?_
     clear hK93 K92
     refine WC_region ?_
     refine WL_val (dd := some 59) rfl rfl rfl (r_move (v := .int .u8 _) rfl) ?_
     refine WL_val (dd := some 60) rfl rfl rfl (r_mulW8 (n := 2) rfl rfl rfl) ?_
     refine WL_val (dd := some 8) rfl rfl rfl (r_assign (v := .int .u8 _) rfl) ?_
     refine WL_nil ?_
     refine hK91 _ _ ?_
     clear hK91 K90
     refine WC_region ?_
     refine WL_val (dd := some 36) rfl rfl rfl (r_move (v := .int .i64 _) rfl) ?_
     refine WL_val (dd := some 37) rfl rfl rfl (r_addI rfl rfl (by omega) (by omega)) ?_
     refine WL_val (dd := some 9) rfl rfl rfl (r_assign (v := .int .i64 _) rfl) ?_
     refine WL_nil ?_
     refine hJ85 _ _ (j + 1) ?_ ?_ ?_ ?_
     · repeat (first | exact agree.mask _ _ _ | refine agree.updo ?_ rfl _ | refine agree.updL ?_ _ rfl | refine agree.maskS rfl ?_)
     · exact ⟨rfl, congrArg (fun q : Nat => Value.int .u8 (q : Int)) (by first | exact two8_step (by omega) | (rw [hmod]; exact two8_step (by omega))), trivial⟩
     · exact ⟨hB, hm0_0, hm0_2, (by first | (rw [← add_t (not_t hs13_5) hc3]; exact hm0_1) | (rw [← add_f2 (not_t hs13_5) hc3]; exact hm0_1) | (rw [← add_f1 (not_f hs13_5)]; exact hm0_1)), (by omega), trivial⟩
     · first | omega | (dsimp only; omega)
    ·
     try with_reducible replace hc3 := of_decide_eq_false hc3
     refine WC_skip ?_
     refine hK93 _ _ ?_
     clear hK93 K92
     refine WC_region ?_
     refine WL_val (dd := some 59) rfl rfl rfl (r_move (v := .int .u8 _) rfl) ?_
     refine WL_val (dd := some 60) rfl rfl rfl (r_mulW8 (n := 2) rfl rfl rfl) ?_
     refine WL_val (dd := some 8) rfl rfl rfl (r_assign (v := .int .u8 _) rfl) ?_
     refine WL_nil ?_
     refine hK91 _ _ ?_
     clear hK91 K90
     refine WC_region ?_
     refine WL_val (dd := some 36) rfl rfl rfl (r_move (v := .int .i64 _) rfl) ?_
     refine WL_val (dd := some 37) rfl rfl rfl (r_addI rfl rfl (by omega) (by omega)) ?_
     refine WL_val (dd := some 9) rfl rfl rfl (r_assign (v := .int .i64 _) rfl) ?_
     refine WL_nil ?_
     refine hJ85 _ _ (j + 1) ?_ ?_ ?_ ?_
     · repeat (first | exact agree.mask _ _ _ | refine agree.updo ?_ rfl _ | refine agree.updL ?_ _ rfl | refine agree.maskS rfl ?_)
     · exact ⟨rfl, congrArg (fun q : Nat => Value.int .u8 (q : Int)) (by first | exact two8_step (by omega) | (rw [hmod]; exact two8_step (by omega))), trivial⟩
     · exact ⟨hB, hm0_0, hm0_2, (by first | (rw [← add_t (not_t hs13_5) hc3]; exact hm0_1) | (rw [← add_f2 (not_t hs13_5) hc3]; exact hm0_1) | (rw [← add_f1 (not_f hs13_5)]; exact hm0_1)), (by omega), trivial⟩
     · first | omega | (dsimp only; omega)
   ·
    try with_reducible replace hs13_5 := of_decide_eq_false hs13_5
    refine WL_skip (dd := some 44) rfl rfl rfl ?_
    refine WL_skip (dd := some 45) rfl rfl rfl ?_
    refine WL_skip (dd := some 46) rfl rfl rfl ?_
    refine WL_skip (dd := some 47) rfl rfl rfl ?_
    refine WL_skip (dd := some 48) rfl rfl rfl ?_
    refine WL_skip (dd := some 49) rfl rfl rfl ?_
    refine WL_skip (dd := some 50) rfl rfl rfl ?_
    refine WL_skip (dd := some 51) rfl rfl rfl ?_
    refine WL_skip (dd := some 52) rfl rfl rfl ?_
    refine WL_val (dd := some 53) rfl rfl rfl (r_pick_f rfl (v := .bool false) rfl) ?_
    refine WL_nil ?_
    refine hK95 _ _ ?_
    clear hK95 K94
    refine WC_cond_false rfl ?_
    refine WC_skip ?_
    refine hK93 _ _ ?_
    clear hK93 K92
    refine WC_region ?_
    refine WL_val (dd := some 59) rfl rfl rfl (r_move (v := .int .u8 _) rfl) ?_
    refine WL_val (dd := some 60) rfl rfl rfl (r_mulW8 (n := 2) rfl rfl rfl) ?_
    refine WL_val (dd := some 8) rfl rfl rfl (r_assign (v := .int .u8 _) rfl) ?_
    refine WL_nil ?_
    refine hK91 _ _ ?_
    clear hK91 K90
    refine WC_region ?_
    refine WL_val (dd := some 36) rfl rfl rfl (r_move (v := .int .i64 _) rfl) ?_
    refine WL_val (dd := some 37) rfl rfl rfl (r_addI rfl rfl (by omega) (by omega)) ?_
    refine WL_val (dd := some 9) rfl rfl rfl (r_assign (v := .int .i64 _) rfl) ?_
    refine WL_nil ?_
    refine hJ85 _ _ (j + 1) ?_ ?_ ?_ ?_
    · repeat (first | exact agree.mask _ _ _ | refine agree.updo ?_ rfl _ | refine agree.updL ?_ _ rfl | refine agree.maskS rfl ?_)
    · exact ⟨rfl, congrArg (fun q : Nat => Value.int .u8 (q : Int)) (by first | exact two8_step (by omega) | (rw [hmod]; exact two8_step (by omega))), trivial⟩
    · exact ⟨hB, hm0_0, hm0_2, (by first | (rw [← add_t (not_t hs13_5) hc3]; exact hm0_1) | (rw [← add_f2 (not_t hs13_5) hc3]; exact hm0_1) | (rw [← add_f1 (not_f hs13_5)]; exact hm0_1)), (by omega), trivial⟩
    · first | omega | (dsimp only; omega)
  ·
   try with_reducible replace hc2 := of_decide_eq_false hc2
   refine WC_exit ?_
   refine hK79 _ _ ?_
   clear hK87 K86
   clear hJ85 J84
   clear hK79 K78
   refine WC_seq (fun K105 hK106 => ?_)
   refine WC_region ?_
   refine WL_val (dd := some 61) rfl rfl rfl (r_loadW rfl tb_ag79 rfl hm0_1) ?_
   refine WL_step (dd := none) rfl rfl rfl (Y_storeW rfl rfl tb_ag79 rfl hm0_2 rfl (by rfl) (fun W107 hG108 hm109 => ?_))
   replace hB := below_grown hB hG108 (Nat.le_refl _) (fun j hj => by cases hj; exact lo_b0_2)
   replace hm0_0 := At.grownAt hm0_0 hm0_2 hG108 (by decide)
   replace hm0_1 := At.grownNe hm0_1 ne_b0_1_b0_2 hG108
   clear hG108 hm0_2
   have hm0_2 := hm109
   clear hm109
   refine WL_nil ?_
   refine hK106 _ _ ?_
   clear hK106 K105
   refine WC_ret ?_
   repeat (first | refine thenQ_ret ?_ | refine blockQ_ret ?_)
   refine ret_c rfl tb_ag79 hm0_2 rfl ?_
   refine ⟨hB, ?_⟩
   obtain rfl : j = S.on.length := by omega
   rw [← growR_in hi, ← h5]

theorem C_drawknifelaw10_Great (S : Sp) (onV mayV : Value) (w : World) (hon : SlT encS 4 w onV S.on) (hmay : SlT encS 4 w mayV S.may) :
    Fn Try.prog 57 #[.agg #[.int .i64 S.n, onV, mayV]] w fun v w' => v = .bool (greatS S) := by
 refine Fn_intro (n := 13) Try.func57 rfl rfl (Nat.le_of_ble_eq_true rfl) ?_
 have hB : Below w.heap.size w w := Below.refl _ _
 refine WC_seq (fun K1 hK2 => ?_)
 refine WC_region ?_
 refine WL_step (dd := some 1) rfl rfl rfl (Y_box (c := #[_, _, _]) rfl rfl (fun b0_0 W3 hb4 hE5 hm0_0 => ?_))
 have lo_b0_0 : w.heap.size ≤ b0_0 := hb4 ▸ (Below.size hB)
 clear hb4
 replace hB := below_ext hB hE5 (Nat.le_refl _)
 clear hE5
 refine WL_val (dd := some 2) rfl rfl rfl (r_assign (v := .bool false) rfl) ?_
 refine WL_nil ?_
 refine hK2 _ _ ?_
 clear hK2 K1
 refine WC_seq (fun K6 hK7 => ?_)
 refine WC_region ?_
 refine WL_val (dd := some 3) rfl rfl rfl (r_fieldAddr (b := _) (o := _) rfl tb_fo64_1) ?_
 refine WL_val (dd := some 4) rfl rfl rfl (r_load1 (v := onV) rfl tb_sc62 (At.cell hm0_0 rfl)) ?_
 refine WL_val (dd := some 5) rfl rfl rfl (r_lenS (v := onV) rfl (Below.slT hB hon) tb_el62) ?_
 refine WL_val (dd := some 6) rfl rfl rfl (r_gtr rfl rfl) ?_
 refine WL_split (dd := some 7) rfl rfl rfl (r_move (v := .bool _) rfl) (fun hs1_4 => ?_) (fun hs1_4 => ?_)
 ·
  try with_reducible replace hs1_4 := of_decide_eq_true hs1_4
  refine WL_skip (dd := some 8) rfl rfl rfl ?_
  refine WL_skip (dd := some 9) rfl rfl rfl ?_
  refine WL_skip (dd := some 10) rfl rfl rfl ?_
  refine WL_skip (dd := some 11) rfl rfl rfl ?_
  refine WL_val (dd := some 12) rfl rfl rfl (r_pick_t rfl (v := .bool true) rfl) ?_
  refine WL_val (dd := some 2) rfl rfl rfl (r_assign (v := .bool true) rfl) ?_
  refine WL_nil ?_
  refine hK7 _ _ ?_
  clear hK7 K6
  refine WC_ret ?_
  repeat (first | refine thenQ_ret ?_ | refine blockQ_ret ?_)
  refine ret_t (v := .bool true) rfl ?_
  refine ⟨hB, ?_⟩
  first | exact congrArg Value.bool (great_1 hs1_4) | exact congrArg Value.bool (great_2 hs1_4)
 ·
  try with_reducible replace hs1_4 := of_decide_eq_false hs1_4
  refine WL_val (dd := some 8) rfl rfl rfl (r_fieldAddr (b := _) (o := _) rfl tb_fo64_2) ?_
  refine WL_val (dd := some 9) rfl rfl rfl (r_load1 (v := mayV) rfl tb_sc62 (At.cell hm0_0 rfl)) ?_
  refine WL_val (dd := some 10) rfl rfl rfl (r_lenS (v := mayV) rfl (Below.slT hB hmay) tb_el62) ?_
  refine WL_val (dd := some 11) rfl rfl rfl (r_gtr rfl rfl) ?_
  refine WL_val (dd := some 12) rfl rfl rfl (r_pick_f rfl (v := .bool _) rfl) ?_
  refine WL_val (dd := some 2) rfl rfl rfl (r_assign (v := .bool _) rfl) ?_
  refine WL_nil ?_
  refine hK7 _ _ ?_
  clear hK7 K6
  refine WC_ret ?_
  repeat (first | refine thenQ_ret ?_ | refine blockQ_ret ?_)
  refine ret_t (v := .bool _) rfl ?_
  refine ⟨hB, ?_⟩
  first | exact congrArg Value.bool (great_1 hs1_4) | exact congrArg Value.bool (great_2 hs1_4)

end Go.Proofs.Ytdbcijijhhbkaaa
