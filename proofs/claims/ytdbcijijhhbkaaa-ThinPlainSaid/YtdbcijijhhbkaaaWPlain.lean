/-
  The walk of plain rows.
-/
import Derived.Test.YtdbcijijhhbkaaaProg
import Derived.Test.YtdbcijijhhbkaaaWThin
import Derived.Test.YtdbcijijhhbkaaaWRef12
import Derived.Test.YtdbcijijhhbkaaaThin2
namespace Go.Proofs.Ytdbcijijhhbkaaa
set_option linter.unusedVariables false
set_option linter.unusedSimpArgs false
open Go Go.RowKit

theorem tb_c43 : callB Try.prog 43 = true := by kernel_rfl
theorem tb_c62 : callB Try.prog 62 = true := by kernel_rfl
theorem tb_mp128 : isMap Try.prog 128 = some (79, 4) := by kernel_rfl
theorem tb_eq79 {f : Nat → Value} {w : World} {d : Option Nat} {ty t2 : TypeId} {ps : String} {af : Array Edge} {g : Option (Nat × Bool)} {x y : Operand} {a0 a1 a2 b0 b1 b2 : Int} (hx : evF f x = .agg #[.int .u8 a0, .int .u8 a1, .int .u8 a2]) (hy : evF f y = .agg #[.int .u8 b0, .int .u8 b1, .int .u8 b2]) :
    (execOp (evF f) ⟨d, .binOp .eql 79 x y t2, ty, ps, af, g⟩).run Try.prog w = .ok (.value (.bool (decide ((a0 = b0 ∧ a1 = b1 ∧ a2 = b2))))) w := by
  have hg : Try.prog.eqGuardType Try.prog.depth 79 = false := by kernel_rfl
  have hp79 : Try.prog.stoodInHeld 79 = false := by kernel_rfl
  have hu79 : Try.prog.underlying 79 = some (.struct (Try.prog.fieldsOf 79)) := by kernel_rfl
  have hp34 : Try.prog.stoodInHeld 34 = false := by kernel_rfl
  have hu34 : Try.prog.underlying 34 = some (.struct (Try.prog.fieldsOf 34)) := by kernel_rfl
  obtain ⟨j34, hj34, hs34⟩ := Option.map_eq_some_iff.1 (show (Try.prog.info? 34).map (·.size) = some 2 by kernel_rfl)
  simp only [execOp, hx, hy, Sem.run_bind, run_eqGuard_agg _ _ _ _ _ _ _ hg, Result.andThen_ok, run_eql_struct, run_equalIn_agg _ 9999 79 _ _ hu79 hp79]
  simp only [Program.fieldsOf, Try.underlying79]
  simp [Op.eqFields, part, isAgg, run_equalIn_int _ 9998 5 _ _ _ _ Try.underlying5, run_underlying Try.underlying5, run_equalIn_agg _ 9998 34 _ _ hu34 hp34, Program.fieldsOf, Try.underlying34, run_equalIn_int _ 9997 5 _ _ _ _ Try.underlying5, sizeOf, typeInfo, hj34, hs34, run_underlying Try.underlying34]
  by_cases q0 : a0 = b0 <;> by_cases q1 : a1 = b1 <;> by_cases q2 : a2 = b2 <;> simp [q0, q1, q2]
theorem tb_key79 : KeyOk Try.prog 79 (fun v => ∃ a : Rw, v = keyR a) := by
  refine keyOk_of Try.underlying79 ?_ ?_ ?_ ?_
  · rintro w _ _ ⟨a, rfl⟩ ⟨c, rfl⟩
    have hg : Try.prog.eqGuardType Try.prog.depth 79 = false := by kernel_rfl
    exact ⟨_, equal_agg hg (tb_eq79 rfl rfl), by rw [decide_eq_true_eq]; constructor <;> intro h <;> simpa [keyR] using h⟩
  · rintro _ _ ⟨a, rfl⟩ ⟨c, rfl⟩
    exact .inl rfl
  · rintro w em _ ⟨a, rfl⟩
    have h2 : ∀ k, (Instr.checkKey em (k + 1 + 1 + 1) 79 (keyR a)).run Try.prog w = .ok () w := fun k => by
      simp [keyR, Instr.checkKey, part, isAgg, run_underlying Try.underlying79, run_underlying Try.underlying34, run_underlying Try.underlying5]
    exact h2 9997
  · rintro _ ⟨a, rfl⟩
    simp [keyR, Instr.sameBits]

theorem C_thin_Plain (S : Sp) (onV mayV : Value) (w : World) (hon : SlT encS 4 w onV S.on) (hmay : SlT encS 4 w mayV S.may) :
    Fn Try.prog 77 #[.agg #[.int .i64 S.n, onV, mayV]] w fun v w' => if rightS S = true then ∃ x, v = .tuple #[x, .int .i64 0] ∧ OwT encR 3 79 w' w.heap.size x (plainL S) else v = .tuple #[.slice none 0 0, .int .i64 1] := by
 refine Fn_intro (n := 66) Try.func77 rfl rfl (Nat.le_of_ble_eq_true rfl) ?_
 have hB : Below w.heap.size w w := Below.refl _ _
 refine WC_seq (fun K1 hK2 => ?_)
 refine WC_region ?_
 refine WL_step (dd := some 1) rfl rfl rfl (Y_box (c := #[_, _, _]) rfl rfl (fun b0_0 W3 hb4 hE5 hm0_0 => ?_))
 have lo_b0_0 : w.heap.size ≤ b0_0 := hb4 ▸ (Below.size hB)
 clear hb4
 replace hB := below_ext hB hE5 (Nat.le_refl _)
 clear hE5
 refine WL_val (dd := some 2) rfl rfl rfl (r_assign (v := .slice none 0 0) rfl) ?_
 refine WL_val (dd := some 3) rfl rfl rfl (r_assign (v := .int .i64 0) rfl) ?_
 refine WL_nil ?_
 refine hK2 _ _ ?_
 clear hK2 K1
 refine WC_seq (fun K6 hK7 => ?_)
 refine WC_seq (fun K8 hK9 => ?_)
 refine WC_region ?_
 refine WL_val (dd := some 14) rfl rfl rfl (r_loadW rfl tb_ag64 rfl hm0_0) ?_
 refine WL_call (dd := some 15) rfl rfl rfl (r_call1 tb_c105 (v0 := .agg #[_, _, _]) rfl) (C_spec_Right S _ _  _ (Below.slT hB hon) (Below.slT hB hmay) ) (fun v1_1 W10 hE11 hP1_1 => ?_)
 have hsz12 := (Below.size hB)
 replace hB := below_ext hB hE11 (Nat.le_refl _)
 replace hm0_0 := hE11.at hm0_0
 clear hE11
 clear hsz12
 obtain rfl := hP1_1
 refine WL_val (dd := some 16) rfl rfl rfl (r_not rfl) ?_
 refine WL_nil ?_
 refine hK9 _ _ ?_
 clear hK9 K8
 refine WC_cond (b := _) rfl (fun hc0 => ?_) (fun hc0 => ?_)
 ·
  try with_reducible replace hc0 := of_decide_eq_true hc0
  refine WC_seq (fun K13 hK14 => ?_)
  refine WC_region ?_
  refine WL_val (dd := some 2) rfl rfl rfl (r_assign (v := .slice none 0 0) rfl) ?_
  refine WL_val (dd := some 3) rfl rfl rfl (r_assign (v := .int .i64 1) rfl) ?_
  refine WL_nil ?_
  refine hK14 _ _ ?_
  clear hK14 K13
  refine WC_ret ?_
  repeat (first | refine thenQ_ret ?_ | refine blockQ_ret ?_)
  try clear hK7 K6
  refine ret_tt (v := .slice none 0 0) rfl (v1 := .int .i64 1) rfl ?_
  refine ⟨hB, ?_⟩
  rw [if_neg (by rw [show rightS S = false from not_t hc0]; decide)]
 ·
  try with_reducible replace hc0 := of_decide_eq_false hc0
  refine WC_skip ?_
  refine hK7 _ _ ?_
  clear hK7 K6
  refine WC_seq (fun K15 hK16 => ?_)
  have hr : rightS S = true := not_f hc0
  obtain ⟨h0, h8, h1, h4, h5, hin⟩ := rightS_iff.1 hr
  refine WC_region ?_
  refine WL_step (dd := some 17) rfl rfl rfl (Y_makeMap (enc := keyR) (encV := Value.bool) (fun b3_0 W17 hb18 hE19 hm3_0 => ?_))
  have lo_b3_0 : w.heap.size ≤ b3_0 := hb18 ▸ (Below.size hB)
  clear hb18
  replace hB := below_ext hB hE19 (Nat.le_refl _)
  replace hm0_0 := hE19.at hm0_0
  clear hE19
  replace hm3_0 : MapT keyR Value.bool _ _ (allT []) := hm3_0
  refine WL_val (dd := some 4) rfl rfl rfl (r_assign (v := .map (some b3_0)) rfl) ?_
  refine WL_nil ?_
  refine hK16 _ _ ?_
  clear hK16 K15
  refine WC_seq (fun K20 hK21 => ?_)
  refine WC_region ?_
  refine WL_val (dd := some 5) rfl rfl rfl (r_assign (v := .slice none 0 0) rfl) ?_
  refine WL_nil ?_
  refine hK21 _ _ ?_
  clear hK21 K20
  refine WC_seq (fun K22 hK23 => ?_)
  refine WC_seq (fun K24 hK25 => ?_)
  refine WC_region ?_
  refine WL_val (dd := some 18) rfl rfl rfl (r_fieldAddr (b := _) (o := _) rfl tb_fo64_1) ?_
  refine WL_val (dd := some 19) rfl rfl rfl (r_load1 (v := onV) rfl tb_sc62 (At.cell hm0_0 rfl)) ?_
  refine WL_val (dd := some 20) rfl rfl rfl (r_lenS (v := onV) rfl (Below.slT hB hon) tb_el62) ?_
  refine WL_val (dd := some 21) rfl rfl rfl (r_move (v := .int .i64 0) rfl) ?_
  refine WL_nil ?_
  refine hK25 _ _ ?_
  clear hK25 K24
  refine WC_block ?_
  refine WC_loop (σ := (Nat) × (Value)) [5, 6, 7, 8, 9, 11, 12, 13, 21, 22, 23, 24, 25, 26, 27, 28, 29, 30, 31, 32, 33, 34, 35, 36, 37, 38, 39, 40, 41, 42, 43, 44, 45, 46, 47, 48, 49, 50, 51, 52, 53, 54, 55, 56, 57, 58, 59, 60, 61, 62, 63, 64] (fun (o, v0) => [(21, .int .i64 (o : Int)), (5, v0)]) (fun sg W => match sg with | (o, v0) => (Below w.heap.size w W) ∧ (At W b0_0 _ 64) ∧ (MapT keyR Value.bool W b3_0 (allT (plT S o))) ∧ (OwT encR 3 79 W w.heap.size v0 (plT S o)) ∧ (o ≤ S.on.length) ∧ (True)) (fun (o, v0) => S.on.length - o) ((0, .slice none 0 0)) ⟨rfl, rfl, trivial⟩ ⟨hB, hm0_0, hm3_0, OwT.nil, (Nat.zero_le _), trivial⟩ ?_
  clear hB hm0_0 hm3_0
  rintro ⟨o, v0⟩ g27 W26 ⟨hB, hm0_0, hm3_0, ho, hoo, _⟩ J28 hJ29
  refine WC_seq (fun K30 hK31 => ?_)
  refine WC_region ?_
  refine WL_val (dd := some 22) rfl rfl rfl (r_lss rfl rfl) ?_
  refine WL_nil ?_
  refine hK31 _ _ ?_
  clear hK31 K30
  refine WC_seq (fun K32 hK33 => ?_)
  refine WC_cond (b := _) rfl (fun hc1 => ?_) (fun hc1 => ?_)
  ·
   try with_reducible replace hc1 := of_decide_eq_true hc1
   refine WC_skip ?_
   refine hK33 _ _ ?_
   clear hK33 K32
   refine WC_seq (fun K34 hK35 => ?_)
   refine WC_block ?_
   refine WC_seq (fun K36 hK37 => ?_)
   have ho2 : o < S.on.length := by omega
   have h7 := pow7 (show o < 8 by omega)
   have hgl := gro_lt hr ho2
   have hpl := plT_len hr o (by omega)
   refine WC_region ?_
   refine WL_val (dd := some 23) rfl rfl rfl (r_move (v := .int .i64 _) rfl) ?_
   refine WL_val (dd := some 24) rfl rfl rfl (r_idxS (v := onV) rfl (Below.slT hB hon) rfl tb_el62 (by omega) (by first | omega | (simp only [flagsTo_len, litsTo_len, firstF_len, ptF_len, setF_len]; omega))) ?_
   refine WL_val (dd := some 25) rfl rfl rfl (r_load4 rfl tb_ag24 (SlT.cell (Below.slT hB hon) encS_len 0 (by omega) (by first | omega | (simp only [flagsTo_len, litsTo_len, firstF_len, ptF_len, setF_len]; omega)) 0 rfl) (SlT.cell (Below.slT hB hon) encS_len 0 (by omega) (by first | omega | (simp only [flagsTo_len, litsTo_len, firstF_len, ptF_len, setF_len]; omega)) 1 rfl) (SlT.cell (Below.slT hB hon) encS_len 0 (by omega) (by first | omega | (simp only [flagsTo_len, litsTo_len, firstF_len, ptF_len, setF_len]; omega)) 2 rfl) (SlT.cell (Below.slT hB hon) encS_len 0 (by omega) (by first | omega | (simp only [flagsTo_len, litsTo_len, firstF_len, ptF_len, setF_len]; omega)) 3 rfl)) ?_
   refine WL_step (dd := some 7) rfl rfl rfl (Y_alloc tb_z24 rfl (fun b7_3 W38 hb39 hE40 hm7_3 => ?_))
   have lo_b7_3 : w.heap.size ≤ b7_3 := hb39 ▸ (Below.size hB)
   clear hb39
   replace hB := below_ext hB hE40 (Nat.le_refl _)
   replace hm0_0 := hE40.at hm0_0
   replace hm3_0 := hE40.mapT hm3_0
   replace ho := hE40.ow ho
   clear hE40
   replace hm7_3 : At W38 b7_3 #[wv 0 0, wv 0 1, wv 0 2, wv 0 3] 24 := hm7_3
   refine WL_val (dd := some 6) rfl rfl rfl (r_assign (v := .int .i64 _) rfl) ?_
   refine WL_step (dd := none) rfl rfl rfl (Y_storeW rfl rfl tb_ag24 rfl hm7_3 rfl (by rfl) (fun W41 hG42 hm43 => ?_))
   replace hB := below_grown hB hG42 (Nat.le_refl _) (fun j hj => by cases hj; exact lo_b7_3)
   replace hm0_0 := At.grownAt hm0_0 hm7_3 hG42 (by decide)
   replace hm3_0 := MapT.grownAt hm3_0 hm7_3 hG42
   replace ho := OwT.grownAt ho hm7_3 hG42 (by decide)
   clear hG42 hm7_3
   have hm7_3 := hm43
   clear hm43
   refine WL_nil ?_
   refine hK37 _ _ ?_
   clear hK37 K36
   refine WC_seq (fun K44 hK45 => ?_)
   refine WC_draw Ext tb_mix (fun W46 hE47 => ?_)
   replace hB := below_ext hB hE47 (Nat.le_refl _)
   replace hm0_0 := hE47.at hm0_0
   replace hm3_0 := hE47.mapT hm3_0
   replace ho := hE47.ow ho
   replace hm7_3 := hE47.at hm7_3
   have hS := Ext.refl W46
   refine WT_take (dd := some 27) 0 rfl (by kernel_rfl) (by kernel_rfl) (by kernel_rfl) rfl rfl rfl (fun _wq hq => r_loadW rfl tb_ag24 rfl (hq.at hm7_3)) hS ?_
   refine WT_take (dd := some 28) 1 rfl (by kernel_rfl) (by kernel_rfl) (by kernel_rfl) rfl rfl rfl (fun _wq _hq => r_fieldAddr (b := _) (o := _) rfl tb_fo64_2) hS ?_
   refine WT_take (dd := some 29) 2 rfl (by kernel_rfl) (by kernel_rfl) (by kernel_rfl) rfl rfl rfl (fun _wq hq => r_load1 (v := mayV) rfl tb_sc62 (At.cell (hq.at hm0_0) rfl)) hS ?_
   refine WT_take (dd := some 30) 3 rfl (by kernel_rfl) (by kernel_rfl) (by kernel_rfl) rfl rfl rfl (fun _wq _hq => r_move (v := .int .i64 _) rfl) hS ?_
   refine WT_take (dd := some 31) 4 rfl (by kernel_rfl) (by kernel_rfl) (by kernel_rfl) rfl rfl rfl (fun _wq hq => r_idxS (v := mayV) rfl (hq.slT (Below.slT hB hmay)) rfl tb_el62 (by omega) (by first | omega | (simp only [flagsTo_len, litsTo_len, firstF_len, ptF_len, setF_len]; omega))) hS ?_
   refine WT_take (dd := some 32) 5 rfl (by kernel_rfl) (by kernel_rfl) (by kernel_rfl) rfl rfl rfl (fun _wq hq => r_load4 rfl tb_ag24 (SlT.cell (hq.slT (Below.slT hB hmay)) encS_len 0 (by omega) (by first | omega | (simp only [flagsTo_len, litsTo_len, firstF_len, ptF_len, setF_len]; omega)) 0 rfl) (SlT.cell (hq.slT (Below.slT hB hmay)) encS_len 0 (by omega) (by first | omega | (simp only [flagsTo_len, litsTo_len, firstF_len, ptF_len, setF_len]; omega)) 1 rfl) (SlT.cell (hq.slT (Below.slT hB hmay)) encS_len 0 (by omega) (by first | omega | (simp only [flagsTo_len, litsTo_len, firstF_len, ptF_len, setF_len]; omega)) 2 rfl) (SlT.cell (hq.slT (Below.slT hB hmay)) encS_len 0 (by omega) (by first | omega | (simp only [flagsTo_len, litsTo_len, firstF_len, ptF_len, setF_len]; omega)) 3 rfl)) hS ?_
   refine WT_take (dd := some 33) 6 rfl (by kernel_rfl) (by kernel_rfl) (by kernel_rfl) rfl rfl rfl (fun _wq _hq => r_fieldAddr (b := _) (o := _) rfl tb_fo64_0) hS ?_
   refine WT_take (dd := some 34) 7 rfl (by kernel_rfl) (by kernel_rfl) (by kernel_rfl) rfl rfl rfl (fun _wq hq => r_load1 (v := .int .i64 _) rfl tb_sc3 (At.cell (hq.at hm0_0) rfl)) hS ?_
   refine WT_one (dd := some 35) 8 (by kernel_rfl) rfl rfl rfl rfl (Yd.call (r_call3 tb_c43 (v0 := .agg #[_, _, _, _]) rfl (v1 := .agg #[_, _, _, _]) rfl (v2 := .int .i64 _) rfl) (C_isop_Grown (onP S o) (mayP S o) S.n _) (fun v8_8 W48 hE49 hP8_8 => ⟨.inl (hS.trans hE49), ?_⟩))
   have hsz50 := (Below.size hB)
   have sv51_hB := hB
   have sv51_hm0_0 := hm0_0
   have sv51_hm3_0 := hm3_0
   have sv51_ho := ho
   have sv51_hm7_3 := hm7_3
   replace hB := below_ext hB hE49 (Nat.le_refl _)
   replace hm0_0 := hE49.at hm0_0
   replace hm3_0 := hE49.mapT hm3_0
   replace ho := hE49.ow ho
   replace hm7_3 := hE49.at hm7_3
   replace hS := hS.trans hE49
   clear hE49
   obtain ⟨x_hP8_8, er_hP8_8, l_hP8_8, rfl, ho_hP8_8, hc_hP8_8⟩ := own_res hP8_8
   replace ho_hP8_8 := OwT.mono ho_hP8_8 hsz50
   clear hsz50
   refine WT_take (dd := some 26) 9 rfl (by kernel_rfl) (by kernel_rfl) (by kernel_rfl) rfl rfl rfl (fun _wq _hq => r_move (v := .tuple #[x_hP8_8, .int .i64 _]) rfl) hS ?_
   refine WT_take (dd := some 36) 10 rfl (by kernel_rfl) (by kernel_rfl) (by kernel_rfl) rfl rfl rfl (fun _wq _hq => r_ext2_0 (h := rfl)) hS ?_
   refine WT_take (dd := some 37) 11 rfl (by kernel_rfl) (by kernel_rfl) (by kernel_rfl) rfl rfl rfl (fun _wq _hq => r_ext2_1 (h := rfl)) hS ?_
   refine WT_take (dd := some 8) 12 rfl (by kernel_rfl) (by kernel_rfl) (by kernel_rfl) rfl rfl rfl (fun _wq _hq => r_assign (v := x_hP8_8) rfl) hS ?_
   refine WT_take (dd := some 9) 13 rfl (by kernel_rfl) (by kernel_rfl) (by kernel_rfl) rfl rfl rfl (fun _wq _hq => r_assign (v := .int .i64 _) rfl) hS ?_
   refine WT_done (by kernel_rfl) ?_
   try clear sv51_hB sv51_hm0_0 sv51_hm3_0 sv51_ho sv51_hm7_3
   refine hK45 _ _ ?_
   clear hK45 K44
   refine WC_seq (fun K52 hK53 => ?_)
   obtain ⟨_, hleq⟩ := err_eq hc_hP8_8 (by intro h; exact h (by rcases hc_hP8_8 with ⟨_, h, _⟩ | ⟨h, _⟩; exact h; rw [ok_right hr ho2] at h; cases h))
   have hleq2 : l_hP8_8 = gro S o := hleq
   subst hleq2
   refine WC_region ?_
   refine WL_val (dd := some 38) rfl rfl rfl (r_move (v := x_hP8_8) rfl) ?_
   refine WL_val (dd := some 39) rfl rfl rfl (r_lenS (v := x_hP8_8) rfl ho_hP8_8.sl tb_el27) ?_
   refine WL_val (dd := some 40) rfl rfl rfl (r_move (v := .int .i64 0) rfl) ?_
   refine WL_nil ?_
   refine hK53 _ _ ?_
   clear hK53 K52
   refine WC_block ?_
   refine WC_loop (σ := (Nat) × (Value)) [5, 11, 12, 13, 40, 41, 42, 43, 44, 45, 46, 47, 48, 49, 50, 51, 52, 53, 54, 55, 56, 57, 58, 59, 60, 61, 62, 63] (fun (i, v1) => [(40, .int .i64 (i : Int)), (5, v1)]) (fun sg W => match sg with | (i, v1) => (Below w.heap.size w W) ∧ (At W b0_0 _ 64) ∧ (At W b7_3 _ 24) ∧ (OwT encC 2 34 W w.heap.size x_hP8_8 _) ∧ (MapT keyR Value.bool W b3_0 (allT (plC S o (plT S o) i))) ∧ (OwT encR 3 79 W w.heap.size v1 (plC S o (plT S o) i)) ∧ (i ≤ (gro S o).length) ∧ (True)) (fun (i, v1) => (gro S o).length - i) ((0, v0)) ⟨rfl, rfl, trivial⟩ ⟨hB, hm0_0, hm7_3, ho_hP8_8, hm3_0, (by exact ho), (Nat.zero_le _), trivial⟩ ?_
   clear hB hm0_0 hm3_0 ho hm7_3 ho_hP8_8
   rintro ⟨i, v1⟩ g55 W54 ⟨hB, hm0_0, hm7_3, ho_hP8_8, hm3_0, hoo2, hi, _⟩ J56 hJ57
   refine WC_seq (fun K58 hK59 => ?_)
   refine WC_region ?_
   refine WL_val (dd := some 41) rfl rfl rfl (r_lss rfl rfl) ?_
   refine WL_nil ?_
   refine hK59 _ _ ?_
   clear hK59 K58
   refine WC_seq (fun K60 hK61 => ?_)
   refine WC_cond (b := _) rfl (fun hc2 => ?_) (fun hc2 => ?_)
   ·
    try with_reducible replace hc2 := of_decide_eq_true hc2
    refine WC_skip ?_
    refine hK61 _ _ ?_
    clear hK61 K60
    refine WC_seq (fun K62 hK63 => ?_)
    refine WC_block ?_
    refine WC_seq (fun K64 hK65 => ?_)
    have hi2 : i < (gro S o).length := by omega
    have hgg := gro_get hr ho2 hi2
    have hcl := plC_len S o (plT S o) i
    refine WC_region ?_
    refine WL_val (dd := some 42) rfl rfl rfl (r_idxS (v := x_hP8_8) rfl ho_hP8_8.sl rfl tb_el27 (by omega) (by first | omega | (simp only [flagsTo_len, litsTo_len, firstF_len, ptF_len, setF_len]; omega))) ?_
    refine WL_val (dd := some 43) rfl rfl rfl (r_load2 rfl tb_ag34 (SlT.cell ho_hP8_8.sl encC_len ⟨0, 0⟩ (by omega) (by first | omega | (simp only [flagsTo_len, litsTo_len, firstF_len, ptF_len, setF_len]; omega)) 0 rfl) (SlT.cell ho_hP8_8.sl encC_len ⟨0, 0⟩ (by omega) (by first | omega | (simp only [flagsTo_len, litsTo_len, firstF_len, ptF_len, setF_len]; omega)) 1 rfl)) ?_
    refine WL_step (dd := some 11) rfl rfl rfl (Y_alloc tb_z34 rfl (fun b11_2 W66 hb67 hE68 hm11_2 => ?_))
    have lo_b11_2 : w.heap.size ≤ b11_2 := hb67 ▸ (Below.size hB)
    have no_x_hP8_8_b11_2 := OwT.neB (b := b11_2) ho_hP8_8 (Nat.le_of_eq hb67.symm)
    clear hb67
    replace hB := below_ext hB hE68 (Nat.le_refl _)
    replace hm0_0 := hE68.at hm0_0
    replace hm7_3 := hE68.at hm7_3
    replace ho_hP8_8 := hE68.ow ho_hP8_8
    replace hm3_0 := hE68.mapT hm3_0
    replace hoo2 := hE68.ow hoo2
    clear hE68
    refine WL_step (dd := none) rfl rfl rfl (Y_storeW rfl rfl tb_ag34 rfl hm11_2 rfl (by rfl) (fun W69 hG70 hm71 => ?_))
    replace hB := below_grown hB hG70 (Nat.le_refl _) (fun j hj => by cases hj; exact lo_b11_2)
    replace hm0_0 := At.grownAt hm0_0 hm11_2 hG70 (by decide)
    replace hm7_3 := At.grownAt hm7_3 hm11_2 hG70 (by decide)
    replace ho_hP8_8 := OwT.grownAtNe ho_hP8_8 no_x_hP8_8_b11_2 hG70
    replace hm3_0 := MapT.grownAt hm3_0 hm11_2 hG70
    replace hoo2 := OwT.grownAt hoo2 hm11_2 hG70 (by decide)
    clear hG70 hm11_2
    have hm11_2 := hm71
    clear hm71
    refine WL_nil ?_
    refine hK65 _ _ ?_
    clear hK65 K64
    refine WC_seq (fun K72 hK73 => ?_)
    refine WC_draw Ext tb_mix (fun W74 hE75 => ?_)
    replace hB := below_ext hB hE75 (Nat.le_refl _)
    replace hm0_0 := hE75.at hm0_0
    replace hm7_3 := hE75.at hm7_3
    replace ho_hP8_8 := hE75.ow ho_hP8_8
    replace hm3_0 := hE75.mapT hm3_0
    replace hoo2 := hE75.ow hoo2
    replace hm11_2 := hE75.at hm11_2
    have hS := Ext.refl W74
    refine WT_take (dd := some 45) 0 rfl (by kernel_rfl) (by kernel_rfl) (by kernel_rfl) rfl rfl rfl (fun _wq hq => r_loadW rfl tb_ag64 rfl (hq.at hm0_0)) hS ?_
    refine WT_take (dd := some 46) 1 rfl (by kernel_rfl) (by kernel_rfl) (by kernel_rfl) rfl rfl rfl (fun _wq hq => r_loadW rfl tb_ag34 rfl (hq.at hm11_2)) hS ?_
    refine WT_take (dd := some 47) 2 rfl (by kernel_rfl) (by kernel_rfl) (by kernel_rfl) rfl rfl rfl (fun _wq _hq => r_move (v := .int .i64 _) rfl) hS ?_
    refine WT_take (dd := some 48) 3 rfl (by kernel_rfl) (by kernel_rfl) (by kernel_rfl) rfl rfl rfl (fun _wq _hq => r_shl (m := 1) rfl rfl (by omega) (by simp only [IntKind.bits]; omega) (by simp only [topN, Int.toNat_natCast, Nat.one_mul]; omega)) hS ?_
    refine WT_take (dd := some 49) 4 rfl (by kernel_rfl) (by kernel_rfl) (by kernel_rfl) rfl rfl rfl (fun _wq _hq => tb_build79_0_1 (h0 := rfl) (h1 := rfl) (k1 := rfl) (c1_0 := .int .u8 _)) hS ?_
    refine WT_two 5 9 (by kernel_rfl) rfl rfl rfl rfl rfl rfl rfl rfl (Yd.call (r_call2 tb_c62 (v0 := .agg #[_, _, _]) rfl (v1 := .agg #[_, _, _]) rfl) (C_multi_Grow S _ _ ⟨((gro S o).getD i ⟨0, 0⟩), 1 * 2 ^ o⟩ _ (Below.slT hB hon) (Below.slT hB hmay) ⟨hgg.1, hgg.2, (by show 1 * 2 ^ o < 256; omega)⟩) (fun v12_5 W76 hE77 hP12_5 => ⟨.inl (hS.trans hE77), ?_⟩)) (Y_alloc tb_z79 rfl (fun b12_9 W80 hb81 hE82 hm12_9 => ⟨.inl (hS.trans hE82), ?_⟩))
    ·
     have hsz78 := (Below.size hB)
     have sv79_hB := hB
     have sv79_hm0_0 := hm0_0
     have sv79_hm7_3 := hm7_3
     have sv79_ho_hP8_8 := ho_hP8_8
     have sv79_hm3_0 := hm3_0
     have sv79_hoo2 := hoo2
     have sv79_hm11_2 := hm11_2
     replace hB := below_ext hB hE77 (Nat.le_refl _)
     replace hm0_0 := hE77.at hm0_0
     replace hm7_3 := hE77.at hm7_3
     replace ho_hP8_8 := hE77.ow ho_hP8_8
     replace hm3_0 := hE77.mapT hm3_0
     replace hoo2 := hE77.ow hoo2
     replace hm11_2 := hE77.at hm11_2
     replace hS := hS.trans hE77
     clear hE77
     rw [Nat.one_mul, if_pos (gro_in hr ho2 hi2)] at hP12_5
     obtain rfl := hP12_5
     clear hsz78
     refine WT_take (dd := some 44) 6 rfl (by kernel_rfl) (by kernel_rfl) (by kernel_rfl) rfl rfl rfl (fun _wq _hq => r_move (v := .tuple #[.agg #[_, _, _], .int .i64 _]) rfl) hS ?_
     refine WT_take (dd := some 51) 7 rfl (by kernel_rfl) (by kernel_rfl) (by kernel_rfl) rfl rfl rfl (fun _wq _hq => r_ext2_0 (h := rfl)) hS ?_
     refine WT_take (dd := some 52) 8 rfl (by kernel_rfl) (by kernel_rfl) (by kernel_rfl) rfl rfl rfl (fun _wq _hq => r_ext2_1 (h := rfl)) hS ?_
     refine WT_one (dd := some 12) 9 (by kernel_rfl) rfl rfl rfl rfl (Y_alloc tb_z79 rfl (fun b12_9 W84 hb85 hE86 hm12_9 => ⟨.inl (hS.trans hE86), ?_⟩))
     have lo_b12_9 : w.heap.size ≤ b12_9 := hb85 ▸ (Below.size hB)
     have los_b12_9 := Nat.le_trans (Ext.size hS) (Nat.le_of_eq hb85.symm)
     have no_v1_b12_9 := OwT.neB (b := b12_9) hoo2 (Nat.le_of_eq hb85.symm)
     clear hb85
     replace hB := below_ext hB hE86 (Nat.le_refl _)
     replace hm0_0 := hE86.at hm0_0
     replace hm7_3 := hE86.at hm7_3
     replace ho_hP8_8 := hE86.ow ho_hP8_8
     replace hm3_0 := hE86.mapT hm3_0
     replace hoo2 := hE86.ow hoo2
     replace hm11_2 := hE86.at hm11_2
     replace hS := hS.trans hE86
     clear hE86
     refine WT_one (dd := none) 10 (by kernel_rfl) rfl rfl rfl rfl (Y_storeW rfl rfl tb_ag79 rfl hm12_9 rfl (by rfl) (fun W87 hG88 hm89 => ⟨.inl (below_grown hS hG88 (Nat.le_refl _) (fun j hj => by have e : b12_9 = j := Option.some.inj hj; rw [← e]; exact los_b12_9)), ?_⟩))
     replace hS : Ext _ _ := below_grown hS hG88 (Nat.le_refl _) (fun j hj => by have e : b12_9 = j := Option.some.inj hj; rw [← e]; exact los_b12_9)
     replace hB := below_grown hB hG88 (Nat.le_refl _) (fun j hj => by cases hj; exact lo_b12_9)
     replace hm0_0 := At.grownAt hm0_0 hm12_9 hG88 (by decide)
     replace hm7_3 := At.grownAt hm7_3 hm12_9 hG88 (by decide)
     replace ho_hP8_8 := OwT.grownAt ho_hP8_8 hm12_9 hG88 (by decide)
     replace hm3_0 := MapT.grownAt hm3_0 hm12_9 hG88
     replace hoo2 := OwT.grownAtNe hoo2 no_v1_b12_9 hG88
     replace hm11_2 := At.grownAt hm11_2 hm12_9 hG88 (by decide)
     clear hG88 hm12_9
     have hm12_9 := hm89
     clear hm89
     refine WT_take (dd := some 13) 11 rfl (by kernel_rfl) (by kernel_rfl) (by kernel_rfl) rfl rfl rfl (fun _wq _hq => r_assign (v := .int .i64 _) rfl) hS ?_
     refine WT_done (by kernel_rfl) ?_
     try clear sv79_hB sv79_hm0_0 sv79_hm7_3 sv79_ho_hP8_8 sv79_hm3_0 sv79_hoo2 sv79_hm11_2
     refine hK73 _ _ ?_
     clear hK73 K72
     refine WC_seq (fun K90 hK91 => ?_)
     refine WC_region ?_
     refine WL_val (dd := some 53) rfl rfl rfl (r_move (v := .map (some b3_0)) rfl) ?_
     refine WL_val (dd := some 54) rfl rfl rfl (r_loadW rfl tb_ag79 rfl hm12_9) ?_
     refine WL_val (dd := some 55) rfl rfl rfl (r_lookup (enc := keyR) (encV := Value.bool) (v0 := false) (k := (plX S o i)) rfl rfl tb_mp128 tb_key79 (fun a => ⟨a, rfl⟩) keyR_inj tb_z4 rfl hm3_0) ?_
     refine WL_val (dd := some 56) rfl rfl rfl (r_not rfl) ?_
     refine WL_nil ?_
     refine hK91 _ _ ?_
     clear hK91 K90
     refine WC_cond (b := _) rfl (fun hc3 => ?_) (fun hc3 => ?_)
     ·
      try with_reducible replace hc3 := of_decide_eq_true hc3
      refine WC_seq (fun K92 hK93 => ?_)
      refine WC_region ?_
      refine WL_val (dd := some 57) rfl rfl rfl (r_move (v := .map (some b3_0)) rfl) ?_
      refine WL_val (dd := some 58) rfl rfl rfl (r_loadW rfl tb_ag79 rfl hm12_9) ?_
      refine WL_step (dd := none) rfl rfl rfl (Y_mapUpdate (enc := keyR) (encV := Value.bool) (k := (plX S o i)) (v := true) rfl rfl rfl tb_mp128 tb_key79 (fun a => ⟨a, rfl⟩) keyR_inj hm3_0 (fun W94 hG95 hm96 => ?_))
      replace hB := below_grown hB hG95 (Nat.le_refl _) (fun j hj => by cases hj; exact lo_b3_0)
      replace hm0_0 := At.grownMap hm0_0 hm3_0 hG95
      replace hm7_3 := At.grownMap hm7_3 hm3_0 hG95
      replace ho_hP8_8 := OwT.grownMap ho_hP8_8 hm3_0 hG95
      replace hoo2 := OwT.grownMap hoo2 hm3_0 hG95
      replace hm11_2 := At.grownMap hm11_2 hm3_0 hG95
      replace hm12_9 := At.grownMap hm12_9 hm3_0 hG95
      clear hG95 hm3_0
      have hm3_0 := hm96
      clear hm96
      rw [allT_put] at hm3_0
      refine WL_nil ?_
      refine hK93 _ _ ?_
      clear hK93 K92
      refine WC_region ?_
      refine WL_val (dd := some 59) rfl rfl rfl (r_move (v := v1) rfl) ?_
      refine WL_val (dd := some 60) rfl rfl rfl (r_loadW rfl tb_ag79 rfl hm12_9) ?_
      refine WL_step (dd := some 61) rfl rfl rfl (Y_lit1 (u := .agg #[_, _, _]) rfl tb_el65 tb_zs79 rfl (by decide) (by decide) (fun b15_2 W97 hb98 hE99 hm15_2 => ?_))
      have lo_b15_2 : w.heap.size ≤ b15_2 := hb98 ▸ (Below.size hB)
      have no_v1_b15_2 := OwT.neB (b := b15_2) hoo2 (Nat.le_of_eq hb98.symm)
      have ne_b12_9_b15_2 : b12_9 ≠ b15_2 := Nat.ne_of_lt (hb98 ▸ hm12_9.lt)
      clear hb98
      replace hB := below_ext hB hE99 (Nat.le_refl _)
      replace hm0_0 := hE99.at hm0_0
      replace hm7_3 := hE99.at hm7_3
      replace ho_hP8_8 := hE99.ow ho_hP8_8
      replace hm3_0 := hE99.mapT hm3_0
      replace hoo2 := hE99.ow hoo2
      replace hm11_2 := hE99.at hm11_2
      replace hm12_9 := hE99.at hm12_9
      clear hE99
      refine WL_step (dd := some 62) rfl rfl rfl (Y_append (v := v1) (v2 := .slice (some ⟨b15_2, 0, none⟩) 1 1) rfl rfl tb_el65 tb_zs79 (by decide) hoo2 (sl_lit1 hm15_2 rfl) rfl (by have := Below.size hB; omega) (by first | omega | (simp; omega) | (simp only [flagsTo_len, litsTo_len, firstF_len, ptF_len, setF_len]; omega)) (by first | omega | (simp; omega) | (simp only [flagsTo_len, litsTo_len, firstF_len, ptF_len, setF_len]; omega)) (fun v15_3 W100 hG101 ho15_3 => ?_))
      replace ho15_3 := OwT.snoc (enc := encR) (x := (plX S o i)) rfl rfl rfl rfl ho15_3
      clear hm15_2
      replace hB := below_grown hB hG101 (Nat.le_refl _) (fun j hj => (OwT.lt hoo2 j hj))
      replace hm0_0 := At.grownOw hm0_0 hoo2 hG101 (by decide)
      replace hm7_3 := At.grownOw hm7_3 hoo2 hG101 (by decide)
      replace ho_hP8_8 := OwT.grownOw ho_hP8_8 hoo2 hG101 (by decide)
      replace hm3_0 := MapT.grownOw hm3_0 hoo2 hG101
      replace hm11_2 := At.grownOw hm11_2 hoo2 hG101 (by decide)
      replace hm12_9 := At.grownOwNe hm12_9 no_v1_b12_9 hG101
      clear hG101
      clear hoo2
      refine WL_val (dd := some 5) rfl rfl rfl (r_assign (v := v15_3) rfl) ?_
      refine WL_nil ?_
      refine hK63 _ _ ?_
      clear hK63 K62
      refine WC_region ?_
      refine WL_val (dd := some 63) rfl rfl rfl (r_addI rfl rfl (by omega) (by omega)) ?_
      refine WL_val (dd := some 40) rfl rfl rfl (r_move (v := .int .i64 _) rfl) ?_
      refine WL_nil ?_
      refine hJ57 _ _ ((i + 1, v15_3)) ?_ ?_ ?_ ?_
      · repeat (first | exact agree.mask _ _ _ | refine agree.updo ?_ rfl _ | refine agree.updL ?_ _ rfl | refine agree.maskS rfl ?_)
      · exact ⟨rfl, rfl, trivial⟩
      · exact ⟨hB, hm0_0, hm7_3, ho_hP8_8, (by first | exact hm3_0 | (rw [← plC_old (is_inR (kk := plX S o i) hc3)]; exact hm3_0)), (by first | (rw [← plC_new (not_inR (kk := plX S o i) hc3)]; exact ho15_3) | (rw [← plC_old (is_inR (kk := plX S o i) hc3)]; exact ho15_3)), (by omega), trivial⟩
      · show (gro S o).length - (i + 1) < (gro S o).length - i; omega
     ·
      try with_reducible replace hc3 := of_decide_eq_false hc3
      refine WC_skip ?_
      refine hK63 _ _ ?_
      clear hK63 K62
      refine WC_region ?_
      refine WL_val (dd := some 63) rfl rfl rfl (r_addI rfl rfl (by omega) (by omega)) ?_
      refine WL_val (dd := some 40) rfl rfl rfl (r_move (v := .int .i64 _) rfl) ?_
      refine WL_nil ?_
      refine hJ57 _ _ ((i + 1, v1)) ?_ ?_ ?_ ?_
      · repeat (first | exact agree.mask _ _ _ | refine agree.updo ?_ rfl _ | refine agree.updL ?_ _ rfl | refine agree.maskS rfl ?_)
      · exact ⟨rfl, rfl, trivial⟩
      · exact ⟨hB, hm0_0, hm7_3, ho_hP8_8, (by first | exact hm3_0 | (rw [← plC_old (is_inR (kk := plX S o i) hc3)]; exact hm3_0)), (by first | (rw [← plC_new (not_inR (kk := plX S o i) hc3)]; exact hoo2) | (rw [← plC_old (is_inR (kk := plX S o i) hc3)]; exact hoo2)), (by omega), trivial⟩
      · show (gro S o).length - (i + 1) < (gro S o).length - i; omega
    ·
     have lo_b12_9 : w.heap.size ≤ b12_9 := hb81 ▸ (Below.size hB)
     have los_b12_9 := Nat.le_trans (Ext.size hS) (Nat.le_of_eq hb81.symm)
     have no_v1_b12_9 := OwT.neB (b := b12_9) hoo2 (Nat.le_of_eq hb81.symm)
     clear hb81
     have sv83_hB := hB
     have sv83_hm0_0 := hm0_0
     have sv83_hm7_3 := hm7_3
     have sv83_ho_hP8_8 := ho_hP8_8
     have sv83_hm3_0 := hm3_0
     have sv83_hoo2 := hoo2
     have sv83_hm11_2 := hm11_2
     replace hB := below_ext hB hE82 (Nat.le_refl _)
     replace hm0_0 := hE82.at hm0_0
     replace hm7_3 := hE82.at hm7_3
     replace ho_hP8_8 := hE82.ow ho_hP8_8
     replace hm3_0 := hE82.mapT hm3_0
     replace hoo2 := hE82.ow hoo2
     replace hm11_2 := hE82.at hm11_2
     replace hS := hS.trans hE82
     clear hE82
     refine WT_one (dd := some 50) 5 (by kernel_rfl) rfl rfl rfl rfl (Yd.call (r_call2 tb_c62 (v0 := .agg #[_, _, _]) rfl (v1 := .agg #[_, _, _]) rfl) (C_multi_Grow S _ _ ⟨((gro S o).getD i ⟨0, 0⟩), 1 * 2 ^ o⟩ _ (Below.slT hB hon) (Below.slT hB hmay) ⟨hgg.1, hgg.2, (by show 1 * 2 ^ o < 256; omega)⟩) (fun v12_5 W103 hE104 hP12_5 => ⟨.inl (hS.trans hE104), ?_⟩))
     have hsz105 := (Below.size hB)
     replace hB := below_ext hB hE104 (Nat.le_refl _)
     replace hm0_0 := hE104.at hm0_0
     replace hm7_3 := hE104.at hm7_3
     replace ho_hP8_8 := hE104.ow ho_hP8_8
     replace hm3_0 := hE104.mapT hm3_0
     replace hoo2 := hE104.ow hoo2
     replace hm11_2 := hE104.at hm11_2
     replace hm12_9 := hE104.at hm12_9
     replace hS := hS.trans hE104
     clear hE104
     rw [Nat.one_mul, if_pos (gro_in hr ho2 hi2)] at hP12_5
     obtain rfl := hP12_5
     clear hsz105
     refine WT_take (dd := some 44) 6 rfl (by kernel_rfl) (by kernel_rfl) (by kernel_rfl) rfl rfl rfl (fun _wq _hq => r_move (v := .tuple #[.agg #[_, _, _], .int .i64 _]) rfl) hS ?_
     refine WT_take (dd := some 51) 7 rfl (by kernel_rfl) (by kernel_rfl) (by kernel_rfl) rfl rfl rfl (fun _wq _hq => r_ext2_0 (h := rfl)) hS ?_
     refine WT_take (dd := some 52) 8 rfl (by kernel_rfl) (by kernel_rfl) (by kernel_rfl) rfl rfl rfl (fun _wq _hq => r_ext2_1 (h := rfl)) hS ?_
     refine WT_one (dd := none) 10 (by kernel_rfl) rfl rfl rfl rfl (Y_storeW rfl rfl tb_ag79 rfl hm12_9 rfl (by rfl) (fun W106 hG107 hm108 => ⟨.inl (below_grown hS hG107 (Nat.le_refl _) (fun j hj => by have e : b12_9 = j := Option.some.inj hj; rw [← e]; exact los_b12_9)), ?_⟩))
     replace hS : Ext _ _ := below_grown hS hG107 (Nat.le_refl _) (fun j hj => by have e : b12_9 = j := Option.some.inj hj; rw [← e]; exact los_b12_9)
     replace hB := below_grown hB hG107 (Nat.le_refl _) (fun j hj => by cases hj; exact lo_b12_9)
     replace hm0_0 := At.grownAt hm0_0 hm12_9 hG107 (by decide)
     replace hm7_3 := At.grownAt hm7_3 hm12_9 hG107 (by decide)
     replace ho_hP8_8 := OwT.grownAt ho_hP8_8 hm12_9 hG107 (by decide)
     replace hm3_0 := MapT.grownAt hm3_0 hm12_9 hG107
     replace hoo2 := OwT.grownAtNe hoo2 no_v1_b12_9 hG107
     replace hm11_2 := At.grownAt hm11_2 hm12_9 hG107 (by decide)
     clear hG107 hm12_9
     have hm12_9 := hm108
     clear hm108
     refine WT_take (dd := some 13) 11 rfl (by kernel_rfl) (by kernel_rfl) (by kernel_rfl) rfl rfl rfl (fun _wq _hq => r_assign (v := .int .i64 _) rfl) hS ?_
     refine WT_done (by kernel_rfl) ?_
     try clear sv83_hB sv83_hm0_0 sv83_hm7_3 sv83_ho_hP8_8 sv83_hm3_0 sv83_hoo2 sv83_hm11_2
     refine hK73 _ _ ?_
     clear hK73 K72
     refine WC_seq (fun K109 hK110 => ?_)
     refine WC_region ?_
     refine WL_val (dd := some 53) rfl rfl rfl (r_move (v := .map (some b3_0)) rfl) ?_
     refine WL_val (dd := some 54) rfl rfl rfl (r_loadW rfl tb_ag79 rfl hm12_9) ?_
     refine WL_val (dd := some 55) rfl rfl rfl (r_lookup (enc := keyR) (encV := Value.bool) (v0 := false) (k := (plX S o i)) rfl rfl tb_mp128 tb_key79 (fun a => ⟨a, rfl⟩) keyR_inj tb_z4 rfl hm3_0) ?_
     refine WL_val (dd := some 56) rfl rfl rfl (r_not rfl) ?_
     refine WL_nil ?_
     refine hK110 _ _ ?_
     clear hK110 K109
     refine WC_cond (b := _) rfl (fun hc3 => ?_) (fun hc3 => ?_)
     ·
      try with_reducible replace hc3 := of_decide_eq_true hc3
      refine WC_seq (fun K111 hK112 => ?_)
      refine WC_region ?_
      refine WL_val (dd := some 57) rfl rfl rfl (r_move (v := .map (some b3_0)) rfl) ?_
      refine WL_val (dd := some 58) rfl rfl rfl (r_loadW rfl tb_ag79 rfl hm12_9) ?_
      refine WL_step (dd := none) rfl rfl rfl (Y_mapUpdate (enc := keyR) (encV := Value.bool) (k := (plX S o i)) (v := true) rfl rfl rfl tb_mp128 tb_key79 (fun a => ⟨a, rfl⟩) keyR_inj hm3_0 (fun W113 hG114 hm115 => ?_))
      replace hB := below_grown hB hG114 (Nat.le_refl _) (fun j hj => by cases hj; exact lo_b3_0)
      replace hm0_0 := At.grownMap hm0_0 hm3_0 hG114
      replace hm7_3 := At.grownMap hm7_3 hm3_0 hG114
      replace ho_hP8_8 := OwT.grownMap ho_hP8_8 hm3_0 hG114
      replace hoo2 := OwT.grownMap hoo2 hm3_0 hG114
      replace hm11_2 := At.grownMap hm11_2 hm3_0 hG114
      replace hm12_9 := At.grownMap hm12_9 hm3_0 hG114
      clear hG114 hm3_0
      have hm3_0 := hm115
      clear hm115
      rw [allT_put] at hm3_0
      refine WL_nil ?_
      refine hK112 _ _ ?_
      clear hK112 K111
      refine WC_region ?_
      refine WL_val (dd := some 59) rfl rfl rfl (r_move (v := v1) rfl) ?_
      refine WL_val (dd := some 60) rfl rfl rfl (r_loadW rfl tb_ag79 rfl hm12_9) ?_
      refine WL_step (dd := some 61) rfl rfl rfl (Y_lit1 (u := .agg #[_, _, _]) rfl tb_el65 tb_zs79 rfl (by decide) (by decide) (fun b15_2 W116 hb117 hE118 hm15_2 => ?_))
      have lo_b15_2 : w.heap.size ≤ b15_2 := hb117 ▸ (Below.size hB)
      have no_v1_b15_2 := OwT.neB (b := b15_2) hoo2 (Nat.le_of_eq hb117.symm)
      have ne_b12_9_b15_2 : b12_9 ≠ b15_2 := Nat.ne_of_lt (hb117 ▸ hm12_9.lt)
      clear hb117
      replace hB := below_ext hB hE118 (Nat.le_refl _)
      replace hm0_0 := hE118.at hm0_0
      replace hm7_3 := hE118.at hm7_3
      replace ho_hP8_8 := hE118.ow ho_hP8_8
      replace hm3_0 := hE118.mapT hm3_0
      replace hoo2 := hE118.ow hoo2
      replace hm11_2 := hE118.at hm11_2
      replace hm12_9 := hE118.at hm12_9
      clear hE118
      refine WL_step (dd := some 62) rfl rfl rfl (Y_append (v := v1) (v2 := .slice (some ⟨b15_2, 0, none⟩) 1 1) rfl rfl tb_el65 tb_zs79 (by decide) hoo2 (sl_lit1 hm15_2 rfl) rfl (by have := Below.size hB; omega) (by first | omega | (simp; omega) | (simp only [flagsTo_len, litsTo_len, firstF_len, ptF_len, setF_len]; omega)) (by first | omega | (simp; omega) | (simp only [flagsTo_len, litsTo_len, firstF_len, ptF_len, setF_len]; omega)) (fun v15_3 W119 hG120 ho15_3 => ?_))
      replace ho15_3 := OwT.snoc (enc := encR) (x := (plX S o i)) rfl rfl rfl rfl ho15_3
      clear hm15_2
      replace hB := below_grown hB hG120 (Nat.le_refl _) (fun j hj => (OwT.lt hoo2 j hj))
      replace hm0_0 := At.grownOw hm0_0 hoo2 hG120 (by decide)
      replace hm7_3 := At.grownOw hm7_3 hoo2 hG120 (by decide)
      replace ho_hP8_8 := OwT.grownOw ho_hP8_8 hoo2 hG120 (by decide)
      replace hm3_0 := MapT.grownOw hm3_0 hoo2 hG120
      replace hm11_2 := At.grownOw hm11_2 hoo2 hG120 (by decide)
      replace hm12_9 := At.grownOwNe hm12_9 no_v1_b12_9 hG120
      clear hG120
      clear hoo2
      refine WL_val (dd := some 5) rfl rfl rfl (r_assign (v := v15_3) rfl) ?_
      refine WL_nil ?_
      refine hK63 _ _ ?_
      clear hK63 K62
      refine WC_region ?_
      refine WL_val (dd := some 63) rfl rfl rfl (r_addI rfl rfl (by omega) (by omega)) ?_
      refine WL_val (dd := some 40) rfl rfl rfl (r_move (v := .int .i64 _) rfl) ?_
      refine WL_nil ?_
      refine hJ57 _ _ ((i + 1, v15_3)) ?_ ?_ ?_ ?_
      · repeat (first | exact agree.mask _ _ _ | refine agree.updo ?_ rfl _ | refine agree.updL ?_ _ rfl | refine agree.maskS rfl ?_)
      · exact ⟨rfl, rfl, trivial⟩
      · exact ⟨hB, hm0_0, hm7_3, ho_hP8_8, (by first | exact hm3_0 | (rw [← plC_old (is_inR (kk := plX S o i) hc3)]; exact hm3_0)), (by first | (rw [← plC_new (not_inR (kk := plX S o i) hc3)]; exact ho15_3) | (rw [← plC_old (is_inR (kk := plX S o i) hc3)]; exact ho15_3)), (by omega), trivial⟩
      · show (gro S o).length - (i + 1) < (gro S o).length - i; omega
     ·
      try with_reducible replace hc3 := of_decide_eq_false hc3
      refine WC_skip ?_
      refine hK63 _ _ ?_
      clear hK63 K62
      refine WC_region ?_
      refine WL_val (dd := some 63) rfl rfl rfl (r_addI rfl rfl (by omega) (by omega)) ?_
      refine WL_val (dd := some 40) rfl rfl rfl (r_move (v := .int .i64 _) rfl) ?_
      refine WL_nil ?_
      refine hJ57 _ _ ((i + 1, v1)) ?_ ?_ ?_ ?_
      · repeat (first | exact agree.mask _ _ _ | refine agree.updo ?_ rfl _ | refine agree.updL ?_ _ rfl | refine agree.maskS rfl ?_)
      · exact ⟨rfl, rfl, trivial⟩
      · exact ⟨hB, hm0_0, hm7_3, ho_hP8_8, (by first | exact hm3_0 | (rw [← plC_old (is_inR (kk := plX S o i) hc3)]; exact hm3_0)), (by first | (rw [← plC_new (not_inR (kk := plX S o i) hc3)]; exact hoo2) | (rw [← plC_old (is_inR (kk := plX S o i) hc3)]; exact hoo2)), (by omega), trivial⟩
      · show (gro S o).length - (i + 1) < (gro S o).length - i; omega
   ·
    try with_reducible replace hc2 := of_decide_eq_false hc2
    refine WC_exit ?_
    refine hK35 _ _ ?_
    clear hK61 K60
    clear hJ57 J56
    clear hK35 K34
    refine WC_region ?_
    refine WL_val (dd := some 64) rfl rfl rfl (r_addI rfl rfl (by omega) (by omega)) ?_
    refine WL_val (dd := some 21) rfl rfl rfl (r_move (v := .int .i64 _) rfl) ?_
    refine WL_nil ?_
    refine hJ29 _ _ ((o + 1, v1)) ?_ ?_ ?_ ?_
    · repeat (first | exact agree.mask _ _ _ | refine agree.updo ?_ rfl _ | refine agree.updL ?_ _ rfl | refine agree.maskS rfl ?_)
    · exact ⟨rfl, rfl, trivial⟩
    · exact ⟨hB, hm0_0, (by rw [plT]; have e : i = (gro S o).length := (by omega); subst e; exact hm3_0), (by rw [plT]; have e : i = (gro S o).length := (by omega); subst e; exact hoo2), (by omega), trivial⟩
    · show S.on.length - (o + 1) < S.on.length - o; omega
  ·
   try with_reducible replace hc1 := of_decide_eq_false hc1
   refine WC_exit ?_
   refine hK23 _ _ ?_
   clear hK33 K32
   clear hJ29 J28
   clear hK23 K22
   refine WC_seq (fun K122 hK123 => ?_)
   refine WC_region ?_
   refine WL_val (dd := some 65) rfl rfl rfl (r_move (v := v0) rfl) ?_
   refine WL_val (dd := some 2) rfl rfl rfl (r_assign (v := v0) rfl) ?_
   refine WL_val (dd := some 3) rfl rfl rfl (r_assign (v := .int .i64 0) rfl) ?_
   refine WL_nil ?_
   refine hK123 _ _ ?_
   clear hK123 K122
   refine WC_ret ?_
   repeat (first | refine thenQ_ret ?_ | refine blockQ_ret ?_)
   refine ret_tt (v := v0) rfl (v1 := .int .i64 0) rfl ?_
   refine ⟨hB, ?_⟩
   obtain rfl : o = S.on.length := by omega
   rw [if_pos hr]
   exact ⟨_, rfl, ho⟩

end Go.Proofs.Ytdbcijijhhbkaaa
