/-
  The walk of the statement about plain rows.
-/
import Derived.Test.YtdbcijijhhbkaaaProg
import Derived.Test.YtdbcijijhhbkaaaWLaw16
namespace Go.Proofs.Ytdbcijijhhbkaaa
set_option linter.unusedVariables false
set_option linter.unusedSimpArgs false
open Go Go.RowKit

theorem tb_c57 : callB Try.prog 57 = true := by kernel_rfl
theorem tb_c72 : callB Try.prog 72 = true := by kernel_rfl
theorem tb_c56 : callB Try.prog 56 = true := by kernel_rfl
theorem tb_c70 : callB Try.prog 70 = true := by kernel_rfl
theorem tb_c60 : callB Try.prog 60 = true := by kernel_rfl

set_option maxRecDepth 10000 in
theorem C_drawknifelaw16_ThinPlain (S : Sp) (onV mayV : Value) (w : World) (hon : SlT encS 4 w onV S.on) (hmay : SlT encS 4 w mayV S.may) :
    Fn Try.prog 21 #[.agg #[.int .i64 S.n, onV, mayV]] w fun v w' => v = .bool true := by
 refine Fn_intro (n := 107) Try.func21 rfl rfl (Nat.le_of_ble_eq_true rfl) ?_
 have hB : Below w.heap.size w w := Below.refl _ _
 refine WC_seq (fun K1 hK2 => ?_)
 refine WC_region ?_
 refine WL_step (dd := some 1) rfl rfl rfl (Y_box (c := #[_, _, _]) rfl rfl (fun b0_0 W3 hb4 hE5 hm0_0 => ?_))
 have lo_b0_0 : w.heap.size ≤ b0_0 := hb4 ▸ (Below.size hB)
 clear hb4
 replace hB := below_ext hB hE5 (Nat.le_refl _)
 clear hE5
 refine WL_val (dd := some 2) rfl rfl rfl (r_assign (v := .bool false) rfl) ?_
 refine WL_nil ?_
 refine hK2 _ _ ?_
 clear hK2 K1
 refine WC_seq (fun K6 hK7 => ?_)
 refine WC_seq (fun K8 hK9 => ?_)
 refine WC_region ?_
 refine WL_val (dd := some 14) rfl rfl rfl (r_loadW rfl tb_ag64 rfl hm0_0) ?_
 refine WL_call (dd := some 15) rfl rfl rfl (r_call1 tb_c57 (v0 := .agg #[_, _, _]) rfl) (C_drawknifelaw10_Great S _ _  _ (Below.slT hB hon) (Below.slT hB hmay) ) (fun v1_1 W10 hE11 hP1_1 => ?_)
 have hsz12 := (Below.size hB)
 replace hB := below_ext hB hE11 (Nat.le_refl _)
 replace hm0_0 := hE11.at hm0_0
 clear hE11
 clear hsz12
 obtain rfl := hP1_1
 refine WL_nil ?_
 refine hK9 _ _ ?_
 clear hK9 K8
 refine WC_cond (b := _) rfl (fun hc0 => ?_) (fun hc0 => ?_)
 ·
  try with_reducible replace hc0 := of_decide_eq_true hc0
  refine WC_seq (fun K13 hK14 => ?_)
  refine WC_region ?_
  refine WL_call (dd := some 16) rfl rfl rfl (r_call0 tb_c72) (C_drawknifelaw16_knows _) (fun v2_0 W15 hE16 hP2_0 => ?_)
  have hsz17 := (Below.size hB)
  replace hB := below_ext hB hE16 (Nat.le_refl _)
  replace hm0_0 := hE16.at hm0_0
  clear hE16
  clear hsz17
  obtain rfl := hP2_0
  refine WL_val (dd := some 2) rfl rfl rfl (r_assign (v := .bool _) rfl) ?_
  refine WL_nil ?_
  refine hK14 _ _ ?_
  clear hK14 K13
  refine WC_ret ?_
  repeat (first | refine thenQ_ret ?_ | refine blockQ_ret ?_)
  try clear hK7 K6
  refine ret_t (v := .bool _) rfl ?_
  refine ⟨hB, ?_⟩
  rfl
 ·
  try with_reducible replace hc0 := of_decide_eq_false hc0
  refine WC_skip ?_
  refine hK7 _ _ ?_
  clear hK7 K6
  refine WC_seq (fun K18 hK19 => ?_)
  refine WC_region ?_
  refine WL_val (dd := some 18) rfl rfl rfl (r_loadW rfl tb_ag64 rfl hm0_0) ?_
  refine WL_call (dd := some 19) rfl rfl rfl (r_call1 tb_c77 (v0 := .agg #[_, _, _]) rfl) (C_thin_Plain S _ _  _ (Below.slT hB hon) (Below.slT hB hmay) ) (fun v3_1 W20 hE21 hP3_1 => ?_)
  have hsz22 := (Below.size hB)
  replace hB := below_ext hB hE21 (Nat.le_refl _)
  replace hm0_0 := hE21.at hm0_0
  clear hE21
  obtain ⟨x_hP3_1, er_hP3_1, l_hP3_1, rfl, ho_hP3_1, hc_hP3_1⟩ := own_res hP3_1
  replace ho_hP3_1 := OwT.mono ho_hP3_1 hsz22
  clear hsz22
  refine WL_val (dd := some 17) rfl rfl rfl (r_move (v := .tuple #[x_hP3_1, .int .i64 _]) rfl) ?_
  refine WL_val (dd := some 20) rfl rfl rfl (r_ext2_0 (h := rfl)) ?_
  refine WL_val (dd := some 21) rfl rfl rfl (r_ext2_1 (h := rfl)) ?_
  refine WL_val (dd := some 3) rfl rfl rfl (r_assign (v := x_hP3_1) rfl) ?_
  refine WL_val (dd := some 4) rfl rfl rfl (r_assign (v := .int .i64 _) rfl) ?_
  refine WL_nil ?_
  refine hK19 _ _ ?_
  clear hK19 K18
  refine WC_seq (fun K23 hK24 => ?_)
  refine WC_seq (fun K25 hK26 => ?_)
  refine WC_region ?_
  refine WL_val (dd := some 22) rfl rfl rfl (r_loadW rfl tb_ag64 rfl hm0_0) ?_
  refine WL_call (dd := some 23) rfl rfl rfl (r_call1 tb_c56 (v0 := .agg #[_, _, _]) rfl) (C_drawkniferef04_Right S _ _  _ (Below.slT hB hon) (Below.slT hB hmay) ) (fun v4_1 W27 hE28 hP4_1 => ?_)
  have hsz29 := (Below.size hB)
  replace hB := below_ext hB hE28 (Nat.le_refl _)
  replace hm0_0 := hE28.at hm0_0
  replace ho_hP3_1 := hE28.ow ho_hP3_1
  clear hE28
  clear hsz29
  obtain rfl := hP4_1
  refine WL_val (dd := some 24) rfl rfl rfl (r_not rfl) ?_
  refine WL_nil ?_
  refine hK26 _ _ ?_
  clear hK26 K25
  refine WC_cond (b := _) rfl (fun hc1 => ?_) (fun hc1 => ?_)
  ·
   try with_reducible replace hc1 := of_decide_eq_true hc1
   refine WC_seq (fun K30 hK31 => ?_)
   obtain ⟨q2, q3⟩ := hc_hP3_1.elim (fun h => absurd h.1 (by rw [(not_t hc1)]; decide)) (fun h => h.2)
   subst q2 q3
   refine WC_region ?_
   refine WL_val (dd := some 25) rfl rfl rfl (r_move (v := x_hP3_1) rfl) ?_
   refine WL_val (dd := some 26) rfl rfl rfl (r_lenS (v := x_hP3_1) rfl ho_hP3_1.sl tb_el65) ?_
   refine WL_val (dd := some 27) rfl rfl rfl (r_eql rfl rfl) ?_
   refine WL_split (dd := some 28) rfl rfl rfl (r_move (v := .bool _) rfl) (fun hs5_3 => ?_) (fun hs5_3 => ?_)
   ·
    try with_reducible replace hs5_3 := of_decide_eq_true hs5_3
    refine WL_val (dd := some 29) rfl rfl rfl (r_move (v := .int .i64 _) rfl) ?_
    refine WL_val (dd := some 30) rfl rfl rfl (r_eql rfl rfl) ?_
    refine WL_val (dd := some 31) rfl rfl rfl (r_pick_t rfl (v := .bool _) rfl) ?_
    refine WL_split (dd := some 32) rfl rfl rfl (r_move (v := .bool _) rfl) (fun hs5_7 => ?_) (fun hs5_7 => ?_)
    ·
     try with_reducible replace hs5_7 := of_decide_eq_true hs5_7
     refine WL_call (dd := some 33) rfl rfl rfl (r_call0 tb_c72) (C_drawknifelaw16_knows _) (fun v5_8 W32 hE33 hP5_8 => ?_)
     have hsz34 := (Below.size hB)
     replace hB := below_ext hB hE33 (Nat.le_refl _)
     replace hm0_0 := hE33.at hm0_0
     replace ho_hP3_1 := hE33.ow ho_hP3_1
     clear hE33
     clear hsz34
     obtain rfl := hP5_8
     refine WL_val (dd := some 34) rfl rfl rfl (r_pick_t rfl (v := .bool _) rfl) ?_
     refine WL_val (dd := some 2) rfl rfl rfl (r_assign (v := .bool _) rfl) ?_
     refine WL_nil ?_
     refine hK31 _ _ ?_
     clear hK31 K30
     refine WC_ret ?_
     repeat (first | refine thenQ_ret ?_ | refine blockQ_ret ?_)
     try clear hK24 K23
     refine ret_t (v := .bool _) rfl ?_
     refine ⟨hB, ?_⟩
     rfl
    ·
     try with_reducible replace hs5_7 := of_decide_eq_false hs5_7
     exact absurd rfl hs5_7
   ·
    try with_reducible replace hs5_3 := of_decide_eq_false hs5_3
    exact absurd rfl hs5_3
  ·
   try with_reducible replace hc1 := of_decide_eq_false hc1
   refine WC_skip ?_
   refine hK24 _ _ ?_
   clear hK24 K23
   refine WC_seq (fun K35 hK36 => ?_)
   have hr : rightS S = true := not_f hc1
   obtain ⟨q2, q3⟩ := hc_hP3_1.elim (fun h => h.2) (fun h => absurd hr (by rw [h.1]; decide))
   subst q2 q3
   obtain ⟨h0, h8, h1, h4, h5, hin⟩ := rightS_iff.1 hr
   have hpl := plain_len hr
   refine WC_region ?_
   refine WL_val (dd := some 5) rfl rfl rfl (r_assign (v := .slice none 0 0) rfl) ?_
   refine WL_nil ?_
   refine hK36 _ _ ?_
   clear hK36 K35
   refine WC_seq (fun K37 hK38 => ?_)
   refine WC_region ?_
   refine WL_val (dd := some 6) rfl rfl rfl (r_assign (v := .int .u8 1) rfl) ?_
   refine WL_nil ?_
   refine hK38 _ _ ?_
   clear hK38 K37
   refine WC_seq (fun K39 hK40 => ?_)
   refine WC_seq (fun K41 hK42 => ?_)
   refine WC_region ?_
   refine WL_val (dd := some 7) rfl rfl rfl (r_assign (v := .int .i64 0) rfl) ?_
   refine WL_nil ?_
   refine hK42 _ _ ?_
   clear hK42 K41
   refine WC_block ?_
   refine WC_loop (σ := (Nat) × (Value)) [2, 5, 6, 7, 8, 9, 10, 11, 12, 13, 35, 36, 37, 38, 39, 40, 41, 42, 43, 44, 45, 46, 47, 48, 49, 50, 51, 52, 53, 54, 55, 56, 57, 58, 59, 60, 61, 62, 63, 64, 65, 66, 67, 68, 69, 70, 71, 72, 73, 74, 75, 76, 77, 78, 79, 80, 81, 82, 83, 84, 85, 86, 87, 88, 89, 90, 91, 92, 93, 94, 95, 96] (fun (o, v0) => [(7, .int .i64 (o : Int)), (5, v0), (6, .int .u8 ((2 ^ o % 256 : Nat) : Int))]) (fun sg W => match sg with | (o, v0) => (Below w.heap.size w W) ∧ (At W b0_0 _ 64) ∧ (OwT encR 3 79 W w.heap.size x_hP3_1 _) ∧ (Apart v0 x_hP3_1) ∧ (OwT encR 3 79 W w.heap.size v0 (plT S o)) ∧ (o ≤ S.on.length) ∧ (True)) (fun (o, v0) => S.on.length - o) ((0, .slice none 0 0)) ⟨rfl, rfl, rfl, trivial⟩ ⟨hB, hm0_0, ho_hP3_1, Apart.nilL, OwT.nil, (Nat.zero_le _), trivial⟩ ?_
   clear hB hm0_0 ho_hP3_1
   rintro ⟨o, v0⟩ g44 W43 ⟨hB, hm0_0, ho_hP3_1, hap, ho, hoo, _⟩ J45 hJ46
   refine WC_seq (fun K47 hK48 => ?_)
   refine WC_seq (fun K49 hK50 => ?_)
   refine WC_region ?_
   refine WL_val (dd := some 35) rfl rfl rfl (r_move (v := .int .i64 _) rfl) ?_
   refine WL_val (dd := some 36) rfl rfl rfl (r_fieldAddr (b := _) (o := _) rfl tb_fo64_1) ?_
   refine WL_val (dd := some 37) rfl rfl rfl (r_load1 (v := onV) rfl tb_sc62 (At.cell hm0_0 rfl)) ?_
   refine WL_val (dd := some 38) rfl rfl rfl (r_lenS (v := onV) rfl (Below.slT hB hon) tb_el62) ?_
   refine WL_val (dd := some 39) rfl rfl rfl (r_lss rfl rfl) ?_
   refine WL_nil ?_
   refine hK50 _ _ ?_
   clear hK50 K49
   refine WC_cond (b := _) rfl (fun hc2 => ?_) (fun hc2 => ?_)
   ·
    try with_reducible replace hc2 := of_decide_eq_true hc2
    refine WC_skip ?_
    refine hK48 _ _ ?_
    clear hK48 K47
    refine WC_seq (fun K51 hK52 => ?_)
    refine WC_block ?_
    refine WC_seq (fun K53 hK54 => ?_)
    have ho2 : o < S.on.length := by omega
    have h7 := pow7 (show o < 8 by omega)
    have hgl := gro_lt hr ho2
    have hptl := plT_len hr o (by omega)
    have hmod : 2 ^ o % 256 = 2 ^ o := Nat.mod_eq_of_lt (by omega)
    refine WC_draw Ext tb_mix (fun W55 hE56 => ?_)
    replace hB := below_ext hB hE56 (Nat.le_refl _)
    replace hm0_0 := hE56.at hm0_0
    replace ho_hP3_1 := hE56.ow ho_hP3_1
    replace ho := hE56.ow ho
    have hS := Ext.refl W55
    refine WT_take (dd := some 43) 0 rfl (by kernel_rfl) (by kernel_rfl) (by kernel_rfl) rfl rfl rfl (fun _wq _hq => r_fieldAddr (b := _) (o := _) rfl tb_fo64_1) hS ?_
    refine WT_take (dd := some 44) 1 rfl (by kernel_rfl) (by kernel_rfl) (by kernel_rfl) rfl rfl rfl (fun _wq hq => r_load1 (v := onV) rfl tb_sc62 (At.cell (hq.at hm0_0) rfl)) hS ?_
    refine WT_take (dd := some 45) 2 rfl (by kernel_rfl) (by kernel_rfl) (by kernel_rfl) rfl rfl rfl (fun _wq _hq => r_move (v := .int .i64 _) rfl) hS ?_
    refine WT_take (dd := some 46) 3 rfl (by kernel_rfl) (by kernel_rfl) (by kernel_rfl) rfl rfl rfl (fun _wq hq => r_idxS (v := onV) rfl (hq.slT (Below.slT hB hon)) rfl tb_el62 (by omega) (by first | omega | (simp only [flagsTo_len, litsTo_len, firstF_len, ptF_len, setF_len]; omega))) hS ?_
    refine WT_take (dd := some 47) 4 rfl (by kernel_rfl) (by kernel_rfl) (by kernel_rfl) rfl rfl rfl (fun _wq hq => r_load4 rfl tb_ag24 (SlT.cell (hq.slT (Below.slT hB hon)) encS_len 0 (by omega) (by first | omega | (simp only [flagsTo_len, litsTo_len, firstF_len, ptF_len, setF_len]; omega)) 0 rfl) (SlT.cell (hq.slT (Below.slT hB hon)) encS_len 0 (by omega) (by first | omega | (simp only [flagsTo_len, litsTo_len, firstF_len, ptF_len, setF_len]; omega)) 1 rfl) (SlT.cell (hq.slT (Below.slT hB hon)) encS_len 0 (by omega) (by first | omega | (simp only [flagsTo_len, litsTo_len, firstF_len, ptF_len, setF_len]; omega)) 2 rfl) (SlT.cell (hq.slT (Below.slT hB hon)) encS_len 0 (by omega) (by first | omega | (simp only [flagsTo_len, litsTo_len, firstF_len, ptF_len, setF_len]; omega)) 3 rfl)) hS ?_
    refine WT_take (dd := some 48) 5 rfl (by kernel_rfl) (by kernel_rfl) (by kernel_rfl) rfl rfl rfl (fun _wq _hq => r_fieldAddr (b := _) (o := _) rfl tb_fo64_2) hS ?_
    refine WT_take (dd := some 49) 6 rfl (by kernel_rfl) (by kernel_rfl) (by kernel_rfl) rfl rfl rfl (fun _wq hq => r_load1 (v := mayV) rfl tb_sc62 (At.cell (hq.at hm0_0) rfl)) hS ?_
    refine WT_take (dd := some 50) 7 rfl (by kernel_rfl) (by kernel_rfl) (by kernel_rfl) rfl rfl rfl (fun _wq _hq => r_move (v := .int .i64 _) rfl) hS ?_
    refine WT_take (dd := some 51) 8 rfl (by kernel_rfl) (by kernel_rfl) (by kernel_rfl) rfl rfl rfl (fun _wq hq => r_idxS (v := mayV) rfl (hq.slT (Below.slT hB hmay)) rfl tb_el62 (by omega) (by first | omega | (simp only [flagsTo_len, litsTo_len, firstF_len, ptF_len, setF_len]; omega))) hS ?_
    refine WT_take (dd := some 52) 9 rfl (by kernel_rfl) (by kernel_rfl) (by kernel_rfl) rfl rfl rfl (fun _wq hq => r_load4 rfl tb_ag24 (SlT.cell (hq.slT (Below.slT hB hmay)) encS_len 0 (by omega) (by first | omega | (simp only [flagsTo_len, litsTo_len, firstF_len, ptF_len, setF_len]; omega)) 0 rfl) (SlT.cell (hq.slT (Below.slT hB hmay)) encS_len 0 (by omega) (by first | omega | (simp only [flagsTo_len, litsTo_len, firstF_len, ptF_len, setF_len]; omega)) 1 rfl) (SlT.cell (hq.slT (Below.slT hB hmay)) encS_len 0 (by omega) (by first | omega | (simp only [flagsTo_len, litsTo_len, firstF_len, ptF_len, setF_len]; omega)) 2 rfl) (SlT.cell (hq.slT (Below.slT hB hmay)) encS_len 0 (by omega) (by first | omega | (simp only [flagsTo_len, litsTo_len, firstF_len, ptF_len, setF_len]; omega)) 3 rfl)) hS ?_
    refine WT_take (dd := some 53) 10 rfl (by kernel_rfl) (by kernel_rfl) (by kernel_rfl) rfl rfl rfl (fun _wq _hq => r_fieldAddr (b := _) (o := _) rfl tb_fo64_0) hS ?_
    refine WT_take (dd := some 54) 11 rfl (by kernel_rfl) (by kernel_rfl) (by kernel_rfl) rfl rfl rfl (fun _wq hq => r_load1 (v := .int .i64 _) rfl tb_sc3 (At.cell (hq.at hm0_0) rfl)) hS ?_
    refine WT_one (dd := some 55) 12 (by kernel_rfl) rfl rfl rfl rfl (Yd.call (r_call3 tb_c43 (v0 := .agg #[_, _, _, _]) rfl (v1 := .agg #[_, _, _, _]) rfl (v2 := .int .i64 _) rfl) (C_isop_Grown (onP S o) (mayP S o) S.n _) (fun v11_12 W57 hE58 hP11_12 => ⟨.inl (hS.trans hE58), ?_⟩))
    have hsz59 := (Below.size hB)
    have sv60_hB := hB
    have sv60_hm0_0 := hm0_0
    have sv60_ho_hP3_1 := ho_hP3_1
    have sv60_ho := ho
    replace hB := below_ext hB hE58 (Nat.le_refl _)
    replace hm0_0 := hE58.at hm0_0
    replace ho_hP3_1 := hE58.ow ho_hP3_1
    replace ho := hE58.ow ho
    replace hS := hS.trans hE58
    clear hE58
    obtain ⟨x_hP11_12, er_hP11_12, l_hP11_12, rfl, ho_hP11_12, hc_hP11_12⟩ := own_res hP11_12
    replace ho_hP11_12 := OwT.mono ho_hP11_12 hsz59
    clear hsz59
    refine WT_take (dd := some 42) 13 rfl (by kernel_rfl) (by kernel_rfl) (by kernel_rfl) rfl rfl rfl (fun _wq _hq => r_move (v := .tuple #[x_hP11_12, .int .i64 _]) rfl) hS ?_
    refine WT_take (dd := some 56) 14 rfl (by kernel_rfl) (by kernel_rfl) (by kernel_rfl) rfl rfl rfl (fun _wq _hq => r_ext2_0 (h := rfl)) hS ?_
    refine WT_take (dd := some 57) 15 rfl (by kernel_rfl) (by kernel_rfl) (by kernel_rfl) rfl rfl rfl (fun _wq _hq => r_ext2_1 (h := rfl)) hS ?_
    refine WT_take (dd := some 8) 16 rfl (by kernel_rfl) (by kernel_rfl) (by kernel_rfl) rfl rfl rfl (fun _wq _hq => r_assign (v := x_hP11_12) rfl) hS ?_
    refine WT_take (dd := some 9) 17 rfl (by kernel_rfl) (by kernel_rfl) (by kernel_rfl) rfl rfl rfl (fun _wq _hq => r_assign (v := .int .i64 _) rfl) hS ?_
    refine WT_done (by kernel_rfl) ?_
    try clear sv60_hB sv60_hm0_0 sv60_ho_hP3_1 sv60_ho
    refine hK54 _ _ ?_
    clear hK54 K53
    refine WC_seq (fun K61 hK62 => ?_)
    refine WC_seq (fun K63 hK64 => ?_)
    obtain ⟨q6, hleq⟩ : er_hP11_12 = 0 ∧ l_hP11_12 = gro S o := hc_hP11_12.elim (fun h => h.2) (fun h => absurd (ok_right hr ho2) (by rw [h.1]; decide))
    subst q6
    subst hleq
    refine WC_region ?_
    refine WL_val (dd := some 58) rfl rfl rfl (r_move (v := .int .i64 _) rfl) ?_
    refine WL_val (dd := some 59) rfl rfl rfl (r_neq rfl rfl) ?_
    refine WL_nil ?_
    refine hK64 _ _ ?_
    clear hK64 K63
    refine WC_cond (b := _) rfl (fun hc3 => ?_) (fun hc3 => ?_)
    ·
     try with_reducible replace hc3 := of_decide_eq_true hc3
     exact absurd rfl hc3
    ·
     try with_reducible replace hc3 := of_decide_eq_false hc3
     refine WC_skip ?_
     refine hK62 _ _ ?_
     clear hK62 K61
     refine WC_seq (fun K65 hK66 => ?_)
     refine WC_seq (fun K67 hK68 => ?_)
     refine WC_region ?_
     refine WL_val (dd := some 10) rfl rfl rfl (r_assign (v := .int .i64 0) rfl) ?_
     refine WL_nil ?_
     refine hK68 _ _ ?_
     clear hK68 K67
     refine WC_block ?_
     refine WC_loop (σ := (Nat) × (Value)) [5, 10, 11, 12, 13, 60, 61, 62, 63, 64, 65, 66, 67, 68, 69, 70, 71, 72, 73, 74, 75, 76, 77, 78, 79, 80, 81, 82, 83, 84, 85, 86, 87, 88, 89, 90, 91, 92, 93, 94] (fun (i, v1) => [(10, .int .i64 (i : Int)), (5, v1)]) (fun sg W => match sg with | (i, v1) => (Below w.heap.size w W) ∧ (At W b0_0 _ 64) ∧ (OwT encR 3 79 W w.heap.size x_hP3_1 _) ∧ (OwT encC 2 34 W w.heap.size x_hP11_12 _) ∧ (Apart v1 x_hP3_1) ∧ (OwT encR 3 79 W w.heap.size v1 (plC S o (plT S o) i)) ∧ (i ≤ (gro S o).length) ∧ (True)) (fun (i, v1) => (gro S o).length - i) ((0, v0)) ⟨rfl, rfl, trivial⟩ ⟨hB, hm0_0, ho_hP3_1, ho_hP11_12, hap, (by exact ho), (Nat.zero_le _), trivial⟩ ?_
     clear hB hm0_0 ho_hP3_1 hap ho ho_hP11_12
     rintro ⟨i, v1⟩ g70 W69 ⟨hB, hm0_0, ho_hP3_1, ho_hP11_12, hap2, hoo2, hi, _⟩ J71 hJ72
     refine WC_seq (fun K73 hK74 => ?_)
     refine WC_seq (fun K75 hK76 => ?_)
     refine WC_region ?_
     refine WL_val (dd := some 60) rfl rfl rfl (r_move (v := .int .i64 _) rfl) ?_
     refine WL_val (dd := some 61) rfl rfl rfl (r_move (v := x_hP11_12) rfl) ?_
     refine WL_val (dd := some 62) rfl rfl rfl (r_lenS (v := x_hP11_12) rfl ho_hP11_12.sl tb_el27) ?_
     refine WL_val (dd := some 63) rfl rfl rfl (r_lss rfl rfl) ?_
     refine WL_nil ?_
     refine hK76 _ _ ?_
     clear hK76 K75
     refine WC_cond (b := _) rfl (fun hc4 => ?_) (fun hc4 => ?_)
     ·
      try with_reducible replace hc4 := of_decide_eq_true hc4
      refine WC_skip ?_
      refine hK74 _ _ ?_
      clear hK74 K73
      refine WC_seq (fun K77 hK78 => ?_)
      refine WC_block ?_
      refine WC_seq (fun K79 hK80 => ?_)
      have hi2 : i < (gro S o).length := by omega
      have hgg := gro_get hr ho2 hi2
      have hcl := plC_len S o (plT S o) i
      have hin3 : inR S ⟨((gro S o).getD i ⟨0, 0⟩), 2 ^ o % 256⟩ = true := by rw [hmod]; exact gro_in hr ho2 hi2
      have hpx : growR S ⟨((gro S o).getD i ⟨0, 0⟩), 2 ^ o % 256⟩ = plX S o i := by rw [hmod]; rfl
      refine WC_draw Ext tb_mix (fun W81 hE82 => ?_)
      replace hB := below_ext hB hE82 (Nat.le_refl _)
      replace hm0_0 := hE82.at hm0_0
      replace ho_hP3_1 := hE82.ow ho_hP3_1
      replace ho_hP11_12 := hE82.ow ho_hP11_12
      replace hoo2 := hE82.ow hoo2
      have hS := Ext.refl W81
      refine WT_take (dd := some 66) 0 rfl (by kernel_rfl) (by kernel_rfl) (by kernel_rfl) rfl rfl rfl (fun _wq hq => r_loadW rfl tb_ag64 rfl (hq.at hm0_0)) hS ?_
      refine WT_take (dd := some 67) 1 rfl (by kernel_rfl) (by kernel_rfl) (by kernel_rfl) rfl rfl rfl (fun _wq _hq => r_move (v := x_hP11_12) rfl) hS ?_
      refine WT_take (dd := some 68) 2 rfl (by kernel_rfl) (by kernel_rfl) (by kernel_rfl) rfl rfl rfl (fun _wq _hq => r_move (v := .int .i64 _) rfl) hS ?_
      refine WT_take (dd := some 69) 3 rfl (by kernel_rfl) (by kernel_rfl) (by kernel_rfl) rfl rfl rfl (fun _wq hq => r_idxS (v := x_hP11_12) rfl ((hq.ow ho_hP11_12)).sl rfl tb_el27 (by omega) (by first | omega | (simp only [flagsTo_len, litsTo_len, firstF_len, ptF_len, setF_len]; omega))) hS ?_
      refine WT_take (dd := some 70) 4 rfl (by kernel_rfl) (by kernel_rfl) (by kernel_rfl) rfl rfl rfl (fun _wq hq => r_load2 rfl tb_ag34 (SlT.cell ((hq.ow ho_hP11_12)).sl encC_len ⟨0, 0⟩ (by omega) (by first | omega | (simp only [flagsTo_len, litsTo_len, firstF_len, ptF_len, setF_len]; omega)) 0 rfl) (SlT.cell ((hq.ow ho_hP11_12)).sl encC_len ⟨0, 0⟩ (by omega) (by first | omega | (simp only [flagsTo_len, litsTo_len, firstF_len, ptF_len, setF_len]; omega)) 1 rfl)) hS ?_
      refine WT_take (dd := some 71) 5 rfl (by kernel_rfl) (by kernel_rfl) (by kernel_rfl) rfl rfl rfl (fun _wq _hq => r_move (v := .int .u8 _) rfl) hS ?_
      refine WT_take (dd := some 72) 6 rfl (by kernel_rfl) (by kernel_rfl) (by kernel_rfl) rfl rfl rfl (fun _wq _hq => tb_build79_0_1 (h0 := rfl) (h1 := rfl) (k1 := rfl) (c1_0 := .int .u8 _)) hS ?_
      refine WT_two 7 8 (by kernel_rfl) rfl rfl rfl rfl rfl rfl rfl rfl (Yd.call (r_call2 tb_c70 (v0 := .agg #[_, _, _]) rfl (v1 := .agg #[_, _, _]) rfl) (C_drawkniferef10_Grow S _ _ ⟨((gro S o).getD i ⟨0, 0⟩), 2 ^ o % 256⟩ _ (Below.slT hB hon) (Below.slT hB hmay) hin3 ⟨hgg.1, hgg.2, (by show 2 ^ o % 256 < 256; omega)⟩) (fun v17_7 W83 hE84 hP17_7 => ⟨.inl (hS.trans hE84), ?_⟩)) (Y_alloc tb_z79 rfl (fun b17_8 W87 hb88 hE89 hm17_8 => ⟨.inl (hS.trans hE89), ?_⟩))
      ·
       have hsz85 := (Below.size hB)
       have sv86_hB := hB
       have sv86_hm0_0 := hm0_0
       have sv86_ho_hP3_1 := ho_hP3_1
       have sv86_ho_hP11_12 := ho_hP11_12
       have sv86_hoo2 := hoo2
       replace hB := below_ext hB hE84 (Nat.le_refl _)
       replace hm0_0 := hE84.at hm0_0
       replace ho_hP3_1 := hE84.ow ho_hP3_1
       replace ho_hP11_12 := hE84.ow ho_hP11_12
       replace hoo2 := hE84.ow hoo2
       replace hS := hS.trans hE84
       clear hE84
       clear hsz85
       obtain rfl := hP17_7
       refine WT_one (dd := some 11) 8 (by kernel_rfl) rfl rfl rfl rfl (Y_alloc tb_z79 rfl (fun b17_8 W91 hb92 hE93 hm17_8 => ⟨.inl (hS.trans hE93), ?_⟩))
       have lo_b17_8 : w.heap.size ≤ b17_8 := hb92 ▸ (Below.size hB)
       have los_b17_8 := Nat.le_trans (Ext.size hS) (Nat.le_of_eq hb92.symm)
       have no_x_hP3_1_b17_8 := OwT.neB (b := b17_8) ho_hP3_1 (Nat.le_of_eq hb92.symm)
       have no_v1_b17_8 := OwT.neB (b := b17_8) hoo2 (Nat.le_of_eq hb92.symm)
       clear hb92
       replace hB := below_ext hB hE93 (Nat.le_refl _)
       replace hm0_0 := hE93.at hm0_0
       replace ho_hP3_1 := hE93.ow ho_hP3_1
       replace ho_hP11_12 := hE93.ow ho_hP11_12
       replace hoo2 := hE93.ow hoo2
       replace hS := hS.trans hE93
       clear hE93
       refine WT_one (dd := none) 9 (by kernel_rfl) rfl rfl rfl rfl (Y_storeW rfl rfl tb_ag79 rfl hm17_8 rfl (by rfl) (fun W94 hG95 hm96 => ⟨.inr (by kernel_rfl), ?_⟩))
       replace hB := below_grown hB hG95 (Nat.le_refl _) (fun j hj => by cases hj; exact lo_b17_8)
       replace hm0_0 := At.grownAt hm0_0 hm17_8 hG95 (by decide)
       replace ho_hP3_1 := OwT.grownAtNe ho_hP3_1 no_x_hP3_1_b17_8 hG95
       replace ho_hP11_12 := OwT.grownAt ho_hP11_12 hm17_8 hG95 (by decide)
       replace hoo2 := OwT.grownAtNe hoo2 no_v1_b17_8 hG95
       clear hG95 hm17_8
       have hm17_8 := hm96
       clear hm96
       rw [hpx] at hm17_8
       refine WT_done (by kernel_rfl) ?_
       try clear sv86_hB sv86_hm0_0 sv86_ho_hP3_1 sv86_ho_hP11_12 sv86_hoo2
       refine hK80 _ _ ?_
       clear hK80 K79
       refine WC_seq (fun K97 hK98 => ?_)
       refine WC_region ?_
       refine WL_val (dd := some 12) rfl rfl rfl (r_assign (v := .bool false) rfl) ?_
       refine WL_nil ?_
       refine hK98 _ _ ?_
       clear hK98 K97
       refine WC_seq (fun K99 hK100 => ?_)
       refine WC_seq (fun K101 hK102 => ?_)
       refine WC_region ?_
       refine WL_val (dd := some 13) rfl rfl rfl (r_assign (v := .int .i64 0) rfl) ?_
       refine WL_nil ?_
       refine hK102 _ _ ?_
       clear hK102 K101
       refine WC_block ?_
       refine WC_loop (σ := (Nat)) [12, 13, 74, 75, 76, 77, 78, 79, 80, 81, 82, 83, 84, 85, 86, 87, 88] (fun k => [(13, .int .i64 (k : Int)), (12, .bool (metR (plC S o (plT S o) i) (plX S o i) k))]) (fun k W => (Below w.heap.size w W) ∧ (At W b0_0 _ 64) ∧ (OwT encR 3 79 W w.heap.size x_hP3_1 _) ∧ (OwT encC 2 34 W w.heap.size x_hP11_12 _) ∧ (Apart v1 x_hP3_1) ∧ (OwT encR 3 79 W w.heap.size v1 _) ∧ (At W b17_8 _ 79) ∧ (k ≤ (plC S o (plT S o) i).length) ∧ (True)) (fun k => (plC S o (plT S o) i).length - k) (0) ⟨rfl, congrArg Value.bool (metR_zero _ _), trivial⟩ ⟨hB, hm0_0, ho_hP3_1, ho_hP11_12, hap2, hoo2, hm17_8, (Nat.zero_le _), trivial⟩ ?_
       clear hB hm0_0 ho_hP3_1 ho_hP11_12 hap2 hoo2 hm17_8
       rintro k g104 W103 ⟨hB, hm0_0, ho_hP3_1, ho_hP11_12, hap2, hoo2, hm17_8, hk, _⟩ J105 hJ106
       refine WC_seq (fun K107 hK108 => ?_)
       refine WC_seq (fun K109 hK110 => ?_)
       refine WC_region ?_
       refine WL_val (dd := some 74) rfl rfl rfl (r_move (v := .int .i64 _) rfl) ?_
       refine WL_val (dd := some 75) rfl rfl rfl (r_move (v := v1) rfl) ?_
       refine WL_val (dd := some 76) rfl rfl rfl (r_lenS (v := v1) rfl hoo2.sl tb_el65) ?_
       refine WL_val (dd := some 77) rfl rfl rfl (r_lss rfl rfl) ?_
       refine WL_nil ?_
       refine hK110 _ _ ?_
       clear hK110 K109
       refine WC_cond (b := _) rfl (fun hc5 => ?_) (fun hc5 => ?_)
       ·
        try with_reducible replace hc5 := of_decide_eq_true hc5
        refine WC_skip ?_
        refine hK108 _ _ ?_
        clear hK108 K107
        refine WC_seq (fun K111 hK112 => ?_)
        refine WC_block ?_
        refine WC_draw Ext tb_mix (fun W113 hE114 => ?_)
        replace hB := below_ext hB hE114 (Nat.le_refl _)
        replace hm0_0 := hE114.at hm0_0
        replace ho_hP3_1 := hE114.ow ho_hP3_1
        replace ho_hP11_12 := hE114.ow ho_hP11_12
        replace hoo2 := hE114.ow hoo2
        replace hm17_8 := hE114.at hm17_8
        have hS := Ext.refl W113
        refine WT_take (dd := some 80) 0 rfl (by kernel_rfl) (by kernel_rfl) (by kernel_rfl) rfl rfl rfl (fun _wq _hq => r_move (v := .bool _) rfl) hS ?_
        refine WT_split (dd := some 81) 1 rfl (by kernel_rfl) (by kernel_rfl) (by kernel_rfl) rfl rfl rfl (fun wq hq => r_move (v := .bool _) rfl) hS (fun hs22_1 => ?_) (fun hs22_1 => ?_)
        ·
         try with_reducible replace hs22_1 := of_decide_eq_true hs22_1
         refine WT_pass (dd := some 82) 2 rfl (by kernel_rfl) (by kernel_rfl) (by kernel_rfl) rfl rfl rfl hS ?_
         refine WT_pass (dd := some 83) 3 rfl (by kernel_rfl) (by kernel_rfl) (by kernel_rfl) rfl rfl rfl hS ?_
         refine WT_pass (dd := some 84) 4 rfl (by kernel_rfl) (by kernel_rfl) (by kernel_rfl) rfl rfl rfl hS ?_
         refine WT_pass (dd := some 85) 5 rfl (by kernel_rfl) (by kernel_rfl) (by kernel_rfl) rfl rfl rfl hS ?_
         refine WT_pass (dd := some 86) 6 rfl (by kernel_rfl) (by kernel_rfl) (by kernel_rfl) rfl rfl rfl hS ?_
         refine WT_pass (dd := some 87) 7 rfl (by kernel_rfl) (by kernel_rfl) (by kernel_rfl) rfl rfl rfl hS ?_
         refine WT_take (dd := some 88) 8 rfl (by kernel_rfl) (by kernel_rfl) (by kernel_rfl) rfl rfl rfl (fun _wq _hq => r_pick_t rfl (v := .bool true) rfl) hS ?_
         refine WT_take (dd := some 12) 9 rfl (by kernel_rfl) (by kernel_rfl) (by kernel_rfl) rfl rfl rfl (fun _wq _hq => r_assign (v := .bool true) rfl) hS ?_
         refine WT_done (by kernel_rfl) ?_
         refine hK112 _ _ ?_
         clear hK112 K111
         refine WC_region ?_
         refine WL_val (dd := some 78) rfl rfl rfl (r_move (v := .int .i64 _) rfl) ?_
         refine WL_val (dd := some 79) rfl rfl rfl (r_addI rfl rfl (by omega) (by omega)) ?_
         refine WL_val (dd := some 13) rfl rfl rfl (r_assign (v := .int .i64 _) rfl) ?_
         refine WL_nil ?_
         refine hJ106 _ _ (k + 1) ?_ ?_ ?_ ?_
         · repeat (first | exact agree.mask _ _ _ | refine agree.updo ?_ rfl _ | refine agree.updL ?_ _ rfl | refine agree.maskS rfl ?_)
         · exact ⟨rfl, (by first | exact congrArg Value.bool (metR_t (by omega) hs22_1) | exact congrArg Value.bool (metR_f (by omega) hs22_1)), trivial⟩
         · exact ⟨hB, hm0_0, ho_hP3_1, ho_hP11_12, hap2, hoo2, hm17_8, (by omega), trivial⟩
         · first | omega | (dsimp only; omega)
        ·
         try with_reducible replace hs22_1 := of_decide_eq_false hs22_1
         refine WT_take (dd := some 82) 2 rfl (by kernel_rfl) (by kernel_rfl) (by kernel_rfl) rfl rfl rfl (fun _wq _hq => r_move (v := v1) rfl) hS ?_
         refine WT_take (dd := some 83) 3 rfl (by kernel_rfl) (by kernel_rfl) (by kernel_rfl) rfl rfl rfl (fun _wq _hq => r_move (v := .int .i64 _) rfl) hS ?_
         refine WT_take (dd := some 84) 4 rfl (by kernel_rfl) (by kernel_rfl) (by kernel_rfl) rfl rfl rfl (fun _wq hq => r_idxS (v := v1) rfl ((hq.ow hoo2)).sl rfl tb_el65 (by omega) (by first | omega | (simp only [flagsTo_len, litsTo_len, firstF_len, ptF_len, setF_len]; omega))) hS ?_
         refine WT_take (dd := some 85) 5 rfl (by kernel_rfl) (by kernel_rfl) (by kernel_rfl) rfl rfl rfl (fun _wq hq => r_load3 rfl tb_ag79 (SlT.cell ((hq.ow hoo2)).sl encR_len ⟨⟨0, 0⟩, 0⟩ (by omega) (by first | omega | (simp only [flagsTo_len, litsTo_len, firstF_len, ptF_len, setF_len]; omega)) 0 rfl) (SlT.cell ((hq.ow hoo2)).sl encR_len ⟨⟨0, 0⟩, 0⟩ (by omega) (by first | omega | (simp only [flagsTo_len, litsTo_len, firstF_len, ptF_len, setF_len]; omega)) 1 rfl) (SlT.cell ((hq.ow hoo2)).sl encR_len ⟨⟨0, 0⟩, 0⟩ (by omega) (by first | omega | (simp only [flagsTo_len, litsTo_len, firstF_len, ptF_len, setF_len]; omega)) 2 rfl)) hS ?_
         refine WT_take (dd := some 86) 6 rfl (by kernel_rfl) (by kernel_rfl) (by kernel_rfl) rfl rfl rfl (fun _wq hq => r_loadW rfl tb_ag79 rfl (hq.at hm17_8)) hS ?_
         refine WT_take (dd := some 87) 7 rfl (by kernel_rfl) (by kernel_rfl) (by kernel_rfl) rfl rfl rfl (fun _wq _hq => tb_eq79 rfl rfl) hS ?_
         refine WT_take (dd := some 88) 8 rfl (by kernel_rfl) (by kernel_rfl) (by kernel_rfl) rfl rfl rfl (fun _wq _hq => r_pick_f rfl (v := .bool _) rfl) hS ?_
         refine WT_take (dd := some 12) 9 rfl (by kernel_rfl) (by kernel_rfl) (by kernel_rfl) rfl rfl rfl (fun _wq _hq => r_assign (v := .bool _) rfl) hS ?_
         refine WT_done (by kernel_rfl) ?_
         refine hK112 _ _ ?_
         clear hK112 K111
         refine WC_region ?_
         refine WL_val (dd := some 78) rfl rfl rfl (r_move (v := .int .i64 _) rfl) ?_
         refine WL_val (dd := some 79) rfl rfl rfl (r_addI rfl rfl (by omega) (by omega)) ?_
         refine WL_val (dd := some 13) rfl rfl rfl (r_assign (v := .int .i64 _) rfl) ?_
         refine WL_nil ?_
         refine hJ106 _ _ (k + 1) ?_ ?_ ?_ ?_
         · repeat (first | exact agree.mask _ _ _ | refine agree.updo ?_ rfl _ | refine agree.updL ?_ _ rfl | refine agree.maskS rfl ?_)
         · exact ⟨rfl, (by first | exact congrArg Value.bool (metR_t (by omega) hs22_1) | exact congrArg Value.bool (metR_f (by omega) hs22_1)), trivial⟩
         · exact ⟨hB, hm0_0, ho_hP3_1, ho_hP11_12, hap2, hoo2, hm17_8, (by omega), trivial⟩
         · first | omega | (dsimp only; omega)
       ·
        try with_reducible replace hc5 := of_decide_eq_false hc5
        refine WC_exit ?_
        refine hK100 _ _ ?_
        clear hK108 K107
        clear hJ106 J105
        clear hK100 K99
        refine WC_seq (fun K115 hK116 => ?_)
        refine WC_region ?_
        refine WL_val (dd := some 89) rfl rfl rfl (r_move (v := .bool _) rfl) ?_
        refine WL_val (dd := some 90) rfl rfl rfl (r_not rfl) ?_
        refine WL_nil ?_
        refine hK116 _ _ ?_
        clear hK116 K115
        refine WC_cond (b := _) rfl (fun hc6 => ?_) (fun hc6 => ?_)
        ·
         try with_reducible replace hc6 := of_decide_eq_true hc6
         refine WC_region ?_
         refine WL_val (dd := some 91) rfl rfl rfl (r_move (v := v1) rfl) ?_
         refine WL_val (dd := some 92) rfl rfl rfl (r_loadW rfl tb_ag79 rfl hm17_8) ?_
         refine WL_step (dd := some 93) rfl rfl rfl (Y_lit1 (u := .agg #[_, _, _]) rfl tb_el65 tb_zs79 rfl (by decide) (by decide) (fun b24_2 W117 hb118 hE119 hm24_2 => ?_))
         have lo_b24_2 : w.heap.size ≤ b24_2 := hb118 ▸ (Below.size hB)
         have no_x_hP3_1_b24_2 := OwT.neB (b := b24_2) ho_hP3_1 (Nat.le_of_eq hb118.symm)
         have no_v1_b24_2 := OwT.neB (b := b24_2) hoo2 (Nat.le_of_eq hb118.symm)
         have ne_b17_8_b24_2 : b17_8 ≠ b24_2 := Nat.ne_of_lt (hb118 ▸ hm17_8.lt)
         clear hb118
         replace hB := below_ext hB hE119 (Nat.le_refl _)
         replace hm0_0 := hE119.at hm0_0
         replace ho_hP3_1 := hE119.ow ho_hP3_1
         replace ho_hP11_12 := hE119.ow ho_hP11_12
         replace hoo2 := hE119.ow hoo2
         replace hm17_8 := hE119.at hm17_8
         clear hE119
         refine WL_step (dd := some 94) rfl rfl rfl (Y_appendA (v := v1) (v2 := .slice (some ⟨b24_2, 0, none⟩) 1 1) rfl rfl tb_el65 tb_zs79 (by decide) hoo2 (sl_lit1 hm24_2 rfl) rfl (by have := Below.size hB; omega) (by first | omega | (simp; omega) | (simp only [flagsTo_len, litsTo_len, firstF_len, ptF_len, setF_len]; omega)) (by first | omega | (simp; omega) | (simp only [flagsTo_len, litsTo_len, firstF_len, ptF_len, setF_len]; omega)) (fun v24_3 W120 hG121 ho24_3 hob122 => ?_))
         have hap123 := Apart.app hap2 hob122 ho_hP3_1
         replace ho24_3 := OwT.snoc (enc := encR) (x := (plX S o i)) rfl rfl rfl rfl ho24_3
         clear hm24_2
         replace hB := below_grown hB hG121 (Nat.le_refl _) (fun j hj => (OwT.lt hoo2 j hj))
         replace hm0_0 := At.grownOw hm0_0 hoo2 hG121 (by decide)
         replace ho_hP3_1 := OwT.grownAp ho_hP3_1 hap2 hG121
         replace ho_hP11_12 := OwT.grownOw ho_hP11_12 hoo2 hG121 (by decide)
         replace hm17_8 := At.grownOwNe hm17_8 no_v1_b17_8 hG121
         clear hG121
         clear hoo2
         refine WL_val (dd := some 5) rfl rfl rfl (r_assign (v := v24_3) rfl) ?_
         refine WL_nil ?_
         refine hK78 _ _ ?_
         clear hK78 K77
         refine WC_region ?_
         refine WL_val (dd := some 64) rfl rfl rfl (r_move (v := .int .i64 _) rfl) ?_
         refine WL_val (dd := some 65) rfl rfl rfl (r_addI rfl rfl (by omega) (by omega)) ?_
         refine WL_val (dd := some 10) rfl rfl rfl (r_assign (v := .int .i64 _) rfl) ?_
         refine WL_nil ?_
         refine hJ72 _ _ ((i + 1, v24_3)) ?_ ?_ ?_ ?_
         · repeat (first | exact agree.mask _ _ _ | refine agree.updo ?_ rfl _ | refine agree.updL ?_ _ rfl | refine agree.maskS rfl ?_)
         · exact ⟨rfl, rfl, trivial⟩
         · exact ⟨hB, hm0_0, ho_hP3_1, ho_hP11_12, hap123, (by first | (rw [← plC_new (not_metR (by omega) hc6)]; exact ho24_3) | (rw [← plC_old (is_metR (by omega) hc6)]; exact ho24_3)), (by omega), trivial⟩
         · show (gro S o).length - (i + 1) < (gro S o).length - i; omega
        ·
         try with_reducible replace hc6 := of_decide_eq_false hc6
         refine WC_skip ?_
         refine hK78 _ _ ?_
         clear hK78 K77
         refine WC_region ?_
         refine WL_val (dd := some 64) rfl rfl rfl (r_move (v := .int .i64 _) rfl) ?_
         refine WL_val (dd := some 65) rfl rfl rfl (r_addI rfl rfl (by omega) (by omega)) ?_
         refine WL_val (dd := some 10) rfl rfl rfl (r_assign (v := .int .i64 _) rfl) ?_
         refine WL_nil ?_
         refine hJ72 _ _ ((i + 1, v1)) ?_ ?_ ?_ ?_
         · repeat (first | exact agree.mask _ _ _ | refine agree.updo ?_ rfl _ | refine agree.updL ?_ _ rfl | refine agree.maskS rfl ?_)
         · exact ⟨rfl, rfl, trivial⟩
         · exact ⟨hB, hm0_0, ho_hP3_1, ho_hP11_12, hap2, (by first | (rw [← plC_new (not_metR (by omega) hc6)]; exact hoo2) | (rw [← plC_old (is_metR (by omega) hc6)]; exact hoo2)), (by omega), trivial⟩
         · show (gro S o).length - (i + 1) < (gro S o).length - i; omega
      ·
       have lo_b17_8 : w.heap.size ≤ b17_8 := hb88 ▸ (Below.size hB)
       have los_b17_8 := Nat.le_trans (Ext.size hS) (Nat.le_of_eq hb88.symm)
       have no_x_hP3_1_b17_8 := OwT.neB (b := b17_8) ho_hP3_1 (Nat.le_of_eq hb88.symm)
       have no_v1_b17_8 := OwT.neB (b := b17_8) hoo2 (Nat.le_of_eq hb88.symm)
       clear hb88
       have sv90_hB := hB
       have sv90_hm0_0 := hm0_0
       have sv90_ho_hP3_1 := ho_hP3_1
       have sv90_ho_hP11_12 := ho_hP11_12
       have sv90_hoo2 := hoo2
       replace hB := below_ext hB hE89 (Nat.le_refl _)
       replace hm0_0 := hE89.at hm0_0
       replace ho_hP3_1 := hE89.ow ho_hP3_1
       replace ho_hP11_12 := hE89.ow ho_hP11_12
       replace hoo2 := hE89.ow hoo2
       replace hS := hS.trans hE89
       clear hE89
       refine WT_one (dd := some 73) 7 (by kernel_rfl) rfl rfl rfl rfl (Yd.call (r_call2 tb_c70 (v0 := .agg #[_, _, _]) rfl (v1 := .agg #[_, _, _]) rfl) (C_drawkniferef10_Grow S _ _ ⟨((gro S o).getD i ⟨0, 0⟩), 2 ^ o % 256⟩ _ (Below.slT hB hon) (Below.slT hB hmay) hin3 ⟨hgg.1, hgg.2, (by show 2 ^ o % 256 < 256; omega)⟩) (fun v17_7 W124 hE125 hP17_7 => ⟨.inl (hS.trans hE125), ?_⟩))
       have hsz126 := (Below.size hB)
       replace hB := below_ext hB hE125 (Nat.le_refl _)
       replace hm0_0 := hE125.at hm0_0
       replace ho_hP3_1 := hE125.ow ho_hP3_1
       replace ho_hP11_12 := hE125.ow ho_hP11_12
       replace hoo2 := hE125.ow hoo2
       replace hm17_8 := hE125.at hm17_8
       replace hS := hS.trans hE125
       clear hE125
       clear hsz126
       obtain rfl := hP17_7
       refine WT_one (dd := none) 9 (by kernel_rfl) rfl rfl rfl rfl (Y_storeW rfl rfl tb_ag79 rfl hm17_8 rfl (by rfl) (fun W127 hG128 hm129 => ⟨.inr (by kernel_rfl), ?_⟩))
       replace hB := below_grown hB hG128 (Nat.le_refl _) (fun j hj => by cases hj; exact lo_b17_8)
       replace hm0_0 := At.grownAt hm0_0 hm17_8 hG128 (by decide)
       replace ho_hP3_1 := OwT.grownAtNe ho_hP3_1 no_x_hP3_1_b17_8 hG128
       replace ho_hP11_12 := OwT.grownAt ho_hP11_12 hm17_8 hG128 (by decide)
       replace hoo2 := OwT.grownAtNe hoo2 no_v1_b17_8 hG128
       clear hG128 hm17_8
       have hm17_8 := hm129
       clear hm129
       rw [hpx] at hm17_8
       refine WT_done (by kernel_rfl) ?_
       try clear sv90_hB sv90_hm0_0 sv90_ho_hP3_1 sv90_ho_hP11_12 sv90_hoo2
       refine hK80 _ _ ?_
       clear hK80 K79
       refine WC_seq (fun K130 hK131 => ?_)
       refine WC_region ?_
       refine WL_val (dd := some 12) rfl rfl rfl (r_assign (v := .bool false) rfl) ?_
       refine WL_nil ?_
       refine hK131 _ _ ?_
       clear hK131 K130
       refine WC_seq (fun K132 hK133 => ?_)
       refine WC_seq (fun K134 hK135 => ?_)
       refine WC_region ?_
       refine WL_val (dd := some 13) rfl rfl rfl (r_assign (v := .int .i64 0) rfl) ?_
       refine WL_nil ?_
       refine hK135 _ _ ?_
       clear hK135 K134
       refine WC_block ?_
       refine WC_loop (σ := (Nat)) [12, 13, 74, 75, 76, 77, 78, 79, 80, 81, 82, 83, 84, 85, 86, 87, 88] (fun k => [(13, .int .i64 (k : Int)), (12, .bool (metR (plC S o (plT S o) i) (plX S o i) k))]) (fun k W => (Below w.heap.size w W) ∧ (At W b0_0 _ 64) ∧ (OwT encR 3 79 W w.heap.size x_hP3_1 _) ∧ (OwT encC 2 34 W w.heap.size x_hP11_12 _) ∧ (Apart v1 x_hP3_1) ∧ (OwT encR 3 79 W w.heap.size v1 _) ∧ (At W b17_8 _ 79) ∧ (k ≤ (plC S o (plT S o) i).length) ∧ (True)) (fun k => (plC S o (plT S o) i).length - k) (0) ⟨rfl, congrArg Value.bool (metR_zero _ _), trivial⟩ ⟨hB, hm0_0, ho_hP3_1, ho_hP11_12, hap2, hoo2, hm17_8, (Nat.zero_le _), trivial⟩ ?_
       clear hB hm0_0 ho_hP3_1 ho_hP11_12 hap2 hoo2 hm17_8
       rintro k g137 W136 ⟨hB, hm0_0, ho_hP3_1, ho_hP11_12, hap2, hoo2, hm17_8, hk, _⟩ J138 hJ139
       refine WC_seq (fun K140 hK141 => ?_)
       refine WC_seq (fun K142 hK143 => ?_)
       refine WC_region ?_
       refine WL_val (dd := some 74) rfl rfl rfl (r_move (v := .int .i64 _) rfl) ?_
       refine WL_val (dd := some 75) rfl rfl rfl (r_move (v := v1) rfl) ?_
       refine WL_val (dd := some 76) rfl rfl rfl (r_lenS (v := v1) rfl hoo2.sl tb_el65) ?_
       refine WL_val (dd := some 77) rfl rfl rfl (r_lss rfl rfl) ?_
       refine WL_nil ?_
       refine hK143 _ _ ?_
       clear hK143 K142
       refine WC_cond (b := _) rfl (fun hc5 => ?_) (fun hc5 => ?_)
       ·
        try with_reducible replace hc5 := of_decide_eq_true hc5
        refine WC_skip ?_
        refine hK141 _ _ ?_
        clear hK141 K140
        refine WC_seq (fun K144 hK145 => ?_)
        refine WC_block ?_
        refine WC_draw Ext tb_mix (fun W146 hE147 => ?_)
        replace hB := below_ext hB hE147 (Nat.le_refl _)
        replace hm0_0 := hE147.at hm0_0
        replace ho_hP3_1 := hE147.ow ho_hP3_1
        replace ho_hP11_12 := hE147.ow ho_hP11_12
        replace hoo2 := hE147.ow hoo2
        replace hm17_8 := hE147.at hm17_8
        have hS := Ext.refl W146
        refine WT_take (dd := some 80) 0 rfl (by kernel_rfl) (by kernel_rfl) (by kernel_rfl) rfl rfl rfl (fun _wq _hq => r_move (v := .bool _) rfl) hS ?_
        refine WT_split (dd := some 81) 1 rfl (by kernel_rfl) (by kernel_rfl) (by kernel_rfl) rfl rfl rfl (fun wq hq => r_move (v := .bool _) rfl) hS (fun hs22_1 => ?_) (fun hs22_1 => ?_)
        ·
         try with_reducible replace hs22_1 := of_decide_eq_true hs22_1
         refine WT_pass (dd := some 82) 2 rfl (by kernel_rfl) (by kernel_rfl) (by kernel_rfl) rfl rfl rfl hS ?_
         refine WT_pass (dd := some 83) 3 rfl (by kernel_rfl) (by kernel_rfl) (by kernel_rfl) rfl rfl rfl hS ?_
         refine WT_pass (dd := some 84) 4 rfl (by kernel_rfl) (by kernel_rfl) (by kernel_rfl) rfl rfl rfl hS ?_
         refine WT_pass (dd := some 85) 5 rfl (by kernel_rfl) (by kernel_rfl) (by kernel_rfl) rfl rfl rfl hS ?_
         refine WT_pass (dd := some 86) 6 rfl (by kernel_rfl) (by kernel_rfl) (by kernel_rfl) rfl rfl rfl hS ?_
         refine WT_pass (dd := some 87) 7 rfl (by kernel_rfl) (by kernel_rfl) (by kernel_rfl) rfl rfl rfl hS ?_
         refine WT_take (dd := some 88) 8 rfl (by kernel_rfl) (by kernel_rfl) (by kernel_rfl) rfl rfl rfl (fun _wq _hq => r_pick_t rfl (v := .bool true) rfl) hS ?_
         refine WT_take (dd := some 12) 9 rfl (by kernel_rfl) (by kernel_rfl) (by kernel_rfl) rfl rfl rfl (fun _wq _hq => r_assign (v := .bool true) rfl) hS ?_
         refine WT_done (by kernel_rfl) ?_
         refine hK145 _ _ ?_
         clear hK145 K144
         refine WC_region ?_
         refine WL_val (dd := some 78) rfl rfl rfl (r_move (v := .int .i64 _) rfl) ?_
         refine WL_val (dd := some 79) rfl rfl rfl (r_addI rfl rfl (by omega) (by omega)) ?_
         refine WL_val (dd := some 13) rfl rfl rfl (r_assign (v := .int .i64 _) rfl) ?_
         refine WL_nil ?_
         refine hJ139 _ _ (k + 1) ?_ ?_ ?_ ?_
         · repeat (first | exact agree.mask _ _ _ | refine agree.updo ?_ rfl _ | refine agree.updL ?_ _ rfl | refine agree.maskS rfl ?_)
         · exact ⟨rfl, (by first | exact congrArg Value.bool (metR_t (by omega) hs22_1) | exact congrArg Value.bool (metR_f (by omega) hs22_1)), trivial⟩
         · exact ⟨hB, hm0_0, ho_hP3_1, ho_hP11_12, hap2, hoo2, hm17_8, (by omega), trivial⟩
         · first | omega | (dsimp only; omega)
        ·
         try with_reducible replace hs22_1 := of_decide_eq_false hs22_1
         refine WT_take (dd := some 82) 2 rfl (by kernel_rfl) (by kernel_rfl) (by kernel_rfl) rfl rfl rfl (fun _wq _hq => r_move (v := v1) rfl) hS ?_
         refine WT_take (dd := some 83) 3 rfl (by kernel_rfl) (by kernel_rfl) (by kernel_rfl) rfl rfl rfl (fun _wq _hq => r_move (v := .int .i64 _) rfl) hS ?_
         refine WT_take (dd := some 84) 4 rfl (by kernel_rfl) (by kernel_rfl) (by kernel_rfl) rfl rfl rfl (fun _wq hq => r_idxS (v := v1) rfl ((hq.ow hoo2)).sl rfl tb_el65 (by omega) (by first | omega | (simp only [flagsTo_len, litsTo_len, firstF_len, ptF_len, setF_len]; omega))) hS ?_
         refine WT_take (dd := some 85) 5 rfl (by kernel_rfl) (by kernel_rfl) (by kernel_rfl) rfl rfl rfl (fun _wq hq => r_load3 rfl tb_ag79 (SlT.cell ((hq.ow hoo2)).sl encR_len ⟨⟨0, 0⟩, 0⟩ (by omega) (by first | omega | (simp only [flagsTo_len, litsTo_len, firstF_len, ptF_len, setF_len]; omega)) 0 rfl) (SlT.cell ((hq.ow hoo2)).sl encR_len ⟨⟨0, 0⟩, 0⟩ (by omega) (by first | omega | (simp only [flagsTo_len, litsTo_len, firstF_len, ptF_len, setF_len]; omega)) 1 rfl) (SlT.cell ((hq.ow hoo2)).sl encR_len ⟨⟨0, 0⟩, 0⟩ (by omega) (by first | omega | (simp only [flagsTo_len, litsTo_len, firstF_len, ptF_len, setF_len]; omega)) 2 rfl)) hS ?_
         refine WT_take (dd := some 86) 6 rfl (by kernel_rfl) (by kernel_rfl) (by kernel_rfl) rfl rfl rfl (fun _wq hq => r_loadW rfl tb_ag79 rfl (hq.at hm17_8)) hS ?_
         refine WT_take (dd := some 87) 7 rfl (by kernel_rfl) (by kernel_rfl) (by kernel_rfl) rfl rfl rfl (fun _wq _hq => tb_eq79 rfl rfl) hS ?_
         refine WT_take (dd := some 88) 8 rfl (by kernel_rfl) (by kernel_rfl) (by kernel_rfl) rfl rfl rfl (fun _wq _hq => r_pick_f rfl (v := .bool _) rfl) hS ?_
         refine WT_take (dd := some 12) 9 rfl (by kernel_rfl) (by kernel_rfl) (by kernel_rfl) rfl rfl rfl (fun _wq _hq => r_assign (v := .bool _) rfl) hS ?_
         refine WT_done (by kernel_rfl) ?_
         refine hK145 _ _ ?_
         clear hK145 K144
         refine WC_region ?_
         refine WL_val (dd := some 78) rfl rfl rfl (r_move (v := .int .i64 _) rfl) ?_
         refine WL_val (dd := some 79) rfl rfl rfl (r_addI rfl rfl (by omega) (by omega)) ?_
         refine WL_val (dd := some 13) rfl rfl rfl (r_assign (v := .int .i64 _) rfl) ?_
         refine WL_nil ?_
         refine hJ139 _ _ (k + 1) ?_ ?_ ?_ ?_
         · repeat (first | exact agree.mask _ _ _ | refine agree.updo ?_ rfl _ | refine agree.updL ?_ _ rfl | refine agree.maskS rfl ?_)
         · exact ⟨rfl, (by first | exact congrArg Value.bool (metR_t (by omega) hs22_1) | exact congrArg Value.bool (metR_f (by omega) hs22_1)), trivial⟩
         · exact ⟨hB, hm0_0, ho_hP3_1, ho_hP11_12, hap2, hoo2, hm17_8, (by omega), trivial⟩
         · first | omega | (dsimp only; omega)
       ·
        try with_reducible replace hc5 := of_decide_eq_false hc5
        refine WC_exit ?_
        refine hK133 _ _ ?_
        clear hK141 K140
        clear hJ139 J138
        clear hK133 K132
        refine WC_seq (fun K148 hK149 => ?_)
        refine WC_region ?_
        refine WL_val (dd := some 89) rfl rfl rfl (r_move (v := .bool _) rfl) ?_
        refine WL_val (dd := some 90) rfl rfl rfl (r_not rfl) ?_
        refine WL_nil ?_
        refine hK149 _ _ ?_
        clear hK149 K148
        refine WC_cond (b := _) rfl (fun hc6 => ?_) (fun hc6 => ?_)
        ·
         try with_reducible replace hc6 := of_decide_eq_true hc6
         refine WC_region ?_
         refine WL_val (dd := some 91) rfl rfl rfl (r_move (v := v1) rfl) ?_
         refine WL_val (dd := some 92) rfl rfl rfl (r_loadW rfl tb_ag79 rfl hm17_8) ?_
         refine WL_step (dd := some 93) rfl rfl rfl (Y_lit1 (u := .agg #[_, _, _]) rfl tb_el65 tb_zs79 rfl (by decide) (by decide) (fun b24_2 W150 hb151 hE152 hm24_2 => ?_))
         have lo_b24_2 : w.heap.size ≤ b24_2 := hb151 ▸ (Below.size hB)
         have no_x_hP3_1_b24_2 := OwT.neB (b := b24_2) ho_hP3_1 (Nat.le_of_eq hb151.symm)
         have no_v1_b24_2 := OwT.neB (b := b24_2) hoo2 (Nat.le_of_eq hb151.symm)
         have ne_b17_8_b24_2 : b17_8 ≠ b24_2 := Nat.ne_of_lt (hb151 ▸ hm17_8.lt)
         clear hb151
         replace hB := below_ext hB hE152 (Nat.le_refl _)
         replace hm0_0 := hE152.at hm0_0
         replace ho_hP3_1 := hE152.ow ho_hP3_1
         replace ho_hP11_12 := hE152.ow ho_hP11_12
         replace hoo2 := hE152.ow hoo2
         replace hm17_8 := hE152.at hm17_8
         clear hE152
         refine WL_step (dd := some 94) rfl rfl rfl (Y_appendA (v := v1) (v2 := .slice (some ⟨b24_2, 0, none⟩) 1 1) rfl rfl tb_el65 tb_zs79 (by decide) hoo2 (sl_lit1 hm24_2 rfl) rfl (by have := Below.size hB; omega) (by first | omega | (simp; omega) | (simp only [flagsTo_len, litsTo_len, firstF_len, ptF_len, setF_len]; omega)) (by first | omega | (simp; omega) | (simp only [flagsTo_len, litsTo_len, firstF_len, ptF_len, setF_len]; omega)) (fun v24_3 W153 hG154 ho24_3 hob155 => ?_))
         have hap156 := Apart.app hap2 hob155 ho_hP3_1
         replace ho24_3 := OwT.snoc (enc := encR) (x := (plX S o i)) rfl rfl rfl rfl ho24_3
         clear hm24_2
         replace hB := below_grown hB hG154 (Nat.le_refl _) (fun j hj => (OwT.lt hoo2 j hj))
         replace hm0_0 := At.grownOw hm0_0 hoo2 hG154 (by decide)
         replace ho_hP3_1 := OwT.grownAp ho_hP3_1 hap2 hG154
         replace ho_hP11_12 := OwT.grownOw ho_hP11_12 hoo2 hG154 (by decide)
         replace hm17_8 := At.grownOwNe hm17_8 no_v1_b17_8 hG154
         clear hG154
         clear hoo2
         refine WL_val (dd := some 5) rfl rfl rfl (r_assign (v := v24_3) rfl) ?_
         refine WL_nil ?_
         refine hK78 _ _ ?_
         clear hK78 K77
         refine WC_region ?_
         refine WL_val (dd := some 64) rfl rfl rfl (r_move (v := .int .i64 _) rfl) ?_
         refine WL_val (dd := some 65) rfl rfl rfl (r_addI rfl rfl (by omega) (by omega)) ?_
         refine WL_val (dd := some 10) rfl rfl rfl (r_assign (v := .int .i64 _) rfl) ?_
         refine WL_nil ?_
         refine hJ72 _ _ ((i + 1, v24_3)) ?_ ?_ ?_ ?_
         · repeat (first | exact agree.mask _ _ _ | refine agree.updo ?_ rfl _ | refine agree.updL ?_ _ rfl | refine agree.maskS rfl ?_)
         · exact ⟨rfl, rfl, trivial⟩
         · exact ⟨hB, hm0_0, ho_hP3_1, ho_hP11_12, hap156, (by first | (rw [← plC_new (not_metR (by omega) hc6)]; exact ho24_3) | (rw [← plC_old (is_metR (by omega) hc6)]; exact ho24_3)), (by omega), trivial⟩
         · show (gro S o).length - (i + 1) < (gro S o).length - i; omega
        ·
         try with_reducible replace hc6 := of_decide_eq_false hc6
         refine WC_skip ?_
         refine hK78 _ _ ?_
         clear hK78 K77
         refine WC_region ?_
         refine WL_val (dd := some 64) rfl rfl rfl (r_move (v := .int .i64 _) rfl) ?_
         refine WL_val (dd := some 65) rfl rfl rfl (r_addI rfl rfl (by omega) (by omega)) ?_
         refine WL_val (dd := some 10) rfl rfl rfl (r_assign (v := .int .i64 _) rfl) ?_
         refine WL_nil ?_
         refine hJ72 _ _ ((i + 1, v1)) ?_ ?_ ?_ ?_
         · repeat (first | exact agree.mask _ _ _ | refine agree.updo ?_ rfl _ | refine agree.updL ?_ _ rfl | refine agree.maskS rfl ?_)
         · exact ⟨rfl, rfl, trivial⟩
         · exact ⟨hB, hm0_0, ho_hP3_1, ho_hP11_12, hap2, (by first | (rw [← plC_new (not_metR (by omega) hc6)]; exact hoo2) | (rw [← plC_old (is_metR (by omega) hc6)]; exact hoo2)), (by omega), trivial⟩
         · show (gro S o).length - (i + 1) < (gro S o).length - i; omega
     ·
      try with_reducible replace hc4 := of_decide_eq_false hc4
      refine WC_exit ?_
      refine hK66 _ _ ?_
      clear hK74 K73
      clear hJ72 J71
      clear hK66 K65
      refine WC_region ?_
      refine WL_val (dd := some 95) rfl rfl rfl (r_move (v := .int .u8 _) rfl) ?_
      refine WL_val (dd := some 96) rfl rfl rfl (r_mulW8 (n := 2) rfl rfl rfl) ?_
      refine WL_val (dd := some 6) rfl rfl rfl (r_assign (v := .int .u8 _) rfl) ?_
      refine WL_nil ?_
      refine hK52 _ _ ?_
      clear hK52 K51
      refine WC_region ?_
      refine WL_val (dd := some 40) rfl rfl rfl (r_move (v := .int .i64 _) rfl) ?_
      refine WL_val (dd := some 41) rfl rfl rfl (r_addI rfl rfl (by omega) (by omega)) ?_
      refine WL_val (dd := some 7) rfl rfl rfl (r_assign (v := .int .i64 _) rfl) ?_
      refine WL_nil ?_
      refine hJ46 _ _ ((o + 1, v1)) ?_ ?_ ?_ ?_
      · repeat (first | exact agree.mask _ _ _ | refine agree.updo ?_ rfl _ | refine agree.updL ?_ _ rfl | refine agree.maskS rfl ?_)
      · exact ⟨rfl, rfl, congrArg (fun q : Nat => Value.int .u8 (q : Int)) (two8_mod _), trivial⟩
      · exact ⟨hB, hm0_0, ho_hP3_1, hap2, (by rw [plT]; have e : i = (gro S o).length := (by omega); subst e; exact hoo2), (by omega), trivial⟩
      · show S.on.length - (o + 1) < S.on.length - o; omega
   ·
    try with_reducible replace hc2 := of_decide_eq_false hc2
    refine WC_exit ?_
    refine hK40 _ _ ?_
    clear hK48 K47
    clear hJ46 J45
    clear hK40 K39
    refine WC_seq (fun K157 hK158 => ?_)
    refine WC_region ?_
    refine WL_val (dd := some 97) rfl rfl rfl (r_move (v := x_hP3_1) rfl) ?_
    refine WL_val (dd := some 98) rfl rfl rfl (r_move (v := v0) rfl) ?_
    refine WL_call (dd := some 99) rfl rfl rfl (r_call2 tb_c60 (v0 := x_hP3_1) rfl (v1 := v0) rfl) (C_drawkniferef10_Same _ _ _ _ _ ho_hP3_1.sl ho.sl (by omega)) (fun v26_2 W159 hE160 hP26_2 => ?_)
    have hsz161 := (Below.size hB)
    replace hB := below_ext hB hE160 (Nat.le_refl _)
    replace hm0_0 := hE160.at hm0_0
    replace ho_hP3_1 := hE160.ow ho_hP3_1
    replace ho := hE160.ow ho
    clear hE160
    clear hsz161
    obtain rfl := hP26_2
    refine WL_split (dd := some 100) rfl rfl rfl (r_move (v := .bool _) rfl) (fun hs26_3 => ?_) (fun hs26_3 => ?_)
    ·
     try with_reducible replace hs26_3 := of_decide_eq_true hs26_3
     refine WL_val (dd := some 101) rfl rfl rfl (r_move (v := .int .i64 _) rfl) ?_
     refine WL_val (dd := some 102) rfl rfl rfl (r_eql rfl rfl) ?_
     refine WL_val (dd := some 103) rfl rfl rfl (r_pick_t rfl (v := .bool _) rfl) ?_
     refine WL_split (dd := some 104) rfl rfl rfl (r_move (v := .bool _) rfl) (fun hs26_7 => ?_) (fun hs26_7 => ?_)
     ·
      try with_reducible replace hs26_7 := of_decide_eq_true hs26_7
      refine WL_call (dd := some 105) rfl rfl rfl (r_call0 tb_c72) (C_drawknifelaw16_knows _) (fun v26_8 W162 hE163 hP26_8 => ?_)
      have hsz164 := (Below.size hB)
      replace hB := below_ext hB hE163 (Nat.le_refl _)
      replace hm0_0 := hE163.at hm0_0
      replace ho_hP3_1 := hE163.ow ho_hP3_1
      replace ho := hE163.ow ho
      clear hE163
      clear hsz164
      obtain rfl := hP26_8
      refine WL_val (dd := some 106) rfl rfl rfl (r_pick_t rfl (v := .bool _) rfl) ?_
      refine WL_val (dd := some 2) rfl rfl rfl (r_assign (v := .bool _) rfl) ?_
      refine WL_nil ?_
      refine hK158 _ _ ?_
      clear hK158 K157
      refine WC_ret ?_
      repeat (first | refine thenQ_ret ?_ | refine blockQ_ret ?_)
      refine ret_t (v := .bool _) rfl ?_
      refine ⟨hB, ?_⟩
      rfl
     ·
      try with_reducible replace hs26_7 := of_decide_eq_false hs26_7
      exact absurd rfl hs26_7
    ·
     try with_reducible replace hs26_3 := of_decide_eq_false hs26_3
     obtain rfl : o = S.on.length := by omega
     first | exact absurd rfl hs26_3 | exact absurd rfl (of_decide_eq_false hs26_3)

end Go.Proofs.Ytdbcijijhhbkaaa
