/-
  The walks of the statements about covers without a search.
-/
import Derived.Test.YtdbcijijhhbkaaaProg
import Derived.Test.YtdbcijijhhbkaaaWRef12
import Derived.Test.YtdbcijijhhbkaaaLaw12
namespace Go.Proofs.Ytdbcijijhhbkaaa
set_option linter.unusedVariables false
set_option linter.unusedSimpArgs false
open Go Go.RowKit

theorem tb_build24_0 {f : Nat → Value} {w : World} {d : Option Nat} {ty : TypeId} {ps : String} {af : Array Edge} {g : Option (Nat × Bool)} {x0 : Operand} {c0_0 : Value} (h0 : evF f x0 = c0_0) (k0 : c0_0.cells = #[c0_0]) :
    (execOp (evF f) ⟨d, .build 24 #[(0, x0)], ty, ps, af, g⟩).run Try.prog w = .ok (.value (.agg #[c0_0, .int .u64 0, .int .u64 0, .int .u64 0])) w := by
  obtain ⟨i0, hi0, hz0⟩ := Option.bind_eq_some_iff.1 (show (Try.prog.info? 24).bind (·.zero) = _ from tb_z24)
  obtain ⟨j22, hj22, hs22⟩ := Option.map_eq_some_iff.1 tb_size22
  simp [execOp, h0, k0, Instr.build, zeroValue, typeInfo, sizeOf, hi0, hz0, run_underlying Try.underlying24, Instr.fill, cells_agg, hj22, hs22]
theorem tb_c43 : callB Try.prog 43 = true := by kernel_rfl
theorem tb_c23 : callB Try.prog 23 = true := by kernel_rfl
theorem tb_c34 : callB Try.prog 34 = true := by kernel_rfl
theorem tb_c38 : callB Try.prog 38 = true := by kernel_rfl
theorem tb_c26 : callB Try.prog 26 = true := by kernel_rfl
theorem tb_c41 : callB Try.prog 41 = true := by kernel_rfl
theorem tb_c44 : callB Try.prog 44 = true := by kernel_rfl

theorem C_coverR (n : Nat) : ∀ (f : Nat), ∀ (xa xb : Value) (on may i : Nat) (w : World), SlT encB 1 w xa (flagsS on) → SlT encB 1 w xb (flagsS may) → n ≤ 8 → Good n on may i → n + 1 - i ≤ f → f ≤ 9 → Fn Try.prog 40 #[xa, xb, .int .i64 (n : Int), .int .i64 (i : Int)] w fun v w' => OwT encC 2 34 w' w.heap.size v (coverL n f on may i)
  | 0, _, _, on, may, i, w, _, _, _, hg, hf, _ => by have := hg.le; omega
  | f + 1, xa, xb, on, may, i, w, ha, hb, h8, hg, hf, hf9 => CS_coverR n f xa xb on may i w (C_coverR n f) ha hb h8 hg hf hf9

theorem C_drawknifelaw12_knows  (w : World) :
    Fn Try.prog 34 #[] w fun v w' => v = .bool true := by
  refine Fn_intro (n := 39) Try.func34 rfl rfl (Nat.le_of_ble_eq_true rfl) ?_
  have hB : Below w.heap.size w w := Below.refl _ _
  refine WC_seq (fun K1 hK2 => ?_)
  refine WC_region ?_
  refine WL_val (dd := some 0) rfl rfl rfl (r_assign (v := .bool false) rfl) ?_
  refine WL_nil ?_
  refine hK2 _ _ ?_
  clear hK2 K1
  refine WC_seq (fun K3 hK4 => ?_)
  refine WC_region ?_
  refine WL_val (dd := some 6) (v := setV 14) rfl rfl rfl (tb_build24_0 (h0 := rfl) (k0 := rfl) (c0_0 := .int .u64 14)) ?_
  refine WL_val (dd := some 7) (v := setV 14) rfl rfl rfl (tb_build24_0 (h0 := rfl) (k0 := rfl) (c0_0 := .int .u64 14)) ?_
  refine WL_call (dd := some 8) rfl rfl rfl (r_call3 tb_c39 (v0 := .agg #[_, _, _, _]) rfl (v1 := .agg #[_, _, _, _]) rfl (v2 := .int .i64 2) rfl) (C_isop_Cover 14 14 2 _) (fun v1_2 W5 hE6 hP1_2 => ?_)
  have hsz7 := (Below.size hB)
  replace hB := below_ext hB hE6 (Nat.le_refl _)
  clear hE6
  obtain ⟨x_hP1_2, er_hP1_2, l_hP1_2, rfl, ho_hP1_2, hc_hP1_2⟩ := own_res hP1_2
  replace ho_hP1_2 := OwT.mono ho_hP1_2 hsz7
  obtain ⟨her, hle⟩ : er_hP1_2 = 0 ∧ l_hP1_2 = covL 14 14 2 := hc_hP1_2.elim (fun h => h.2) (fun h => absurd h.1 (by rw [ok_knows]; decide))
  subst her hle
  clear hsz7
  refine WL_val (dd := some 5) rfl rfl rfl (r_move (v := .tuple #[x_hP1_2, .int .i64 _]) rfl) ?_
  refine WL_val (dd := some 9) rfl rfl rfl (r_ext2_0 (h := rfl)) ?_
  refine WL_val (dd := some 10) rfl rfl rfl (r_ext2_1 (h := rfl)) ?_
  refine WL_val (dd := some 1) rfl rfl rfl (r_assign (v := x_hP1_2) rfl) ?_
  refine WL_val (dd := some 2) rfl rfl rfl (r_assign (v := .int .i64 _) rfl) ?_
  refine WL_nil ?_
  refine hK4 _ _ ?_
  clear hK4 K3
  refine WC_seq (fun K8 hK9 => ?_)
  refine WC_region ?_
  refine WL_val (dd := some 12) (v := setV 14) rfl rfl rfl (tb_build24_0 (h0 := rfl) (k0 := rfl) (c0_0 := .int .u64 14)) ?_
  refine WL_val (dd := some 13) (v := setV 14) rfl rfl rfl (tb_build24_0 (h0 := rfl) (k0 := rfl) (c0_0 := .int .u64 14)) ?_
  refine WL_call (dd := some 14) rfl rfl rfl (r_call3 tb_c43 (v0 := .agg #[_, _, _, _]) rfl (v1 := .agg #[_, _, _, _]) rfl (v2 := .int .i64 2) rfl) (C_isop_Grown 14 14 2 _) (fun v2_2 W10 hE11 hP2_2 => ?_)
  have hlt12 := OwT.lt2 ho_hP1_2
  have hsz13 := (Below.size hB)
  replace hB := below_ext hB hE11 (Nat.le_refl _)
  replace ho_hP1_2 := hE11.ow ho_hP1_2
  clear hE11
  obtain ⟨x_hP2_2, er_hP2_2, l_hP2_2, rfl, ho_hP2_2, hc_hP2_2⟩ := own_res hP2_2
  replace ho_hP2_2 := OwT.mono ho_hP2_2 hsz13
  obtain ⟨her, hle⟩ : er_hP2_2 = 0 ∧ l_hP2_2 = groL 14 14 2 := hc_hP2_2.elim (fun h => h.2) (fun h => absurd h.1 (by rw [ok_knows]; decide))
  subst her hle
  clear hsz13
  refine WL_val (dd := some 11) rfl rfl rfl (r_move (v := .tuple #[x_hP2_2, .int .i64 _]) rfl) ?_
  refine WL_val (dd := some 15) rfl rfl rfl (r_ext2_0 (h := rfl)) ?_
  refine WL_val (dd := some 16) rfl rfl rfl (r_ext2_1 (h := rfl)) ?_
  refine WL_val (dd := some 3) rfl rfl rfl (r_assign (v := x_hP2_2) rfl) ?_
  refine WL_val (dd := some 4) rfl rfl rfl (r_assign (v := .int .i64 _) rfl) ?_
  refine WL_nil ?_
  refine hK9 _ _ ?_
  clear hK9 K8
  refine WC_seq (fun K14 hK15 => ?_)
  have hk1 := covL_knows2
  have hk2 := groL_knows2
  refine WC_region ?_
  refine WL_val (dd := some 17) rfl rfl rfl (r_move (v := x_hP1_2) rfl) ?_
  refine WL_val (dd := some 18) rfl rfl rfl (r_lenS (v := x_hP1_2) rfl ho_hP1_2.sl tb_el27) ?_
  refine WL_val (dd := some 19) rfl rfl rfl (r_eql rfl rfl) ?_
  refine WL_split (dd := some 20) rfl rfl rfl (r_move (v := .bool _) rfl) (fun hs3_3 => ?_) (fun hs3_3 => ?_)
  ·
    try with_reducible replace hs3_3 := of_decide_eq_true hs3_3
    refine WL_val (dd := some 21) rfl rfl rfl (r_move (v := .int .i64 _) rfl) ?_
    refine WL_val (dd := some 22) rfl rfl rfl (r_eql rfl rfl) ?_
    refine WL_val (dd := some 23) rfl rfl rfl (r_pick_t rfl (v := .bool _) rfl) ?_
    refine WL_split (dd := some 24) rfl rfl rfl (r_move (v := .bool _) rfl) (fun hs3_7 => ?_) (fun hs3_7 => ?_)
    ·
      try with_reducible replace hs3_7 := of_decide_eq_true hs3_7
      refine WL_val (dd := some 25) rfl rfl rfl (r_move (v := x_hP2_2) rfl) ?_
      refine WL_val (dd := some 26) rfl rfl rfl (r_lenS (v := x_hP2_2) rfl ho_hP2_2.sl tb_el27) ?_
      refine WL_val (dd := some 27) rfl rfl rfl (r_eql rfl rfl) ?_
      refine WL_val (dd := some 28) rfl rfl rfl (r_pick_t rfl (v := .bool _) rfl) ?_
      refine WL_split (dd := some 29) rfl rfl rfl (r_move (v := .bool _) rfl) (fun hs3_12 => ?_) (fun hs3_12 => ?_)
      ·
        try with_reducible replace hs3_12 := of_decide_eq_true hs3_12
        refine WL_val (dd := some 30) rfl rfl rfl (r_move (v := .int .i64 _) rfl) ?_
        refine WL_val (dd := some 31) rfl rfl rfl (r_eql rfl rfl) ?_
        refine WL_val (dd := some 32) rfl rfl rfl (r_pick_t rfl (v := .bool _) rfl) ?_
        refine WL_split (dd := some 33) rfl rfl rfl (r_move (v := .bool _) rfl) (fun hs3_16 => ?_) (fun hs3_16 => ?_)
        ·
          try with_reducible replace hs3_16 := of_decide_eq_true hs3_16
          refine WL_val (dd := some 34) (v := setV 2) rfl rfl rfl (tb_build24_0 (h0 := rfl) (k0 := rfl) (c0_0 := .int .u64 2)) ?_
          refine WL_call (dd := some 35) rfl rfl rfl (r_call3 tb_c33 (v0 := .agg #[_, _, _, _]) rfl (v1 := .int .i64 0) rfl (v2 := .bool true) rfl) (C_isop_Side _ _ _ _) (fun v3_18 W16 hE17 hP3_18 => ?_)
          have hsz18 := (Below.size hB)
          replace hB := below_ext hB hE17 (Nat.le_refl _)
          replace ho_hP1_2 := hE17.ow ho_hP1_2
          replace ho_hP2_2 := hE17.ow ho_hP2_2
          clear hE17
          clear hsz18
          obtain rfl := hP3_18
          refine WL_val (dd := some 36) (v := setV 3) rfl rfl rfl (tb_build24_0 (h0 := rfl) (k0 := rfl) (c0_0 := .int .u64 3)) ?_
          refine WL_val (dd := some 37) rfl rfl rfl (tb_eq24 rfl rfl) ?_
          refine WL_val (dd := some 38) rfl rfl rfl (r_pick_t rfl (v := .bool _) rfl) ?_
          refine WL_val (dd := some 0) rfl rfl rfl (r_assign (v := .bool _) rfl) ?_
          refine WL_nil ?_
          refine hK15 _ _ ?_
          clear hK15 K14
          refine WC_ret ?_
          repeat (first | refine thenQ_ret ?_ | refine blockQ_ret ?_)
          refine ret_t (v := .bool _) rfl ?_
          refine ⟨hB, ?_⟩
          exact congrArg Value.bool (by rw [if_pos (by decide), show (0 : Int).toNat = 0 from rfl, sideS_knows]; decide)
        ·
          try with_reducible replace hs3_16 := of_decide_eq_false hs3_16
          exact absurd rfl hs3_16
      ·
        try with_reducible replace hs3_12 := of_decide_eq_false hs3_12
        exact absurd (by rw [hk2]; rfl) hs3_12
    ·
      try with_reducible replace hs3_7 := of_decide_eq_false hs3_7
      exact absurd rfl hs3_7
  ·
    try with_reducible replace hs3_3 := of_decide_eq_false hs3_3
    exact absurd (by rw [hk1]; rfl) hs3_3

theorem C_drawknifelaw12_may (on m : Nat) (n : Int) (w : World) :
    Fn Try.prog 38 #[setV on, setV m, .int .i64 n] w fun v w' => v = .bool (okB on m n) := by
  refine Fn_intro (n := 15) Try.func38 rfl rfl (Nat.le_of_ble_eq_true rfl) ?_
  have hB : Below w.heap.size w w := Below.refl _ _
  refine WC_seq (fun K1 hK2 => ?_)
  refine WC_region ?_
  refine WL_step (dd := some 3) rfl rfl rfl (Y_box (c := #[_, _, _, _]) rfl rfl (fun b0_0 W3 hb4 hE5 hm0_0 => ?_))
  have lo_b0_0 : w.heap.size ≤ b0_0 := hb4 ▸ (Below.size hB)
  clear hb4
  replace hB := below_ext hB hE5 (Nat.le_refl _)
  clear hE5
  refine WL_step (dd := some 4) rfl rfl rfl (Y_box (c := #[_, _, _, _]) rfl rfl (fun b0_1 W6 hb7 hE8 hm0_1 => ?_))
  have lo_b0_1 : w.heap.size ≤ b0_1 := hb7 ▸ (Below.size hB)
  have ne_b0_0_b0_1 : b0_0 ≠ b0_1 := Nat.ne_of_lt (hb7 ▸ hm0_0.lt)
  clear hb7
  replace hB := below_ext hB hE8 (Nat.le_refl _)
  replace hm0_0 := hE8.at hm0_0
  clear hE8
  refine WL_val (dd := some 6) rfl rfl rfl (r_assign (v := .bool false) rfl) ?_
  refine WL_nil ?_
  refine hK2 _ _ ?_
  clear hK2 K1
  refine WC_seq (fun K9 hK10 => ?_)
  refine WC_region ?_
  refine WL_val (dd := some 7) rfl rfl rfl (r_loadW rfl tb_ag24 rfl hm0_1) ?_
  refine WL_val (dd := some 8) rfl rfl rfl (r_move (v := .int .i64 _) rfl) ?_
  refine WL_call (dd := some 9) rfl rfl rfl (r_call2 tb_c23 (v0 := .agg #[_, _, _, _]) rfl (v1 := .int .i64 _) rfl) (C_drawkniferef09_Of _ _ _) (fun v1_2 W11 hE12 hP1_2 => ?_)
  have hsz13 := (Below.size hB)
  replace hB := below_ext hB hE12 (Nat.le_refl _)
  replace hm0_0 := hE12.at hm0_0
  replace hm0_1 := hE12.at hm0_1
  clear hE12
  clear hsz13
  obtain rfl := hP1_2
  refine WL_split (dd := some 10) rfl rfl rfl (r_move (v := .bool _) rfl) (fun hs1_3 => ?_) (fun hs1_3 => ?_)
  ·
    try with_reducible replace hs1_3 := of_decide_eq_true hs1_3
    refine WL_val (dd := some 11) rfl rfl rfl (r_loadW rfl tb_ag24 rfl hm0_0) ?_
    refine WL_val (dd := some 12) rfl rfl rfl (r_loadW rfl tb_ag24 rfl hm0_1) ?_
    refine WL_call (dd := some 13) rfl rfl rfl (r_call2 tb_c42 (v0 := .agg #[_, _, _, _]) rfl (v1 := .agg #[_, _, _, _]) rfl) (C_drawkniferef01_Within _ _ _) (fun v1_6 W14 hE15 hP1_6 => ?_)
    have hsz16 := (Below.size hB)
    replace hB := below_ext hB hE15 (Nat.le_refl _)
    replace hm0_0 := hE15.at hm0_0
    replace hm0_1 := hE15.at hm0_1
    clear hE15
    clear hsz16
    obtain rfl := hP1_6
    refine WL_val (dd := some 14) rfl rfl rfl (r_pick_t rfl (v := .bool _) rfl) ?_
    refine WL_val (dd := some 6) rfl rfl rfl (r_assign (v := .bool _) rfl) ?_
    refine WL_nil ?_
    refine hK10 _ _ ?_
    clear hK10 K9
    refine WC_ret ?_
    repeat (first | refine thenQ_ret ?_ | refine blockQ_ret ?_)
    refine ret_t (v := .bool _) rfl ?_
    refine ⟨hB, ?_⟩
    first | exact congrArg Value.bool (by rw [okB, hs1_3]; rfl) | exact congrArg Value.bool (by rw [okB, hs1_3, Bool.false_and])
  ·
    try with_reducible replace hs1_3 := of_decide_eq_false hs1_3
    refine WL_skip (dd := some 11) rfl rfl rfl ?_
    refine WL_skip (dd := some 12) rfl rfl rfl ?_
    refine WL_skip (dd := some 13) rfl rfl rfl ?_
    refine WL_val (dd := some 14) rfl rfl rfl (r_pick_f rfl (v := .bool false) rfl) ?_
    refine WL_val (dd := some 6) rfl rfl rfl (r_assign (v := .bool false) rfl) ?_
    refine WL_nil ?_
    refine hK10 _ _ ?_
    clear hK10 K9
    refine WC_ret ?_
    repeat (first | refine thenQ_ret ?_ | refine blockQ_ret ?_)
    refine ret_t (v := .bool false) rfl ?_
    refine ⟨hB, ?_⟩
    first | exact congrArg Value.bool (by rw [okB, hs1_3]; rfl) | exact congrArg Value.bool (by rw [okB, hs1_3, Bool.false_and])

theorem C_drawknifelaw12_points (xa : Value) (l : List Cb) (n but : Int) (w : World) (hl : SlT encC 2 w xa l) (h0 : 0 ≤ n) (h8 : n ≤ 8) (hr : ∀ c, c ∈ l → c.m < 256 ∧ c.v < 256) (hlb : l.length ≤ 100000) :
    Fn Try.prog 41 #[xa, .int .i64 n, .int .i64 but] w fun v w' => v = setV (ptsB l n.toNat but l.length) := by
  refine Fn_intro (n := 27) Try.func41 rfl rfl (Nat.le_of_ble_eq_true rfl) ?_
  have hB : Below w.heap.size w w := Below.refl _ _
  refine WC_seq (fun K1 hK2 => ?_)
  refine WC_region ?_
  refine WL_step (dd := some 6) rfl rfl rfl (Y_alloc tb_z24 rfl (fun b0_0 W3 hb4 hE5 hm0_0 => ?_))
  have lo_b0_0 : w.heap.size ≤ b0_0 := hb4 ▸ (Below.size hB)
  clear hb4
  replace hB := below_ext hB hE5 (Nat.le_refl _)
  clear hE5
  replace hm0_0 : At W3 b0_0 #[wv 0 0, wv 0 1, wv 0 2, wv 0 3] 24 := hm0_0
  refine WL_nil ?_
  refine hK2 _ _ ?_
  clear hK2 K1
  refine WC_seq (fun K6 hK7 => ?_)
  refine WC_region ?_
  refine WL_step (dd := some 7) rfl rfl rfl (Y_alloc tb_z24 rfl (fun b1_0 W8 hb9 hE10 hm1_0 => ?_))
  have lo_b1_0 : w.heap.size ≤ b1_0 := hb9 ▸ (Below.size hB)
  have ne_b0_0_b1_0 : b0_0 ≠ b1_0 := Nat.ne_of_lt (hb9 ▸ hm0_0.lt)
  clear hb9
  replace hB := below_ext hB hE10 (Nat.le_refl _)
  replace hm0_0 := hE10.at hm0_0
  clear hE10
  replace hm1_0 : At W8 b1_0 #[wv 0 0, wv 0 1, wv 0 2, wv 0 3] 24 := hm1_0
  refine WL_nil ?_
  refine hK7 _ _ ?_
  clear hK7 K6
  refine WC_seq (fun K11 hK12 => ?_)
  refine WC_seq (fun K13 hK14 => ?_)
  refine WC_region ?_
  refine WL_val (dd := some 8) rfl rfl rfl (r_assign (v := .int .i64 0) rfl) ?_
  refine WL_nil ?_
  refine hK14 _ _ ?_
  clear hK14 K13
  refine WC_block ?_
  refine WC_loop (σ := (Nat)) [8, 9, 10, 11, 12, 13, 14, 15, 16, 17, 18, 19, 20, 21, 22, 23, 24, 25] (fun k => [(8, .int .i64 (k : Int))]) (fun k W => (Below w.heap.size w W) ∧ (At W b0_0 _ 24) ∧ (At W b1_0 #[wv (ptsB l n.toNat but k) 0, wv (ptsB l n.toNat but k) 1, wv (ptsB l n.toNat but k) 2, wv (ptsB l n.toNat but k) 3] 24) ∧ (k ≤ l.length) ∧ (True)) (fun k => l.length - k) (0) ⟨rfl, trivial⟩ ⟨hB, hm0_0, hm1_0, (Nat.zero_le _), trivial⟩ ?_
  clear hB hm0_0 hm1_0
  rintro k g16 W15 ⟨hB, hm0_0, hm1_0, hk, _⟩ J17 hJ18
  refine WC_seq (fun K19 hK20 => ?_)
  refine WC_seq (fun K21 hK22 => ?_)
  refine WC_region ?_
  refine WL_val (dd := some 9) rfl rfl rfl (r_move (v := .int .i64 _) rfl) ?_
  refine WL_val (dd := some 10) rfl rfl rfl (r_move (v := xa) rfl) ?_
  refine WL_val (dd := some 11) rfl rfl rfl (r_lenS (v := xa) rfl (Below.slT hB hl) tb_el27) ?_
  refine WL_val (dd := some 12) rfl rfl rfl (r_lss rfl rfl) ?_
  refine WL_nil ?_
  refine hK22 _ _ ?_
  clear hK22 K21
  refine WC_cond (b := _) rfl (fun hc0 => ?_) (fun hc0 => ?_)
  ·
    try with_reducible replace hc0 := of_decide_eq_true hc0
    refine WC_skip ?_
    refine hK20 _ _ ?_
    clear hK20 K19
    refine WC_seq (fun K23 hK24 => ?_)
    refine WC_block ?_
    refine WC_seq (fun K25 hK26 => ?_)
    refine WC_region ?_
    refine WL_val (dd := some 15) rfl rfl rfl (r_move (v := .int .i64 _) rfl) ?_
    refine WL_val (dd := some 16) rfl rfl rfl (r_move (v := .int .i64 _) rfl) ?_
    refine WL_val (dd := some 17) rfl rfl rfl (r_neq rfl rfl) ?_
    refine WL_nil ?_
    refine hK26 _ _ ?_
    clear hK26 K25
    refine WC_cond (b := _) rfl (fun hc1 => ?_) (fun hc1 => ?_)
    ·
      try with_reducible replace hc1 := of_decide_eq_true hc1
      obtain ⟨hr1, hr2⟩ := hr (l.getD k ⟨0, 0⟩) (getD_mem (by omega))
      refine WC_draw Ext tb_mix (fun W27 hE28 => ?_)
      replace hB := below_ext hB hE28 (Nat.le_refl _)
      replace hm0_0 := hE28.at hm0_0
      replace hm1_0 := hE28.at hm1_0
      have hS := Ext.refl W27
      refine WT_take (dd := some 18) 0 rfl (by kernel_rfl) (by kernel_rfl) (by kernel_rfl) rfl rfl rfl (fun _wq hq => r_loadW rfl tb_ag24 rfl (hq.at hm1_0)) hS ?_
      refine WT_take (dd := some 19) 1 rfl (by kernel_rfl) (by kernel_rfl) (by kernel_rfl) rfl rfl rfl (fun _wq _hq => r_move (v := xa) rfl) hS ?_
      refine WT_take (dd := some 20) 2 rfl (by kernel_rfl) (by kernel_rfl) (by kernel_rfl) rfl rfl rfl (fun _wq _hq => r_move (v := .int .i64 _) rfl) hS ?_
      refine WT_take (dd := some 21) 3 rfl (by kernel_rfl) (by kernel_rfl) (by kernel_rfl) rfl rfl rfl (fun _wq hq => r_idxS (v := xa) rfl (hq.slT (Below.slT hB hl)) rfl tb_el27 (by omega) (by first | omega | (simp only [flagsTo_len, litsTo_len, firstF_len, ptF_len, setF_len]; omega))) hS ?_
      refine WT_take (dd := some 22) 4 rfl (by kernel_rfl) (by kernel_rfl) (by kernel_rfl) rfl rfl rfl (fun _wq hq => r_load2 rfl tb_ag34 (SlT.cell (hq.slT (Below.slT hB hl)) encC_len ⟨0, 0⟩ (by omega) (by first | omega | (simp only [flagsTo_len, litsTo_len, firstF_len, ptF_len, setF_len]; omega)) 0 rfl) (SlT.cell (hq.slT (Below.slT hB hl)) encC_len ⟨0, 0⟩ (by omega) (by first | omega | (simp only [flagsTo_len, litsTo_len, firstF_len, ptF_len, setF_len]; omega)) 1 rfl)) hS ?_
      refine WT_take (dd := some 23) 5 rfl (by kernel_rfl) (by kernel_rfl) (by kernel_rfl) rfl rfl rfl (fun _wq _hq => r_move (v := .int .i64 _) rfl) hS ?_
      refine WT_one (dd := some 24) 6 (by kernel_rfl) rfl rfl rfl rfl (Yd.call (r_call2 tb_c93 (v0 := .agg #[_, _]) rfl (v1 := .int .i64 _) rfl) (C_drawkniferef02_Points _ _ _ _ (by show (l.getD k ⟨0, 0⟩).m < 256; omega) (by show (l.getD k ⟨0, 0⟩).v < 256; omega) h0 h8) (fun v6_6 W29 hE30 hP6_6 => ⟨.inl (hS.trans hE30), ?_⟩))
      have hsz31 := (Below.size hB)
      have sv32_hB := hB
      have sv32_hm0_0 := hm0_0
      have sv32_hm1_0 := hm1_0
      replace hB := below_ext hB hE30 (Nat.le_refl _)
      replace hm0_0 := hE30.at hm0_0
      replace hm1_0 := hE30.at hm1_0
      replace hS := hS.trans hE30
      clear hE30
      clear hsz31
      obtain rfl := hP6_6
      refine WT_one (dd := some 25) 7 (by kernel_rfl) rfl rfl rfl rfl (Yd.call (r_call2 tb_c30 (v0 := .agg #[_, _, _, _]) rfl (v1 := .agg #[_, _, _, _]) rfl) (C_set_Or _ _ _) (fun v6_7 W33 hE34 hP6_7 => ⟨.inl (hS.trans hE34), ?_⟩))
      have hsz35 := (Below.size hB)
      replace hB := below_ext hB hE34 (Nat.le_refl _)
      replace hm0_0 := hE34.at hm0_0
      replace hm1_0 := hE34.at hm1_0
      replace hS := hS.trans hE34
      clear hE34
      clear hsz35
      obtain rfl := hP6_7
      refine WT_one (dd := none) 8 (by kernel_rfl) rfl rfl rfl rfl (Y_storeW rfl rfl tb_ag24 rfl hm1_0 rfl (by rfl) (fun W36 hG37 hm38 => ⟨.inr (by kernel_rfl), ?_⟩))
      replace hB := below_grown hB hG37 (Nat.le_refl _) (fun j hj => by cases hj; exact lo_b1_0)
      replace hm0_0 := At.grownNe hm0_0 ne_b0_0_b1_0 hG37
      clear hG37 hm1_0
      have hm1_0 := hm38
      clear hm38
      refine WT_done (by kernel_rfl) ?_
      try clear sv32_hB sv32_hm0_0
      refine hK24 _ _ ?_
      clear hK24 K23
      refine WC_region ?_
      refine WL_val (dd := some 13) rfl rfl rfl (r_move (v := .int .i64 _) rfl) ?_
      refine WL_val (dd := some 14) rfl rfl rfl (r_addI rfl rfl (by omega) (by omega)) ?_
      refine WL_val (dd := some 8) rfl rfl rfl (r_assign (v := .int .i64 _) rfl) ?_
      refine WL_nil ?_
      refine hJ18 _ _ (k + 1) ?_ ?_ ?_ ?_
      · repeat (first | exact agree.mask _ _ _ | refine agree.updo ?_ rfl _ | refine agree.updL ?_ _ rfl | refine agree.maskS rfl ?_)
      · exact ⟨rfl, trivial⟩
      · exact ⟨hB, hm0_0, (by first | (rw [ptsB_t hc1]; exact hm1_0) | (rw [ptsB_f hc1]; exact hm1_0)), (by omega), trivial⟩
      · first | omega | (dsimp only; omega)
    ·
      try with_reducible replace hc1 := of_decide_eq_false hc1
      refine WC_skip ?_
      refine hK24 _ _ ?_
      clear hK24 K23
      refine WC_region ?_
      refine WL_val (dd := some 13) rfl rfl rfl (r_move (v := .int .i64 _) rfl) ?_
      refine WL_val (dd := some 14) rfl rfl rfl (r_addI rfl rfl (by omega) (by omega)) ?_
      refine WL_val (dd := some 8) rfl rfl rfl (r_assign (v := .int .i64 _) rfl) ?_
      refine WL_nil ?_
      refine hJ18 _ _ (k + 1) ?_ ?_ ?_ ?_
      · repeat (first | exact agree.mask _ _ _ | refine agree.updo ?_ rfl _ | refine agree.updL ?_ _ rfl | refine agree.maskS rfl ?_)
      · exact ⟨rfl, trivial⟩
      · exact ⟨hB, hm0_0, (by first | (rw [ptsB_t hc1]; exact hm1_0) | (rw [ptsB_f hc1]; exact hm1_0)), (by omega), trivial⟩
      · first | omega | (dsimp only; omega)
  ·
    try with_reducible replace hc0 := of_decide_eq_false hc0
    refine WC_exit ?_
    refine hK12 _ _ ?_
    clear hK20 K19
    clear hJ18 J17
    clear hK12 K11
    refine WC_seq (fun K39 hK40 => ?_)
    refine WC_region ?_
    refine WL_val (dd := some 26) rfl rfl rfl (r_loadW rfl tb_ag24 rfl hm1_0) ?_
    refine WL_step (dd := none) rfl rfl rfl (Y_storeW rfl rfl tb_ag24 rfl hm0_0 rfl (by rfl) (fun W41 hG42 hm43 => ?_))
    replace hB := below_grown hB hG42 (Nat.le_refl _) (fun j hj => by cases hj; exact lo_b0_0)
    replace hm1_0 := At.grownNe hm1_0 (Ne.symm ne_b0_0_b1_0) hG42
    clear hG42 hm0_0
    have hm0_0 := hm43
    clear hm43
    refine WL_nil ?_
    refine hK40 _ _ ?_
    clear hK40 K39
    refine WC_ret ?_
    repeat (first | refine thenQ_ret ?_ | refine blockQ_ret ?_)
    refine ret_c rfl tb_ag24 hm0_0 rfl ?_
    refine ⟨hB, ?_⟩
    obtain rfl : k = l.length := by omega
    rfl

theorem C_drawknifelaw12_IsopSides (s : Nat) (i : Int) (one : Bool) (w : World) :
    Fn Try.prog 5 #[setV s, .int .i64 i, .bool one] w fun v w' => v = .bool true := by
  refine Fn_intro (n := 35) Try.func5 rfl rfl (Nat.le_of_ble_eq_true rfl) ?_
  have hB : Below w.heap.size w w := Below.refl _ _
  refine WC_seq (fun K1 hK2 => ?_)
  refine WC_region ?_
  refine WL_step (dd := some 3) rfl rfl rfl (Y_box (c := #[_, _, _, _]) rfl rfl (fun b0_0 W3 hb4 hE5 hm0_0 => ?_))
  have lo_b0_0 : w.heap.size ≤ b0_0 := hb4 ▸ (Below.size hB)
  clear hb4
  replace hB := below_ext hB hE5 (Nat.le_refl _)
  clear hE5
  refine WL_val (dd := some 6) rfl rfl rfl (r_assign (v := .bool false) rfl) ?_
  refine WL_nil ?_
  refine hK2 _ _ ?_
  clear hK2 K1
  refine WC_seq (fun K6 hK7 => ?_)
  refine WC_region ?_
  refine WL_val (dd := some 8) rfl rfl rfl (r_loadW rfl tb_ag24 rfl hm0_0) ?_
  refine WL_val (dd := some 9) rfl rfl rfl (r_move (v := .int .i64 _) rfl) ?_
  refine WL_val (dd := some 10) rfl rfl rfl (r_move (v := .bool _) rfl) ?_
  refine WL_call (dd := some 11) rfl rfl rfl (r_call3 tb_c33 (v0 := .agg #[_, _, _, _]) rfl (v1 := .int .i64 _) rfl (v2 := .bool _) rfl) (C_isop_Side _ _ _ _) (fun v1_3 W8 hE9 hP1_3 => ?_)
  have hsz10 := (Below.size hB)
  replace hB := below_ext hB hE9 (Nat.le_refl _)
  replace hm0_0 := hE9.at hm0_0
  clear hE9
  clear hsz10
  obtain rfl := hP1_3
  generalize hX : (if 0 ≤ i ∧ i < 8 then sideS s i.toNat one else 0) = X
  refine WL_step (dd := some 7) rfl rfl rfl (Y_alloc tb_z24 rfl (fun b1_4 W11 hb12 hE13 hm1_4 => ?_))
  have lo_b1_4 : w.heap.size ≤ b1_4 := hb12 ▸ (Below.size hB)
  have ne_b0_0_b1_4 : b0_0 ≠ b1_4 := Nat.ne_of_lt (hb12 ▸ hm0_0.lt)
  clear hb12
  replace hB := below_ext hB hE13 (Nat.le_refl _)
  replace hm0_0 := hE13.at hm0_0
  clear hE13
  replace hm1_4 : At W11 b1_4 #[wv 0 0, wv 0 1, wv 0 2, wv 0 3] 24 := hm1_4
  refine WL_step (dd := none) rfl rfl rfl (Y_storeW rfl rfl tb_ag24 rfl hm1_4 rfl (by rfl) (fun W14 hG15 hm16 => ?_))
  replace hB := below_grown hB hG15 (Nat.le_refl _) (fun j hj => by cases hj; exact lo_b1_4)
  replace hm0_0 := At.grownNe hm0_0 ne_b0_0_b1_4 hG15
  clear hG15 hm1_4
  have hm1_4 := hm16
  clear hm16
  refine WL_nil ?_
  refine hK7 _ _ ?_
  clear hK7 K6
  refine WC_seq (fun K17 hK18 => ?_)
  refine WC_seq (fun K19 hK20 => ?_)
  refine WC_region ?_
  refine WL_val (dd := some 12) rfl rfl rfl (r_move (v := .int .i64 _) rfl) ?_
  refine WL_val (dd := some 13) rfl rfl rfl (r_lss rfl rfl) ?_
  refine WL_split (dd := some 14) rfl rfl rfl (r_move (v := .bool _) rfl) (fun hs2_2 => ?_) (fun hs2_2 => ?_)
  ·
    try with_reducible replace hs2_2 := of_decide_eq_true hs2_2
    refine WL_skip (dd := some 15) rfl rfl rfl ?_
    refine WL_skip (dd := some 16) rfl rfl rfl ?_
    refine WL_val (dd := some 17) rfl rfl rfl (r_pick_t rfl (v := .bool true) rfl) ?_
    refine WL_nil ?_
    refine hK20 _ _ ?_
    clear hK20 K19
    refine WC_cond_true rfl ?_
    refine WC_seq (fun K21 hK22 => ?_)
    refine WC_region ?_
    refine WL_val (dd := some 18) rfl rfl rfl (r_loadW rfl tb_ag24 rfl hm1_4) ?_
    refine WL_val (dd := some 19) (v := setV 0) rfl rfl rfl (tb_build24_ ) ?_
    refine WL_val (dd := some 20) rfl rfl rfl (tb_eq24 rfl rfl) ?_
    refine WL_split (dd := some 21) rfl rfl rfl (r_move (v := .bool _) rfl) (fun hs3_3 => ?_) (fun hs3_3 => ?_)
    ·
      try with_reducible replace hs3_3 := of_decide_eq_true hs3_3
      refine WL_call (dd := some 22) rfl rfl rfl (r_call0 tb_c34) (C_drawknifelaw12_knows _) (fun v3_4 W23 hE24 hP3_4 => ?_)
      have hsz25 := (Below.size hB)
      replace hB := below_ext hB hE24 (Nat.le_refl _)
      replace hm0_0 := hE24.at hm0_0
      replace hm1_4 := hE24.at hm1_4
      clear hE24
      clear hsz25
      obtain rfl := hP3_4
      refine WL_val (dd := some 23) rfl rfl rfl (r_pick_t rfl (v := .bool _) rfl) ?_
      refine WL_val (dd := some 6) rfl rfl rfl (r_assign (v := .bool _) rfl) ?_
      refine WL_nil ?_
      refine hK22 _ _ ?_
      clear hK22 K21
      refine WC_ret ?_
      repeat (first | refine thenQ_ret ?_ | refine blockQ_ret ?_)
      try clear hK18 K17
      refine ret_t (v := .bool _) rfl ?_
      refine ⟨hB, ?_⟩
      rfl
    ·
      try with_reducible replace hs3_3 := of_decide_eq_false hs3_3
      exact absurd (by rw [side_no hX (by omega)]; exact ⟨rfl, rfl, rfl, rfl⟩) hs3_3
  ·
    try with_reducible replace hs2_2 := of_decide_eq_false hs2_2
    refine WL_val (dd := some 15) rfl rfl rfl (r_move (v := .int .i64 _) rfl) ?_
    refine WL_val (dd := some 16) rfl rfl rfl (r_gtr rfl rfl) ?_
    refine WL_val (dd := some 17) rfl rfl rfl (r_pick_f rfl (v := .bool _) rfl) ?_
    refine WL_nil ?_
    refine hK20 _ _ ?_
    clear hK20 K19
    refine WC_cond (b := _) rfl (fun hc0 => ?_) (fun hc0 => ?_)
    ·
      try with_reducible replace hc0 := of_decide_eq_true hc0
      refine WC_seq (fun K26 hK27 => ?_)
      refine WC_region ?_
      refine WL_val (dd := some 18) rfl rfl rfl (r_loadW rfl tb_ag24 rfl hm1_4) ?_
      refine WL_val (dd := some 19) (v := setV 0) rfl rfl rfl (tb_build24_ ) ?_
      refine WL_val (dd := some 20) rfl rfl rfl (tb_eq24 rfl rfl) ?_
      refine WL_split (dd := some 21) rfl rfl rfl (r_move (v := .bool _) rfl) (fun hs3_3 => ?_) (fun hs3_3 => ?_)
      ·
        try with_reducible replace hs3_3 := of_decide_eq_true hs3_3
        refine WL_call (dd := some 22) rfl rfl rfl (r_call0 tb_c34) (C_drawknifelaw12_knows _) (fun v3_4 W28 hE29 hP3_4 => ?_)
        have hsz30 := (Below.size hB)
        replace hB := below_ext hB hE29 (Nat.le_refl _)
        replace hm0_0 := hE29.at hm0_0
        replace hm1_4 := hE29.at hm1_4
        clear hE29
        clear hsz30
        obtain rfl := hP3_4
        refine WL_val (dd := some 23) rfl rfl rfl (r_pick_t rfl (v := .bool _) rfl) ?_
        refine WL_val (dd := some 6) rfl rfl rfl (r_assign (v := .bool _) rfl) ?_
        refine WL_nil ?_
        refine hK27 _ _ ?_
        clear hK27 K26
        refine WC_ret ?_
        repeat (first | refine thenQ_ret ?_ | refine blockQ_ret ?_)
        try clear hK18 K17
        refine ret_t (v := .bool _) rfl ?_
        refine ⟨hB, ?_⟩
        rfl
      ·
        try with_reducible replace hs3_3 := of_decide_eq_false hs3_3
        exact absurd (by rw [side_no hX (by omega)]; exact ⟨rfl, rfl, rfl, rfl⟩) hs3_3
    ·
      try with_reducible replace hc0 := of_decide_eq_false hc0
      refine WC_skip ?_
      refine hK18 _ _ ?_
      clear hK18 K17
      refine WC_seq (fun K31 hK32 => ?_)
      have hi : 0 ≤ i ∧ i < 8 := by omega
      have hX2 := side_eq hX hi
      obtain ⟨i, rfl⟩ := Int.eq_ofNat_of_zero_le hi.1
      refine WC_draw Ext tb_mix (fun W33 hE34 => ?_)
      replace hB := below_ext hB hE34 (Nat.le_refl _)
      replace hm0_0 := hE34.at hm0_0
      replace hm1_4 := hE34.at hm1_4
      have hS := Ext.refl W33
      refine WT_take (dd := some 24) 0 rfl (by kernel_rfl) (by kernel_rfl) (by kernel_rfl) rfl rfl rfl (fun _wq hq => r_loadW rfl tb_ag24 rfl (hq.at hm1_4)) hS ?_
      refine WT_take (dd := some 25) 1 rfl (by kernel_rfl) (by kernel_rfl) (by kernel_rfl) rfl rfl rfl (fun _wq hq => r_loadW rfl tb_ag24 rfl (hq.at hm0_0)) hS ?_
      refine WT_take (dd := some 27) 3 rfl (by kernel_rfl) (by kernel_rfl) (by kernel_rfl) rfl rfl rfl (fun _wq _hq => r_move (v := .int .i64 _) rfl) hS ?_
      refine WT_take (dd := some 28) 4 rfl (by kernel_rfl) (by kernel_rfl) (by kernel_rfl) rfl rfl rfl (fun _wq _hq => r_move (v := .bool _) rfl) hS ?_
      refine WT_one (dd := some 26) 2 (by kernel_rfl) rfl rfl rfl rfl (Yd.call (r_call1 tb_c37 (v0 := .agg #[_, _, _, _]) rfl) (C_drawkniferef01_Flags _ _) (fun v4_2 W35 hE36 hP4_2 => ⟨.inl (hS.trans hE36), ?_⟩))
      have hsz37 := (Below.size hB)
      have sv38_hB := hB
      have sv38_hm0_0 := hm0_0
      have sv38_hm1_4 := hm1_4
      replace hB := below_ext hB hE36 (Nat.le_refl _)
      replace hm0_0 := hE36.at hm0_0
      replace hm1_4 := hE36.at hm1_4
      replace hS := hS.trans hE36
      clear hE36
      replace hP4_2 := OwT.mono hP4_2 hsz37
      clear hsz37
      refine WT_one (dd := some 29) 5 (by kernel_rfl) rfl rfl rfl rfl (Yd.call (r_call3 tb_c36 (v0 := v4_2) rfl (v1 := .int .i64 _) rfl (v2 := .bool _) rfl) (C_drawkniferef12_Side _ _ i _ _ hP4_2.sl (by omega)) (fun v4_5 W39 hE40 hP4_5 => ⟨.inl (hS.trans hE40), ?_⟩))
      have hlt41 := OwT.lt2 hP4_2
      have hsz42 := (Below.size hB)
      replace hB := below_ext hB hE40 (Nat.le_refl _)
      replace hm0_0 := hE40.at hm0_0
      replace hm1_4 := hE40.at hm1_4
      replace hP4_2 := hE40.ow hP4_2
      replace hS := hS.trans hE40
      clear hE40
      have hap43 := Apart.new hlt41 hP4_5
      replace hP4_5 := OwT.mono hP4_5 hsz42
      clear hsz42
      refine WT_one (dd := some 30) 6 (by kernel_rfl) rfl rfl rfl rfl (Yd.call (r_call1 tb_c35 (v0 := v4_5) rfl) (C_drawkniferef01_Set _ _ _ hP4_5.sl (flagsTo_len _ _)) (fun v4_6 W44 hE45 hP4_6 => ⟨.inl (hS.trans hE45), ?_⟩))
      have hsz46 := (Below.size hB)
      replace hB := below_ext hB hE45 (Nat.le_refl _)
      replace hm0_0 := hE45.at hm0_0
      replace hm1_4 := hE45.at hm1_4
      replace hP4_2 := hE45.ow hP4_2
      replace hP4_5 := hE45.ow hP4_5
      replace hS := hS.trans hE45
      clear hE45
      clear hsz46
      obtain rfl := hP4_6
      refine WT_take (dd := some 31) 7 rfl (by kernel_rfl) (by kernel_rfl) (by kernel_rfl) rfl rfl rfl (fun _wq _hq => tb_eq24 rfl rfl) hS ?_
      refine WT_split (dd := some 32) 8 rfl (by kernel_rfl) (by kernel_rfl) (by kernel_rfl) rfl rfl rfl (fun wq hq => r_move (v := .bool _) rfl) hS (fun hs4_8 => ?_) (fun hs4_8 => ?_)
      ·
        try with_reducible replace hs4_8 := of_decide_eq_true hs4_8
        refine WT_one (dd := some 33) 9 (by kernel_rfl) rfl rfl rfl rfl (Yd.call (r_call0 tb_c34) (C_drawknifelaw12_knows _) (fun v4_9 W47 hE48 hP4_9 => ⟨.inl (hS.trans hE48), ?_⟩))
        have hsz49 := (Below.size hB)
        replace hB := below_ext hB hE48 (Nat.le_refl _)
        replace hm0_0 := hE48.at hm0_0
        replace hm1_4 := hE48.at hm1_4
        replace hP4_2 := hE48.ow hP4_2
        replace hP4_5 := hE48.ow hP4_5
        replace hS := hS.trans hE48
        clear hE48
        clear hsz49
        obtain rfl := hP4_9
        refine WT_take (dd := some 34) 10 rfl (by kernel_rfl) (by kernel_rfl) (by kernel_rfl) rfl rfl rfl (fun _wq _hq => r_pick_t rfl (v := .bool _) rfl) hS ?_
        refine WT_take (dd := some 6) 11 rfl (by kernel_rfl) (by kernel_rfl) (by kernel_rfl) rfl rfl rfl (fun _wq _hq => r_assign (v := .bool _) rfl) hS ?_
        refine WT_done (by kernel_rfl) ?_
        try clear sv38_hB sv38_hm0_0 sv38_hm1_4
        refine hK32 _ _ ?_
        clear hK32 K31
        refine WC_ret ?_
        repeat (first | refine thenQ_ret ?_ | refine blockQ_ret ?_)
        refine ret_t (v := .bool _) rfl ?_
        refine ⟨hB, ?_⟩
        rfl
      ·
        try with_reducible replace hs4_8 := of_decide_eq_false hs4_8
        exact absurd (words_eq (fun p hp => by rw [hX2, bits_flags _ p hp]; rfl)) hs4_8

theorem C_drawknifelaw12_IsopCovers (on m : Nat) (n : Int) (w : World) :
    Fn Try.prog 6 #[setV on, setV m, .int .i64 n] w fun v w' => v = .bool true := by
  refine Fn_intro (n := 54) Try.func6 rfl rfl (Nat.le_of_ble_eq_true rfl) ?_
  have hB : Below w.heap.size w w := Below.refl _ _
  refine WC_seq (fun K1 hK2 => ?_)
  refine WC_region ?_
  refine WL_step (dd := some 3) rfl rfl rfl (Y_box (c := #[_, _, _, _]) rfl rfl (fun b0_0 W3 hb4 hE5 hm0_0 => ?_))
  have lo_b0_0 : w.heap.size ≤ b0_0 := hb4 ▸ (Below.size hB)
  clear hb4
  replace hB := below_ext hB hE5 (Nat.le_refl _)
  clear hE5
  refine WL_step (dd := some 4) rfl rfl rfl (Y_box (c := #[_, _, _, _]) rfl rfl (fun b0_1 W6 hb7 hE8 hm0_1 => ?_))
  have lo_b0_1 : w.heap.size ≤ b0_1 := hb7 ▸ (Below.size hB)
  have ne_b0_0_b0_1 : b0_0 ≠ b0_1 := Nat.ne_of_lt (hb7 ▸ hm0_0.lt)
  clear hb7
  replace hB := below_ext hB hE8 (Nat.le_refl _)
  replace hm0_0 := hE8.at hm0_0
  clear hE8
  refine WL_val (dd := some 6) rfl rfl rfl (r_assign (v := .bool false) rfl) ?_
  refine WL_nil ?_
  refine hK2 _ _ ?_
  clear hK2 K1
  refine WC_seq (fun K9 hK10 => ?_)
  refine WC_region ?_
  refine WL_val (dd := some 10) rfl rfl rfl (r_loadW rfl tb_ag24 rfl hm0_0) ?_
  refine WL_val (dd := some 11) rfl rfl rfl (r_loadW rfl tb_ag24 rfl hm0_1) ?_
  refine WL_val (dd := some 12) rfl rfl rfl (r_move (v := .int .i64 _) rfl) ?_
  refine WL_call (dd := some 13) rfl rfl rfl (r_call3 tb_c38 (v0 := .agg #[_, _, _, _]) rfl (v1 := .agg #[_, _, _, _]) rfl (v2 := .int .i64 _) rfl) (C_drawknifelaw12_may _ _ _ _) (fun v1_3 W11 hE12 hP1_3 => ?_)
  have hsz13 := (Below.size hB)
  replace hB := below_ext hB hE12 (Nat.le_refl _)
  replace hm0_0 := hE12.at hm0_0
  replace hm0_1 := hE12.at hm0_1
  clear hE12
  clear hsz13
  obtain rfl := hP1_3
  refine WL_val (dd := some 7) rfl rfl rfl (r_assign (v := .bool _) rfl) ?_
  refine WL_nil ?_
  refine hK10 _ _ ?_
  clear hK10 K9
  refine WC_seq (fun K14 hK15 => ?_)
  refine WC_seq (fun K16 hK17 => ?_)
  refine WC_region ?_
  refine WL_val (dd := some 14) rfl rfl rfl (r_move (v := .bool _) rfl) ?_
  refine WL_split (dd := some 15) rfl rfl rfl (r_move (v := .bool _) rfl) (fun hs2_1 => ?_) (fun hs2_1 => ?_)
  ·
    try with_reducible replace hs2_1 := of_decide_eq_true hs2_1
    refine WL_val (dd := some 16) rfl rfl rfl (r_move (v := .int .i64 _) rfl) ?_
    refine WL_val (dd := some 17) rfl rfl rfl (r_gtr rfl rfl) ?_
    refine WL_val (dd := some 18) rfl rfl rfl (r_pick_t rfl (v := .bool _) rfl) ?_
    refine WL_nil ?_
    refine hK17 _ _ ?_
    clear hK17 K16
    refine WC_cond (b := _) rfl (fun hc0 => ?_) (fun hc0 => ?_)
    ·
      try with_reducible replace hc0 := of_decide_eq_true hc0
      refine WC_seq (fun K18 hK19 => ?_)
      refine WC_region ?_
      refine WL_call (dd := some 19) rfl rfl rfl (r_call0 tb_c34) (C_drawknifelaw12_knows _) (fun v3_0 W20 hE21 hP3_0 => ?_)
      have hsz22 := (Below.size hB)
      replace hB := below_ext hB hE21 (Nat.le_refl _)
      replace hm0_0 := hE21.at hm0_0
      replace hm0_1 := hE21.at hm0_1
      clear hE21
      clear hsz22
      obtain rfl := hP3_0
      refine WL_val (dd := some 6) rfl rfl rfl (r_assign (v := .bool _) rfl) ?_
      refine WL_nil ?_
      refine hK19 _ _ ?_
      clear hK19 K18
      refine WC_ret ?_
      repeat (first | refine thenQ_ret ?_ | refine blockQ_ret ?_)
      try clear hK15 K14
      refine ret_t (v := .bool _) rfl ?_
      refine ⟨hB, ?_⟩
      rfl
    ·
      try with_reducible replace hc0 := of_decide_eq_false hc0
      refine WC_skip ?_
      refine hK15 _ _ ?_
      clear hK15 K14
      refine WC_seq (fun K23 hK24 => ?_)
      refine WC_region ?_
      refine WL_val (dd := some 21) rfl rfl rfl (r_loadW rfl tb_ag24 rfl hm0_0) ?_
      refine WL_val (dd := some 22) rfl rfl rfl (r_loadW rfl tb_ag24 rfl hm0_1) ?_
      refine WL_val (dd := some 23) rfl rfl rfl (r_move (v := .int .i64 _) rfl) ?_
      refine WL_call (dd := some 24) rfl rfl rfl (r_call3 tb_c39 (v0 := .agg #[_, _, _, _]) rfl (v1 := .agg #[_, _, _, _]) rfl (v2 := .int .i64 _) rfl) (C_isop_Cover _ _ _ _) (fun v4_3 W25 hE26 hP4_3 => ?_)
      have hsz27 := (Below.size hB)
      replace hB := below_ext hB hE26 (Nat.le_refl _)
      replace hm0_0 := hE26.at hm0_0
      replace hm0_1 := hE26.at hm0_1
      clear hE26
      obtain ⟨x_hP4_3, er_hP4_3, l_hP4_3, rfl, ho_hP4_3, hc_hP4_3⟩ := own_res hP4_3
      replace ho_hP4_3 := OwT.mono ho_hP4_3 hsz27
      clear hsz27
      refine WL_val (dd := some 20) rfl rfl rfl (r_move (v := .tuple #[x_hP4_3, .int .i64 _]) rfl) ?_
      refine WL_val (dd := some 25) rfl rfl rfl (r_ext2_0 (h := rfl)) ?_
      refine WL_val (dd := some 26) rfl rfl rfl (r_ext2_1 (h := rfl)) ?_
      refine WL_val (dd := some 8) rfl rfl rfl (r_assign (v := x_hP4_3) rfl) ?_
      refine WL_val (dd := some 9) rfl rfl rfl (r_assign (v := .int .i64 _) rfl) ?_
      refine WL_nil ?_
      refine hK24 _ _ ?_
      clear hK24 K23
      refine WC_seq (fun K28 hK29 => ?_)
      refine WC_seq (fun K30 hK31 => ?_)
      refine WC_region ?_
      refine WL_val (dd := some 27) rfl rfl rfl (r_move (v := .bool _) rfl) ?_
      refine WL_val (dd := some 28) rfl rfl rfl (r_not rfl) ?_
      refine WL_nil ?_
      refine hK31 _ _ ?_
      clear hK31 K30
      refine WC_cond (b := _) rfl (fun hc1 => ?_) (fun hc1 => ?_)
      ·
        try with_reducible replace hc1 := of_decide_eq_true hc1
        refine WC_seq (fun K32 hK33 => ?_)
        have hk : okB on m n = false := by simpa using hc1
        obtain ⟨q2, q3⟩ := hc_hP4_3.elim (fun h => absurd h.1 (by rw [hk]; decide)) (fun h => h.2)
        subst q2 q3
        refine WC_region ?_
        refine WL_val (dd := some 29) rfl rfl rfl (r_move (v := x_hP4_3) rfl) ?_
        refine WL_val (dd := some 30) rfl rfl rfl (r_lenS (v := x_hP4_3) rfl ho_hP4_3.sl tb_el27) ?_
        refine WL_val (dd := some 31) rfl rfl rfl (r_eql rfl rfl) ?_
        refine WL_split (dd := some 32) rfl rfl rfl (r_move (v := .bool _) rfl) (fun hs6_3 => ?_) (fun hs6_3 => ?_)
        ·
          try with_reducible replace hs6_3 := of_decide_eq_true hs6_3
          refine WL_val (dd := some 33) rfl rfl rfl (r_move (v := .int .i64 _) rfl) ?_
          refine WL_val (dd := some 34) rfl rfl rfl (r_eql rfl rfl) ?_
          refine WL_val (dd := some 35) rfl rfl rfl (r_pick_t rfl (v := .bool _) rfl) ?_
          refine WL_split (dd := some 36) rfl rfl rfl (r_move (v := .bool _) rfl) (fun hs6_7 => ?_) (fun hs6_7 => ?_)
          ·
            try with_reducible replace hs6_7 := of_decide_eq_true hs6_7
            refine WL_call (dd := some 37) rfl rfl rfl (r_call0 tb_c34) (C_drawknifelaw12_knows _) (fun v6_8 W34 hE35 hP6_8 => ?_)
            have hsz36 := (Below.size hB)
            replace hB := below_ext hB hE35 (Nat.le_refl _)
            replace hm0_0 := hE35.at hm0_0
            replace hm0_1 := hE35.at hm0_1
            replace ho_hP4_3 := hE35.ow ho_hP4_3
            clear hE35
            clear hsz36
            obtain rfl := hP6_8
            refine WL_val (dd := some 38) rfl rfl rfl (r_pick_t rfl (v := .bool _) rfl) ?_
            refine WL_val (dd := some 6) rfl rfl rfl (r_assign (v := .bool _) rfl) ?_
            refine WL_nil ?_
            refine hK33 _ _ ?_
            clear hK33 K32
            refine WC_ret ?_
            repeat (first | refine thenQ_ret ?_ | refine blockQ_ret ?_)
            try clear hK29 K28
            refine ret_t (v := .bool _) rfl ?_
            refine ⟨hB, ?_⟩
            rfl
          ·
            try with_reducible replace hs6_7 := of_decide_eq_false hs6_7
            exact absurd rfl hs6_7
        ·
          try with_reducible replace hs6_3 := of_decide_eq_false hs6_3
          exact absurd rfl hs6_3
      ·
        try with_reducible replace hc1 := of_decide_eq_false hc1
        refine WC_skip ?_
        refine hK29 _ _ ?_
        clear hK29 K28
        refine WC_seq (fun K37 hK38 => ?_)
        have hk : okB on m n = true := by simpa using hc1
        obtain ⟨q2, q3⟩ := hc_hP4_3.elim (fun h => h.2) (fun h => absurd hk (by rw [h.1]; decide))
        subst q2 q3
        obtain ⟨n, rfl, hn8, hgood⟩ := ok_nat hk
        refine WC_draw Ext tb_mix (fun W39 hE40 => ?_)
        replace hB := below_ext hB hE40 (Nat.le_refl _)
        replace hm0_0 := hE40.at hm0_0
        replace hm0_1 := hE40.at hm0_1
        replace ho_hP4_3 := hE40.ow ho_hP4_3
        have hS := Ext.refl W39
        refine WT_take (dd := some 39) 0 rfl (by kernel_rfl) (by kernel_rfl) (by kernel_rfl) rfl rfl rfl (fun _wq _hq => r_move (v := x_hP4_3) rfl) hS ?_
        refine WT_take (dd := some 40) 1 rfl (by kernel_rfl) (by kernel_rfl) (by kernel_rfl) rfl rfl rfl (fun _wq hq => r_loadW rfl tb_ag24 rfl (hq.at hm0_0)) hS ?_
        refine WT_take (dd := some 42) 3 rfl (by kernel_rfl) (by kernel_rfl) (by kernel_rfl) rfl rfl rfl (fun _wq hq => r_loadW rfl tb_ag24 rfl (hq.at hm0_1)) hS ?_
        refine WT_take (dd := some 44) 5 rfl (by kernel_rfl) (by kernel_rfl) (by kernel_rfl) rfl rfl rfl (fun _wq _hq => r_move (v := .int .i64 _) rfl) hS ?_
        refine WT_one (dd := some 41) 2 (by kernel_rfl) rfl rfl rfl rfl (Yd.call (r_call1 tb_c37 (v0 := .agg #[_, _, _, _]) rfl) (C_drawkniferef01_Flags _ _) (fun v7_2 W41 hE42 hP7_2 => ⟨.inl (hS.trans hE42), ?_⟩))
        have hsz43 := (Below.size hB)
        have sv44_hB := hB
        have sv44_hm0_0 := hm0_0
        have sv44_hm0_1 := hm0_1
        have sv44_ho_hP4_3 := ho_hP4_3
        replace hB := below_ext hB hE42 (Nat.le_refl _)
        replace hm0_0 := hE42.at hm0_0
        replace hm0_1 := hE42.at hm0_1
        replace ho_hP4_3 := hE42.ow ho_hP4_3
        replace hS := hS.trans hE42
        clear hE42
        replace hP7_2 := OwT.mono hP7_2 hsz43
        clear hsz43
        refine WT_one (dd := some 43) 4 (by kernel_rfl) rfl rfl rfl rfl (Yd.call (r_call1 tb_c37 (v0 := .agg #[_, _, _, _]) rfl) (C_drawkniferef01_Flags _ _) (fun v7_4 W45 hE46 hP7_4 => ⟨.inl (hS.trans hE46), ?_⟩))
        have hlt47 := OwT.lt2 hP7_2
        have hsz48 := (Below.size hB)
        replace hB := below_ext hB hE46 (Nat.le_refl _)
        replace hm0_0 := hE46.at hm0_0
        replace hm0_1 := hE46.at hm0_1
        replace ho_hP4_3 := hE46.ow ho_hP4_3
        replace hP7_2 := hE46.ow hP7_2
        replace hS := hS.trans hE46
        clear hE46
        have hap49 := Apart.new hlt47 hP7_4
        replace hP7_4 := OwT.mono hP7_4 hsz48
        clear hsz48
        refine WT_one (dd := some 45) 6 (by kernel_rfl) rfl rfl rfl rfl (Yd.call (r_call4 tb_c40 (v0 := v7_2) rfl (v1 := v7_4) rfl (v2 := .int .i64 _) rfl (v3 := .int .i64 0) rfl) (C_coverR n (n + 1) _ _ on m 0 _ hP7_2.sl hP7_4.sl hn8 hgood (by omega) (by omega)) (fun v7_6 W50 hE51 hP7_6 => ⟨.inl (hS.trans hE51), ?_⟩))
        have hlt52 := OwT.lt2 ho_hP4_3
        have hsz53 := (Below.size hB)
        replace hB := below_ext hB hE51 (Nat.le_refl _)
        replace hm0_0 := hE51.at hm0_0
        replace hm0_1 := hE51.at hm0_1
        replace ho_hP4_3 := hE51.ow ho_hP4_3
        replace hP7_2 := hE51.ow hP7_2
        replace hP7_4 := hE51.ow hP7_4
        replace hS := hS.trans hE51
        clear hE51
        have hap54 := Apart.new hlt52 hP7_6
        replace hP7_6 := OwT.mono hP7_6 hsz53
        clear hsz53
        refine WT_one (dd := some 46) 7 (by kernel_rfl) rfl rfl rfl rfl (Yd.call (r_call2 tb_c26 (v0 := x_hP4_3) rfl (v1 := v7_6) rfl) (C_drawkniferef09_Same _ _ _ _ _ ho_hP4_3.sl hP7_6.sl (by have := covL_len (on := on) (may := m) (n := (n : Int)) (by omega); omega)) (fun v7_7 W55 hE56 hP7_7 => ⟨.inl (hS.trans hE56), ?_⟩))
        have hsz57 := (Below.size hB)
        replace hB := below_ext hB hE56 (Nat.le_refl _)
        replace hm0_0 := hE56.at hm0_0
        replace hm0_1 := hE56.at hm0_1
        replace ho_hP4_3 := hE56.ow ho_hP4_3
        replace hP7_2 := hE56.ow hP7_2
        replace hP7_4 := hE56.ow hP7_4
        replace hP7_6 := hE56.ow hP7_6
        replace hS := hS.trans hE56
        clear hE56
        clear hsz57
        obtain rfl := hP7_7
        refine WT_split (dd := some 47) 8 rfl (by kernel_rfl) (by kernel_rfl) (by kernel_rfl) rfl rfl rfl (fun wq hq => r_move (v := .bool _) rfl) hS (fun hs7_8 => ?_) (fun hs7_8 => ?_)
        ·
          try with_reducible replace hs7_8 := of_decide_eq_true hs7_8
          refine WT_take (dd := some 48) 9 rfl (by kernel_rfl) (by kernel_rfl) (by kernel_rfl) rfl rfl rfl (fun _wq _hq => r_move (v := .int .i64 _) rfl) hS ?_
          refine WT_take (dd := some 49) 10 rfl (by kernel_rfl) (by kernel_rfl) (by kernel_rfl) rfl rfl rfl (fun _wq _hq => r_eql rfl rfl) hS ?_
          refine WT_take (dd := some 50) 11 rfl (by kernel_rfl) (by kernel_rfl) (by kernel_rfl) rfl rfl rfl (fun _wq _hq => r_pick_t rfl (v := .bool _) rfl) hS ?_
          refine WT_split (dd := some 51) 12 rfl (by kernel_rfl) (by kernel_rfl) (by kernel_rfl) rfl rfl rfl (fun wq hq => r_move (v := .bool _) rfl) hS (fun hs7_12 => ?_) (fun hs7_12 => ?_)
          ·
            try with_reducible replace hs7_12 := of_decide_eq_true hs7_12
            refine WT_one (dd := some 52) 13 (by kernel_rfl) rfl rfl rfl rfl (Yd.call (r_call0 tb_c34) (C_drawknifelaw12_knows _) (fun v7_13 W58 hE59 hP7_13 => ⟨.inl (hS.trans hE59), ?_⟩))
            have hsz60 := (Below.size hB)
            replace hB := below_ext hB hE59 (Nat.le_refl _)
            replace hm0_0 := hE59.at hm0_0
            replace hm0_1 := hE59.at hm0_1
            replace ho_hP4_3 := hE59.ow ho_hP4_3
            replace hP7_2 := hE59.ow hP7_2
            replace hP7_4 := hE59.ow hP7_4
            replace hP7_6 := hE59.ow hP7_6
            replace hS := hS.trans hE59
            clear hE59
            clear hsz60
            obtain rfl := hP7_13
            refine WT_take (dd := some 53) 14 rfl (by kernel_rfl) (by kernel_rfl) (by kernel_rfl) rfl rfl rfl (fun _wq _hq => r_pick_t rfl (v := .bool _) rfl) hS ?_
            refine WT_take (dd := some 6) 15 rfl (by kernel_rfl) (by kernel_rfl) (by kernel_rfl) rfl rfl rfl (fun _wq _hq => r_assign (v := .bool _) rfl) hS ?_
            refine WT_done (by kernel_rfl) ?_
            try clear sv44_hB sv44_hm0_0 sv44_hm0_1 sv44_ho_hP4_3
            refine hK38 _ _ ?_
            clear hK38 K37
            refine WC_ret ?_
            repeat (first | refine thenQ_ret ?_ | refine blockQ_ret ?_)
            refine ret_t (v := .bool _) rfl ?_
            refine ⟨hB, ?_⟩
            rfl
          ·
            try with_reducible replace hs7_12 := of_decide_eq_false hs7_12
            exact absurd rfl hs7_12
        ·
          try with_reducible replace hs7_8 := of_decide_eq_false hs7_8
          exact absurd rfl hs7_8
  ·
    try with_reducible replace hs2_1 := of_decide_eq_false hs2_1
    refine WL_skip (dd := some 16) rfl rfl rfl ?_
    refine WL_skip (dd := some 17) rfl rfl rfl ?_
    refine WL_val (dd := some 18) rfl rfl rfl (r_pick_f rfl (v := .bool false) rfl) ?_
    refine WL_nil ?_
    refine hK17 _ _ ?_
    clear hK17 K16
    refine WC_cond_false rfl ?_
    refine WC_skip ?_
    refine hK15 _ _ ?_
    clear hK15 K14
    refine WC_seq (fun K61 hK62 => ?_)
    refine WC_region ?_
    refine WL_val (dd := some 21) rfl rfl rfl (r_loadW rfl tb_ag24 rfl hm0_0) ?_
    refine WL_val (dd := some 22) rfl rfl rfl (r_loadW rfl tb_ag24 rfl hm0_1) ?_
    refine WL_val (dd := some 23) rfl rfl rfl (r_move (v := .int .i64 _) rfl) ?_
    refine WL_call (dd := some 24) rfl rfl rfl (r_call3 tb_c39 (v0 := .agg #[_, _, _, _]) rfl (v1 := .agg #[_, _, _, _]) rfl (v2 := .int .i64 _) rfl) (C_isop_Cover _ _ _ _) (fun v4_3 W63 hE64 hP4_3 => ?_)
    have hsz65 := (Below.size hB)
    replace hB := below_ext hB hE64 (Nat.le_refl _)
    replace hm0_0 := hE64.at hm0_0
    replace hm0_1 := hE64.at hm0_1
    clear hE64
    obtain ⟨x_hP4_3, er_hP4_3, l_hP4_3, rfl, ho_hP4_3, hc_hP4_3⟩ := own_res hP4_3
    replace ho_hP4_3 := OwT.mono ho_hP4_3 hsz65
    clear hsz65
    refine WL_val (dd := some 20) rfl rfl rfl (r_move (v := .tuple #[x_hP4_3, .int .i64 _]) rfl) ?_
    refine WL_val (dd := some 25) rfl rfl rfl (r_ext2_0 (h := rfl)) ?_
    refine WL_val (dd := some 26) rfl rfl rfl (r_ext2_1 (h := rfl)) ?_
    refine WL_val (dd := some 8) rfl rfl rfl (r_assign (v := x_hP4_3) rfl) ?_
    refine WL_val (dd := some 9) rfl rfl rfl (r_assign (v := .int .i64 _) rfl) ?_
    refine WL_nil ?_
    refine hK62 _ _ ?_
    clear hK62 K61
    refine WC_seq (fun K66 hK67 => ?_)
    refine WC_seq (fun K68 hK69 => ?_)
    refine WC_region ?_
    refine WL_val (dd := some 27) rfl rfl rfl (r_move (v := .bool _) rfl) ?_
    refine WL_val (dd := some 28) rfl rfl rfl (r_not rfl) ?_
    refine WL_nil ?_
    refine hK69 _ _ ?_
    clear hK69 K68
    refine WC_cond (b := _) rfl (fun hc1 => ?_) (fun hc1 => ?_)
    ·
      try with_reducible replace hc1 := of_decide_eq_true hc1
      refine WC_seq (fun K70 hK71 => ?_)
      have hk : okB on m n = false := by simpa using hc1
      obtain ⟨q2, q3⟩ := hc_hP4_3.elim (fun h => absurd h.1 (by rw [hk]; decide)) (fun h => h.2)
      subst q2 q3
      refine WC_region ?_
      refine WL_val (dd := some 29) rfl rfl rfl (r_move (v := x_hP4_3) rfl) ?_
      refine WL_val (dd := some 30) rfl rfl rfl (r_lenS (v := x_hP4_3) rfl ho_hP4_3.sl tb_el27) ?_
      refine WL_val (dd := some 31) rfl rfl rfl (r_eql rfl rfl) ?_
      refine WL_split (dd := some 32) rfl rfl rfl (r_move (v := .bool _) rfl) (fun hs6_3 => ?_) (fun hs6_3 => ?_)
      ·
        try with_reducible replace hs6_3 := of_decide_eq_true hs6_3
        refine WL_val (dd := some 33) rfl rfl rfl (r_move (v := .int .i64 _) rfl) ?_
        refine WL_val (dd := some 34) rfl rfl rfl (r_eql rfl rfl) ?_
        refine WL_val (dd := some 35) rfl rfl rfl (r_pick_t rfl (v := .bool _) rfl) ?_
        refine WL_split (dd := some 36) rfl rfl rfl (r_move (v := .bool _) rfl) (fun hs6_7 => ?_) (fun hs6_7 => ?_)
        ·
          try with_reducible replace hs6_7 := of_decide_eq_true hs6_7
          refine WL_call (dd := some 37) rfl rfl rfl (r_call0 tb_c34) (C_drawknifelaw12_knows _) (fun v6_8 W72 hE73 hP6_8 => ?_)
          have hsz74 := (Below.size hB)
          replace hB := below_ext hB hE73 (Nat.le_refl _)
          replace hm0_0 := hE73.at hm0_0
          replace hm0_1 := hE73.at hm0_1
          replace ho_hP4_3 := hE73.ow ho_hP4_3
          clear hE73
          clear hsz74
          obtain rfl := hP6_8
          refine WL_val (dd := some 38) rfl rfl rfl (r_pick_t rfl (v := .bool _) rfl) ?_
          refine WL_val (dd := some 6) rfl rfl rfl (r_assign (v := .bool _) rfl) ?_
          refine WL_nil ?_
          refine hK71 _ _ ?_
          clear hK71 K70
          refine WC_ret ?_
          repeat (first | refine thenQ_ret ?_ | refine blockQ_ret ?_)
          try clear hK67 K66
          refine ret_t (v := .bool _) rfl ?_
          refine ⟨hB, ?_⟩
          rfl
        ·
          try with_reducible replace hs6_7 := of_decide_eq_false hs6_7
          exact absurd rfl hs6_7
      ·
        try with_reducible replace hs6_3 := of_decide_eq_false hs6_3
        exact absurd rfl hs6_3
    ·
      try with_reducible replace hc1 := of_decide_eq_false hc1
      refine WC_skip ?_
      refine hK67 _ _ ?_
      clear hK67 K66
      refine WC_seq (fun K75 hK76 => ?_)
      have hk : okB on m n = true := by simpa using hc1
      obtain ⟨q2, q3⟩ := hc_hP4_3.elim (fun h => h.2) (fun h => absurd hk (by rw [h.1]; decide))
      subst q2 q3
      obtain ⟨n, rfl, hn8, hgood⟩ := ok_nat hk
      refine WC_draw Ext tb_mix (fun W77 hE78 => ?_)
      replace hB := below_ext hB hE78 (Nat.le_refl _)
      replace hm0_0 := hE78.at hm0_0
      replace hm0_1 := hE78.at hm0_1
      replace ho_hP4_3 := hE78.ow ho_hP4_3
      have hS := Ext.refl W77
      refine WT_take (dd := some 39) 0 rfl (by kernel_rfl) (by kernel_rfl) (by kernel_rfl) rfl rfl rfl (fun _wq _hq => r_move (v := x_hP4_3) rfl) hS ?_
      refine WT_take (dd := some 40) 1 rfl (by kernel_rfl) (by kernel_rfl) (by kernel_rfl) rfl rfl rfl (fun _wq hq => r_loadW rfl tb_ag24 rfl (hq.at hm0_0)) hS ?_
      refine WT_take (dd := some 42) 3 rfl (by kernel_rfl) (by kernel_rfl) (by kernel_rfl) rfl rfl rfl (fun _wq hq => r_loadW rfl tb_ag24 rfl (hq.at hm0_1)) hS ?_
      refine WT_take (dd := some 44) 5 rfl (by kernel_rfl) (by kernel_rfl) (by kernel_rfl) rfl rfl rfl (fun _wq _hq => r_move (v := .int .i64 _) rfl) hS ?_
      refine WT_one (dd := some 41) 2 (by kernel_rfl) rfl rfl rfl rfl (Yd.call (r_call1 tb_c37 (v0 := .agg #[_, _, _, _]) rfl) (C_drawkniferef01_Flags _ _) (fun v7_2 W79 hE80 hP7_2 => ⟨.inl (hS.trans hE80), ?_⟩))
      have hsz81 := (Below.size hB)
      have sv82_hB := hB
      have sv82_hm0_0 := hm0_0
      have sv82_hm0_1 := hm0_1
      have sv82_ho_hP4_3 := ho_hP4_3
      replace hB := below_ext hB hE80 (Nat.le_refl _)
      replace hm0_0 := hE80.at hm0_0
      replace hm0_1 := hE80.at hm0_1
      replace ho_hP4_3 := hE80.ow ho_hP4_3
      replace hS := hS.trans hE80
      clear hE80
      replace hP7_2 := OwT.mono hP7_2 hsz81
      clear hsz81
      refine WT_one (dd := some 43) 4 (by kernel_rfl) rfl rfl rfl rfl (Yd.call (r_call1 tb_c37 (v0 := .agg #[_, _, _, _]) rfl) (C_drawkniferef01_Flags _ _) (fun v7_4 W83 hE84 hP7_4 => ⟨.inl (hS.trans hE84), ?_⟩))
      have hlt85 := OwT.lt2 hP7_2
      have hsz86 := (Below.size hB)
      replace hB := below_ext hB hE84 (Nat.le_refl _)
      replace hm0_0 := hE84.at hm0_0
      replace hm0_1 := hE84.at hm0_1
      replace ho_hP4_3 := hE84.ow ho_hP4_3
      replace hP7_2 := hE84.ow hP7_2
      replace hS := hS.trans hE84
      clear hE84
      have hap87 := Apart.new hlt85 hP7_4
      replace hP7_4 := OwT.mono hP7_4 hsz86
      clear hsz86
      refine WT_one (dd := some 45) 6 (by kernel_rfl) rfl rfl rfl rfl (Yd.call (r_call4 tb_c40 (v0 := v7_2) rfl (v1 := v7_4) rfl (v2 := .int .i64 _) rfl (v3 := .int .i64 0) rfl) (C_coverR n (n + 1) _ _ on m 0 _ hP7_2.sl hP7_4.sl hn8 hgood (by omega) (by omega)) (fun v7_6 W88 hE89 hP7_6 => ⟨.inl (hS.trans hE89), ?_⟩))
      have hlt90 := OwT.lt2 ho_hP4_3
      have hsz91 := (Below.size hB)
      replace hB := below_ext hB hE89 (Nat.le_refl _)
      replace hm0_0 := hE89.at hm0_0
      replace hm0_1 := hE89.at hm0_1
      replace ho_hP4_3 := hE89.ow ho_hP4_3
      replace hP7_2 := hE89.ow hP7_2
      replace hP7_4 := hE89.ow hP7_4
      replace hS := hS.trans hE89
      clear hE89
      have hap92 := Apart.new hlt90 hP7_6
      replace hP7_6 := OwT.mono hP7_6 hsz91
      clear hsz91
      refine WT_one (dd := some 46) 7 (by kernel_rfl) rfl rfl rfl rfl (Yd.call (r_call2 tb_c26 (v0 := x_hP4_3) rfl (v1 := v7_6) rfl) (C_drawkniferef09_Same _ _ _ _ _ ho_hP4_3.sl hP7_6.sl (by have := covL_len (on := on) (may := m) (n := (n : Int)) (by omega); omega)) (fun v7_7 W93 hE94 hP7_7 => ⟨.inl (hS.trans hE94), ?_⟩))
      have hsz95 := (Below.size hB)
      replace hB := below_ext hB hE94 (Nat.le_refl _)
      replace hm0_0 := hE94.at hm0_0
      replace hm0_1 := hE94.at hm0_1
      replace ho_hP4_3 := hE94.ow ho_hP4_3
      replace hP7_2 := hE94.ow hP7_2
      replace hP7_4 := hE94.ow hP7_4
      replace hP7_6 := hE94.ow hP7_6
      replace hS := hS.trans hE94
      clear hE94
      clear hsz95
      obtain rfl := hP7_7
      refine WT_split (dd := some 47) 8 rfl (by kernel_rfl) (by kernel_rfl) (by kernel_rfl) rfl rfl rfl (fun wq hq => r_move (v := .bool _) rfl) hS (fun hs7_8 => ?_) (fun hs7_8 => ?_)
      ·
        try with_reducible replace hs7_8 := of_decide_eq_true hs7_8
        refine WT_take (dd := some 48) 9 rfl (by kernel_rfl) (by kernel_rfl) (by kernel_rfl) rfl rfl rfl (fun _wq _hq => r_move (v := .int .i64 _) rfl) hS ?_
        refine WT_take (dd := some 49) 10 rfl (by kernel_rfl) (by kernel_rfl) (by kernel_rfl) rfl rfl rfl (fun _wq _hq => r_eql rfl rfl) hS ?_
        refine WT_take (dd := some 50) 11 rfl (by kernel_rfl) (by kernel_rfl) (by kernel_rfl) rfl rfl rfl (fun _wq _hq => r_pick_t rfl (v := .bool _) rfl) hS ?_
        refine WT_split (dd := some 51) 12 rfl (by kernel_rfl) (by kernel_rfl) (by kernel_rfl) rfl rfl rfl (fun wq hq => r_move (v := .bool _) rfl) hS (fun hs7_12 => ?_) (fun hs7_12 => ?_)
        ·
          try with_reducible replace hs7_12 := of_decide_eq_true hs7_12
          refine WT_one (dd := some 52) 13 (by kernel_rfl) rfl rfl rfl rfl (Yd.call (r_call0 tb_c34) (C_drawknifelaw12_knows _) (fun v7_13 W96 hE97 hP7_13 => ⟨.inl (hS.trans hE97), ?_⟩))
          have hsz98 := (Below.size hB)
          replace hB := below_ext hB hE97 (Nat.le_refl _)
          replace hm0_0 := hE97.at hm0_0
          replace hm0_1 := hE97.at hm0_1
          replace ho_hP4_3 := hE97.ow ho_hP4_3
          replace hP7_2 := hE97.ow hP7_2
          replace hP7_4 := hE97.ow hP7_4
          replace hP7_6 := hE97.ow hP7_6
          replace hS := hS.trans hE97
          clear hE97
          clear hsz98
          obtain rfl := hP7_13
          refine WT_take (dd := some 53) 14 rfl (by kernel_rfl) (by kernel_rfl) (by kernel_rfl) rfl rfl rfl (fun _wq _hq => r_pick_t rfl (v := .bool _) rfl) hS ?_
          refine WT_take (dd := some 6) 15 rfl (by kernel_rfl) (by kernel_rfl) (by kernel_rfl) rfl rfl rfl (fun _wq _hq => r_assign (v := .bool _) rfl) hS ?_
          refine WT_done (by kernel_rfl) ?_
          try clear sv82_hB sv82_hm0_0 sv82_hm0_1 sv82_ho_hP4_3
          refine hK76 _ _ ?_
          clear hK76 K75
          refine WC_ret ?_
          repeat (first | refine thenQ_ret ?_ | refine blockQ_ret ?_)
          refine ret_t (v := .bool _) rfl ?_
          refine ⟨hB, ?_⟩
          rfl
        ·
          try with_reducible replace hs7_12 := of_decide_eq_false hs7_12
          exact absurd rfl hs7_12
      ·
        try with_reducible replace hs7_8 := of_decide_eq_false hs7_8
        exact absurd rfl hs7_8

set_option maxRecDepth 10000 in
theorem C_drawknifelaw12_IsopBetween (on m : Nat) (n : Int) (w : World) :
    Fn Try.prog 7 #[setV on, setV m, .int .i64 n] w fun v w' => v = .bool true := by
  refine Fn_intro (n := 61) Try.func7 rfl rfl (Nat.le_of_ble_eq_true rfl) ?_
  have hB : Below w.heap.size w w := Below.refl _ _
  refine WC_seq (fun K1 hK2 => ?_)
  refine WC_region ?_
  refine WL_step (dd := some 3) rfl rfl rfl (Y_box (c := #[_, _, _, _]) rfl rfl (fun b0_0 W3 hb4 hE5 hm0_0 => ?_))
  have lo_b0_0 : w.heap.size ≤ b0_0 := hb4 ▸ (Below.size hB)
  clear hb4
  replace hB := below_ext hB hE5 (Nat.le_refl _)
  clear hE5
  refine WL_step (dd := some 4) rfl rfl rfl (Y_box (c := #[_, _, _, _]) rfl rfl (fun b0_1 W6 hb7 hE8 hm0_1 => ?_))
  have lo_b0_1 : w.heap.size ≤ b0_1 := hb7 ▸ (Below.size hB)
  have ne_b0_0_b0_1 : b0_0 ≠ b0_1 := Nat.ne_of_lt (hb7 ▸ hm0_0.lt)
  clear hb7
  replace hB := below_ext hB hE8 (Nat.le_refl _)
  replace hm0_0 := hE8.at hm0_0
  clear hE8
  refine WL_val (dd := some 6) rfl rfl rfl (r_assign (v := .bool false) rfl) ?_
  refine WL_nil ?_
  refine hK2 _ _ ?_
  clear hK2 K1
  refine WC_seq (fun K9 hK10 => ?_)
  refine WC_seq (fun K11 hK12 => ?_)
  refine WC_region ?_
  refine WL_val (dd := some 12) rfl rfl rfl (r_loadW rfl tb_ag24 rfl hm0_0) ?_
  refine WL_val (dd := some 13) rfl rfl rfl (r_loadW rfl tb_ag24 rfl hm0_1) ?_
  refine WL_val (dd := some 14) rfl rfl rfl (r_move (v := .int .i64 _) rfl) ?_
  refine WL_call (dd := some 15) rfl rfl rfl (r_call3 tb_c38 (v0 := .agg #[_, _, _, _]) rfl (v1 := .agg #[_, _, _, _]) rfl (v2 := .int .i64 _) rfl) (C_drawknifelaw12_may _ _ _ _) (fun v1_3 W13 hE14 hP1_3 => ?_)
  have hsz15 := (Below.size hB)
  replace hB := below_ext hB hE14 (Nat.le_refl _)
  replace hm0_0 := hE14.at hm0_0
  replace hm0_1 := hE14.at hm0_1
  clear hE14
  clear hsz15
  obtain rfl := hP1_3
  refine WL_val (dd := some 16) rfl rfl rfl (r_not rfl) ?_
  refine WL_nil ?_
  refine hK12 _ _ ?_
  clear hK12 K11
  refine WC_cond (b := _) rfl (fun hc0 => ?_) (fun hc0 => ?_)
  ·
    try with_reducible replace hc0 := of_decide_eq_true hc0
    refine WC_seq (fun K16 hK17 => ?_)
    refine WC_region ?_
    refine WL_call (dd := some 17) rfl rfl rfl (r_call0 tb_c34) (C_drawknifelaw12_knows _) (fun v2_0 W18 hE19 hP2_0 => ?_)
    have hsz20 := (Below.size hB)
    replace hB := below_ext hB hE19 (Nat.le_refl _)
    replace hm0_0 := hE19.at hm0_0
    replace hm0_1 := hE19.at hm0_1
    clear hE19
    clear hsz20
    obtain rfl := hP2_0
    refine WL_val (dd := some 6) rfl rfl rfl (r_assign (v := .bool _) rfl) ?_
    refine WL_nil ?_
    refine hK17 _ _ ?_
    clear hK17 K16
    refine WC_ret ?_
    repeat (first | refine thenQ_ret ?_ | refine blockQ_ret ?_)
    try clear hK10 K9
    refine ret_t (v := .bool _) rfl ?_
    refine ⟨hB, ?_⟩
    rfl
  ·
    try with_reducible replace hc0 := of_decide_eq_false hc0
    refine WC_skip ?_
    refine hK10 _ _ ?_
    clear hK10 K9
    refine WC_seq (fun K21 hK22 => ?_)
    have hk : okB on m n = true := by simpa using hc0
    obtain ⟨h0, h8⟩ := of_bounds (okB_iff.1 hk).1
    have hl1 := covL_len (on := on) (may := m) h8
    have hl2 := covL_len (on := on) (may := on) h8
    refine WC_region ?_
    refine WL_val (dd := some 19) rfl rfl rfl (r_loadW rfl tb_ag24 rfl hm0_0) ?_
    refine WL_val (dd := some 20) rfl rfl rfl (r_loadW rfl tb_ag24 rfl hm0_1) ?_
    refine WL_val (dd := some 21) rfl rfl rfl (r_move (v := .int .i64 _) rfl) ?_
    refine WL_call (dd := some 22) rfl rfl rfl (r_call3 tb_c39 (v0 := .agg #[_, _, _, _]) rfl (v1 := .agg #[_, _, _, _]) rfl (v2 := .int .i64 _) rfl) (C_isop_Cover _ _ _ _) (fun v3_3 W23 hE24 hP3_3 => ?_)
    have hsz25 := (Below.size hB)
    replace hB := below_ext hB hE24 (Nat.le_refl _)
    replace hm0_0 := hE24.at hm0_0
    replace hm0_1 := hE24.at hm0_1
    clear hE24
    obtain ⟨x_hP3_3, er_hP3_3, l_hP3_3, rfl, ho_hP3_3, hc_hP3_3⟩ := own_res hP3_3
    replace ho_hP3_3 := OwT.mono ho_hP3_3 hsz25
    clear hsz25
    refine WL_val (dd := some 18) rfl rfl rfl (r_move (v := .tuple #[x_hP3_3, .int .i64 _]) rfl) ?_
    refine WL_val (dd := some 23) rfl rfl rfl (r_ext2_0 (h := rfl)) ?_
    refine WL_val (dd := some 24) rfl rfl rfl (r_ext2_1 (h := rfl)) ?_
    refine WL_val (dd := some 7) rfl rfl rfl (r_assign (v := x_hP3_3) rfl) ?_
    refine WL_val (dd := some 8) rfl rfl rfl (r_assign (v := .int .i64 _) rfl) ?_
    refine WL_nil ?_
    refine hK22 _ _ ?_
    clear hK22 K21
    refine WC_seq (fun K26 hK27 => ?_)
    obtain ⟨q2, q3⟩ := hc_hP3_3.elim (fun h => h.2) (fun h => absurd hk (by rw [h.1]; decide))
    subst q2 q3
    refine WC_region ?_
    refine WL_val (dd := some 25) rfl rfl rfl (r_move (v := x_hP3_3) rfl) ?_
    refine WL_val (dd := some 26) rfl rfl rfl (r_move (v := .int .i64 _) rfl) ?_
    refine WL_call (dd := some 27) rfl rfl rfl (r_call3 tb_c41 (v0 := x_hP3_3) rfl (v1 := .int .i64 _) rfl (v2 := .int .i64 _) rfl) (C_drawknifelaw12_points _ _ _ _ _ ho_hP3_3.sl (by omega) (by omega) (by first | assumption | exact cov_b (by assumption) | exact gro_b (by assumption) | exact cov_b (ok_same (by assumption))) (by omega)) (fun v4_2 W28 hE29 hP4_2 => ?_)
    have hsz30 := (Below.size hB)
    replace hB := below_ext hB hE29 (Nat.le_refl _)
    replace hm0_0 := hE29.at hm0_0
    replace hm0_1 := hE29.at hm0_1
    replace ho_hP3_3 := hE29.ow ho_hP3_3
    clear hE29
    clear hsz30
    obtain rfl := hP4_2
    refine WL_step (dd := some 9) rfl rfl rfl (Y_alloc tb_z24 rfl (fun b4_3 W31 hb32 hE33 hm4_3 => ?_))
    have lo_b4_3 : w.heap.size ≤ b4_3 := hb32 ▸ (Below.size hB)
    have ne_b0_0_b4_3 : b0_0 ≠ b4_3 := Nat.ne_of_lt (hb32 ▸ hm0_0.lt)
    have ne_b0_1_b4_3 : b0_1 ≠ b4_3 := Nat.ne_of_lt (hb32 ▸ hm0_1.lt)
    clear hb32
    replace hB := below_ext hB hE33 (Nat.le_refl _)
    replace hm0_0 := hE33.at hm0_0
    replace hm0_1 := hE33.at hm0_1
    replace ho_hP3_3 := hE33.ow ho_hP3_3
    clear hE33
    replace hm4_3 : At W31 b4_3 #[wv 0 0, wv 0 1, wv 0 2, wv 0 3] 24 := hm4_3
    refine WL_step (dd := none) rfl rfl rfl (Y_storeW rfl rfl tb_ag24 rfl hm4_3 rfl (by rfl) (fun W34 hG35 hm36 => ?_))
    replace hB := below_grown hB hG35 (Nat.le_refl _) (fun j hj => by cases hj; exact lo_b4_3)
    replace hm0_0 := At.grownNe hm0_0 ne_b0_0_b4_3 hG35
    replace hm0_1 := At.grownNe hm0_1 ne_b0_1_b4_3 hG35
    replace ho_hP3_3 := OwT.grownAt ho_hP3_3 hm4_3 hG35 (by decide)
    clear hG35 hm4_3
    have hm4_3 := hm36
    clear hm36
    refine WL_nil ?_
    refine hK27 _ _ ?_
    clear hK27 K26
    refine WC_seq (fun K37 hK38 => ?_)
    refine WC_region ?_
    refine WL_val (dd := some 29) rfl rfl rfl (r_loadW rfl tb_ag24 rfl hm0_0) ?_
    refine WL_val (dd := some 30) rfl rfl rfl (r_loadW rfl tb_ag24 rfl hm0_0) ?_
    refine WL_val (dd := some 31) rfl rfl rfl (r_move (v := .int .i64 _) rfl) ?_
    refine WL_call (dd := some 32) rfl rfl rfl (r_call3 tb_c39 (v0 := .agg #[_, _, _, _]) rfl (v1 := .agg #[_, _, _, _]) rfl (v2 := .int .i64 _) rfl) (C_isop_Cover _ _ _ _) (fun v5_3 W39 hE40 hP5_3 => ?_)
    have hlt41 := OwT.lt2 ho_hP3_3
    have hsz42 := (Below.size hB)
    replace hB := below_ext hB hE40 (Nat.le_refl _)
    replace hm0_0 := hE40.at hm0_0
    replace hm0_1 := hE40.at hm0_1
    replace ho_hP3_3 := hE40.ow ho_hP3_3
    replace hm4_3 := hE40.at hm4_3
    clear hE40
    obtain ⟨x_hP5_3, er_hP5_3, l_hP5_3, rfl, ho_hP5_3, hc_hP5_3⟩ := own_res hP5_3
    replace ho_hP5_3 := OwT.mono ho_hP5_3 hsz42
    clear hsz42
    refine WL_val (dd := some 28) rfl rfl rfl (r_move (v := .tuple #[x_hP5_3, .int .i64 _]) rfl) ?_
    refine WL_val (dd := some 33) rfl rfl rfl (r_ext2_0 (h := rfl)) ?_
    refine WL_val (dd := some 34) rfl rfl rfl (r_ext2_1 (h := rfl)) ?_
    refine WL_val (dd := some 10) rfl rfl rfl (r_assign (v := x_hP5_3) rfl) ?_
    refine WL_val (dd := some 11) rfl rfl rfl (r_assign (v := .int .i64 _) rfl) ?_
    refine WL_nil ?_
    refine hK38 _ _ ?_
    clear hK38 K37
    refine WC_seq (fun K43 hK44 => ?_)
    obtain ⟨q2, q3⟩ := hc_hP5_3.elim (fun h => h.2) (fun h => absurd (ok_same hk) (by rw [h.1]; decide))
    subst q2 q3
    refine WC_draw Ext tb_mix (fun W45 hE46 => ?_)
    replace hB := below_ext hB hE46 (Nat.le_refl _)
    replace hm0_0 := hE46.at hm0_0
    replace hm0_1 := hE46.at hm0_1
    replace ho_hP3_3 := hE46.ow ho_hP3_3
    replace hm4_3 := hE46.at hm4_3
    replace ho_hP5_3 := hE46.ow ho_hP5_3
    have hS := Ext.refl W45
    refine WT_take (dd := some 35) 0 rfl (by kernel_rfl) (by kernel_rfl) (by kernel_rfl) rfl rfl rfl (fun _wq _hq => r_move (v := .int .i64 _) rfl) hS ?_
    refine WT_take (dd := some 36) 1 rfl (by kernel_rfl) (by kernel_rfl) (by kernel_rfl) rfl rfl rfl (fun _wq _hq => r_eql rfl rfl) hS ?_
    refine WT_split (dd := some 37) 2 rfl (by kernel_rfl) (by kernel_rfl) (by kernel_rfl) rfl rfl rfl (fun wq hq => r_move (v := .bool _) rfl) hS (fun hs6_2 => ?_) (fun hs6_2 => ?_)
    ·
      try with_reducible replace hs6_2 := of_decide_eq_true hs6_2
      refine WT_take (dd := some 38) 3 rfl (by kernel_rfl) (by kernel_rfl) (by kernel_rfl) rfl rfl rfl (fun _wq _hq => r_move (v := .int .i64 _) rfl) hS ?_
      refine WT_take (dd := some 39) 4 rfl (by kernel_rfl) (by kernel_rfl) (by kernel_rfl) rfl rfl rfl (fun _wq _hq => r_eql rfl rfl) hS ?_
      refine WT_take (dd := some 40) 5 rfl (by kernel_rfl) (by kernel_rfl) (by kernel_rfl) rfl rfl rfl (fun _wq _hq => r_pick_t rfl (v := .bool _) rfl) hS ?_
      refine WT_split (dd := some 41) 6 rfl (by kernel_rfl) (by kernel_rfl) (by kernel_rfl) rfl rfl rfl (fun wq hq => r_move (v := .bool _) rfl) hS (fun hs6_6 => ?_) (fun hs6_6 => ?_)
      ·
        try with_reducible replace hs6_6 := of_decide_eq_true hs6_6
        refine WT_take (dd := some 42) 7 rfl (by kernel_rfl) (by kernel_rfl) (by kernel_rfl) rfl rfl rfl (fun _wq hq => r_loadW rfl tb_ag24 rfl (hq.at hm0_0)) hS ?_
        refine WT_take (dd := some 43) 8 rfl (by kernel_rfl) (by kernel_rfl) (by kernel_rfl) rfl rfl rfl (fun _wq hq => r_loadW rfl tb_ag24 rfl (hq.at hm4_3)) hS ?_
        refine WT_one (dd := some 44) 9 (by kernel_rfl) rfl rfl rfl rfl (Yd.call (r_call2 tb_c42 (v0 := .agg #[_, _, _, _]) rfl (v1 := .agg #[_, _, _, _]) rfl) (C_drawkniferef01_Within _ _ _) (fun v6_9 W47 hE48 hP6_9 => ⟨.inl (hS.trans hE48), ?_⟩))
        have hsz49 := (Below.size hB)
        have sv50_hB := hB
        have sv50_hm0_0 := hm0_0
        have sv50_hm0_1 := hm0_1
        have sv50_ho_hP3_3 := ho_hP3_3
        have sv50_hm4_3 := hm4_3
        have sv50_ho_hP5_3 := ho_hP5_3
        replace hB := below_ext hB hE48 (Nat.le_refl _)
        replace hm0_0 := hE48.at hm0_0
        replace hm0_1 := hE48.at hm0_1
        replace ho_hP3_3 := hE48.ow ho_hP3_3
        replace hm4_3 := hE48.at hm4_3
        replace ho_hP5_3 := hE48.ow ho_hP5_3
        replace hS := hS.trans hE48
        clear hE48
        clear hsz49
        obtain rfl := hP6_9
        refine WT_take (dd := some 45) 10 rfl (by kernel_rfl) (by kernel_rfl) (by kernel_rfl) rfl rfl rfl (fun _wq _hq => r_pick_t rfl (v := .bool _) rfl) hS ?_
        refine WT_split (dd := some 46) 11 rfl (by kernel_rfl) (by kernel_rfl) (by kernel_rfl) rfl rfl rfl (fun wq hq => r_move (v := .bool _) rfl) hS (fun hs6_11 => ?_) (fun hs6_11 => ?_)
        ·
          try with_reducible replace hs6_11 := of_decide_eq_true hs6_11
          refine WT_take (dd := some 47) 12 rfl (by kernel_rfl) (by kernel_rfl) (by kernel_rfl) rfl rfl rfl (fun _wq hq => r_loadW rfl tb_ag24 rfl (hq.at sv50_hm4_3)) hS ?_
          refine WT_take (dd := some 48) 13 rfl (by kernel_rfl) (by kernel_rfl) (by kernel_rfl) rfl rfl rfl (fun _wq hq => r_loadW rfl tb_ag24 rfl (hq.at sv50_hm0_1)) hS ?_
          refine WT_one (dd := some 49) 14 (by kernel_rfl) rfl rfl rfl rfl (Yd.call (r_call2 tb_c42 (v0 := .agg #[_, _, _, _]) rfl (v1 := .agg #[_, _, _, _]) rfl) (C_drawkniferef01_Within _ _ _) (fun v6_14 W51 hE52 hP6_14 => ⟨.inl (hS.trans hE52), ?_⟩))
          have hsz53 := (Below.size hB)
          replace hB := below_ext hB hE52 (Nat.le_refl _)
          replace hm0_0 := hE52.at hm0_0
          replace hm0_1 := hE52.at hm0_1
          replace ho_hP3_3 := hE52.ow ho_hP3_3
          replace hm4_3 := hE52.at hm4_3
          replace ho_hP5_3 := hE52.ow ho_hP5_3
          replace hS := hS.trans hE52
          clear hE52
          clear hsz53
          obtain rfl := hP6_14
          refine WT_take (dd := some 50) 15 rfl (by kernel_rfl) (by kernel_rfl) (by kernel_rfl) rfl rfl rfl (fun _wq _hq => r_pick_t rfl (v := .bool _) rfl) hS ?_
          refine WT_split (dd := some 51) 16 rfl (by kernel_rfl) (by kernel_rfl) (by kernel_rfl) rfl rfl rfl (fun wq hq => r_move (v := .bool _) rfl) hS (fun hs6_16 => ?_) (fun hs6_16 => ?_)
          ·
            try with_reducible replace hs6_16 := of_decide_eq_true hs6_16
            refine WT_take (dd := some 52) 17 rfl (by kernel_rfl) (by kernel_rfl) (by kernel_rfl) rfl rfl rfl (fun _wq _hq => r_move (v := x_hP5_3) rfl) hS ?_
            refine WT_take (dd := some 53) 18 rfl (by kernel_rfl) (by kernel_rfl) (by kernel_rfl) rfl rfl rfl (fun _wq _hq => r_move (v := .int .i64 _) rfl) hS ?_
            refine WT_take (dd := some 55) 20 rfl (by kernel_rfl) (by kernel_rfl) (by kernel_rfl) rfl rfl rfl (fun _wq hq => r_loadW rfl tb_ag24 rfl (hq.at sv50_hm0_0)) hS ?_
            refine WT_one (dd := some 54) 19 (by kernel_rfl) rfl rfl rfl rfl (Yd.call (r_call3 tb_c41 (v0 := x_hP5_3) rfl (v1 := .int .i64 _) rfl (v2 := .int .i64 _) rfl) (C_drawknifelaw12_points _ _ _ _ _ ho_hP5_3.sl (by omega) (by omega) (by first | assumption | exact cov_b (by assumption) | exact gro_b (by assumption) | exact cov_b (ok_same (by assumption))) (by omega)) (fun v6_19 W54 hE55 hP6_19 => ⟨.inl (hS.trans hE55), ?_⟩))
            have hsz56 := (Below.size hB)
            replace hB := below_ext hB hE55 (Nat.le_refl _)
            replace hm0_0 := hE55.at hm0_0
            replace hm0_1 := hE55.at hm0_1
            replace ho_hP3_3 := hE55.ow ho_hP3_3
            replace hm4_3 := hE55.at hm4_3
            replace ho_hP5_3 := hE55.ow ho_hP5_3
            replace hS := hS.trans hE55
            clear hE55
            clear hsz56
            obtain rfl := hP6_19
            refine WT_take (dd := some 56) 21 rfl (by kernel_rfl) (by kernel_rfl) (by kernel_rfl) rfl rfl rfl (fun _wq _hq => tb_eq24 rfl rfl) hS ?_
            refine WT_take (dd := some 57) 22 rfl (by kernel_rfl) (by kernel_rfl) (by kernel_rfl) rfl rfl rfl (fun _wq _hq => r_pick_t rfl (v := .bool _) rfl) hS ?_
            refine WT_split (dd := some 58) 23 rfl (by kernel_rfl) (by kernel_rfl) (by kernel_rfl) rfl rfl rfl (fun wq hq => r_move (v := .bool _) rfl) hS (fun hs6_23 => ?_) (fun hs6_23 => ?_)
            ·
              try with_reducible replace hs6_23 := of_decide_eq_true hs6_23
              refine WT_one (dd := some 59) 24 (by kernel_rfl) rfl rfl rfl rfl (Yd.call (r_call0 tb_c34) (C_drawknifelaw12_knows _) (fun v6_24 W57 hE58 hP6_24 => ⟨.inl (hS.trans hE58), ?_⟩))
              have hsz59 := (Below.size hB)
              replace hB := below_ext hB hE58 (Nat.le_refl _)
              replace hm0_0 := hE58.at hm0_0
              replace hm0_1 := hE58.at hm0_1
              replace ho_hP3_3 := hE58.ow ho_hP3_3
              replace hm4_3 := hE58.at hm4_3
              replace ho_hP5_3 := hE58.ow ho_hP5_3
              replace hS := hS.trans hE58
              clear hE58
              clear hsz59
              obtain rfl := hP6_24
              refine WT_take (dd := some 60) 25 rfl (by kernel_rfl) (by kernel_rfl) (by kernel_rfl) rfl rfl rfl (fun _wq _hq => r_pick_t rfl (v := .bool _) rfl) hS ?_
              refine WT_take (dd := some 6) 26 rfl (by kernel_rfl) (by kernel_rfl) (by kernel_rfl) rfl rfl rfl (fun _wq _hq => r_assign (v := .bool _) rfl) hS ?_
              refine WT_done (by kernel_rfl) ?_
              try clear sv50_hB sv50_hm0_0 sv50_hm0_1 sv50_ho_hP3_3 sv50_hm4_3 sv50_ho_hP5_3
              refine hK44 _ _ ?_
              clear hK44 K43
              refine WC_ret ?_
              repeat (first | refine thenQ_ret ?_ | refine blockQ_ret ?_)
              refine ret_t (v := .bool _) rfl ?_
              refine ⟨hB, ?_⟩
              rfl
            ·
              try with_reducible replace hs6_23 := of_decide_eq_false hs6_23
              exact absurd (eqS_int (pts_same hk)) hs6_23
          ·
            try with_reducible replace hs6_16 := of_decide_eq_false hs6_16
            exact absurd (pts_may hk) (by rw [hs6_16]; decide)
        ·
          try with_reducible replace hs6_11 := of_decide_eq_false hs6_11
          exact absurd (pts_on hk) (by rw [hs6_11]; decide)
      ·
        try with_reducible replace hs6_6 := of_decide_eq_false hs6_6
        exact absurd rfl hs6_6
    ·
      try with_reducible replace hs6_2 := of_decide_eq_false hs6_2
      exact absurd rfl hs6_2

theorem C_drawknifelaw12_IsopNone (on m : Nat) (n : Int) (q : Nat) (w : World) (hq : q < 256) :
    Fn Try.prog 8 #[setV on, setV m, .int .i64 n, .int .u8 (q : Int)] w fun v w' => v = .bool true := by
  refine Fn_intro (n := 49) Try.func8 rfl rfl (Nat.le_of_ble_eq_true rfl) ?_
  have hB : Below w.heap.size w w := Below.refl _ _
  refine WC_seq (fun K1 hK2 => ?_)
  refine WC_region ?_
  refine WL_step (dd := some 4) rfl rfl rfl (Y_box (c := #[_, _, _, _]) rfl rfl (fun b0_0 W3 hb4 hE5 hm0_0 => ?_))
  have lo_b0_0 : w.heap.size ≤ b0_0 := hb4 ▸ (Below.size hB)
  clear hb4
  replace hB := below_ext hB hE5 (Nat.le_refl _)
  clear hE5
  refine WL_step (dd := some 5) rfl rfl rfl (Y_box (c := #[_, _, _, _]) rfl rfl (fun b0_1 W6 hb7 hE8 hm0_1 => ?_))
  have lo_b0_1 : w.heap.size ≤ b0_1 := hb7 ▸ (Below.size hB)
  have ne_b0_0_b0_1 : b0_0 ≠ b0_1 := Nat.ne_of_lt (hb7 ▸ hm0_0.lt)
  clear hb7
  replace hB := below_ext hB hE8 (Nat.le_refl _)
  replace hm0_0 := hE8.at hm0_0
  clear hE8
  refine WL_val (dd := some 8) rfl rfl rfl (r_assign (v := .bool false) rfl) ?_
  refine WL_nil ?_
  refine hK2 _ _ ?_
  clear hK2 K1
  refine WC_seq (fun K9 hK10 => ?_)
  refine WC_seq (fun K11 hK12 => ?_)
  refine WC_region ?_
  refine WL_val (dd := some 11) rfl rfl rfl (r_loadW rfl tb_ag24 rfl hm0_0) ?_
  refine WL_val (dd := some 12) rfl rfl rfl (r_loadW rfl tb_ag24 rfl hm0_1) ?_
  refine WL_val (dd := some 13) rfl rfl rfl (r_move (v := .int .i64 _) rfl) ?_
  refine WL_call (dd := some 14) rfl rfl rfl (r_call3 tb_c38 (v0 := .agg #[_, _, _, _]) rfl (v1 := .agg #[_, _, _, _]) rfl (v2 := .int .i64 _) rfl) (C_drawknifelaw12_may _ _ _ _) (fun v1_3 W13 hE14 hP1_3 => ?_)
  have hsz15 := (Below.size hB)
  replace hB := below_ext hB hE14 (Nat.le_refl _)
  replace hm0_0 := hE14.at hm0_0
  replace hm0_1 := hE14.at hm0_1
  clear hE14
  clear hsz15
  obtain rfl := hP1_3
  refine WL_val (dd := some 15) rfl rfl rfl (r_not rfl) ?_
  refine WL_nil ?_
  refine hK12 _ _ ?_
  clear hK12 K11
  refine WC_cond (b := _) rfl (fun hc0 => ?_) (fun hc0 => ?_)
  ·
    try with_reducible replace hc0 := of_decide_eq_true hc0
    refine WC_seq (fun K16 hK17 => ?_)
    refine WC_region ?_
    refine WL_call (dd := some 16) rfl rfl rfl (r_call0 tb_c34) (C_drawknifelaw12_knows _) (fun v2_0 W18 hE19 hP2_0 => ?_)
    have hsz20 := (Below.size hB)
    replace hB := below_ext hB hE19 (Nat.le_refl _)
    replace hm0_0 := hE19.at hm0_0
    replace hm0_1 := hE19.at hm0_1
    clear hE19
    clear hsz20
    obtain rfl := hP2_0
    refine WL_val (dd := some 8) rfl rfl rfl (r_assign (v := .bool _) rfl) ?_
    refine WL_nil ?_
    refine hK17 _ _ ?_
    clear hK17 K16
    refine WC_ret ?_
    repeat (first | refine thenQ_ret ?_ | refine blockQ_ret ?_)
    try clear hK10 K9
    refine ret_t (v := .bool _) rfl ?_
    refine ⟨hB, ?_⟩
    rfl
  ·
    try with_reducible replace hc0 := of_decide_eq_false hc0
    refine WC_skip ?_
    refine hK10 _ _ ?_
    clear hK10 K9
    refine WC_seq (fun K21 hK22 => ?_)
    have hk : okB on m n = true := by simpa using hc0
    obtain ⟨h0, h8⟩ := of_bounds (okB_iff.1 hk).1
    have hl1 := covL_len (on := on) (may := m) h8
    refine WC_region ?_
    refine WL_val (dd := some 18) rfl rfl rfl (r_loadW rfl tb_ag24 rfl hm0_0) ?_
    refine WL_val (dd := some 19) rfl rfl rfl (r_loadW rfl tb_ag24 rfl hm0_1) ?_
    refine WL_val (dd := some 20) rfl rfl rfl (r_move (v := .int .i64 _) rfl) ?_
    refine WL_call (dd := some 21) rfl rfl rfl (r_call3 tb_c39 (v0 := .agg #[_, _, _, _]) rfl (v1 := .agg #[_, _, _, _]) rfl (v2 := .int .i64 _) rfl) (C_isop_Cover _ _ _ _) (fun v3_3 W23 hE24 hP3_3 => ?_)
    have hsz25 := (Below.size hB)
    replace hB := below_ext hB hE24 (Nat.le_refl _)
    replace hm0_0 := hE24.at hm0_0
    replace hm0_1 := hE24.at hm0_1
    clear hE24
    obtain ⟨x_hP3_3, er_hP3_3, l_hP3_3, rfl, ho_hP3_3, hc_hP3_3⟩ := own_res hP3_3
    replace ho_hP3_3 := OwT.mono ho_hP3_3 hsz25
    clear hsz25
    refine WL_val (dd := some 17) rfl rfl rfl (r_move (v := .tuple #[x_hP3_3, .int .i64 _]) rfl) ?_
    refine WL_val (dd := some 22) rfl rfl rfl (r_ext2_0 (h := rfl)) ?_
    refine WL_val (dd := some 23) rfl rfl rfl (r_ext2_1 (h := rfl)) ?_
    refine WL_val (dd := some 9) rfl rfl rfl (r_assign (v := x_hP3_3) rfl) ?_
    refine WL_val (dd := some 10) rfl rfl rfl (r_assign (v := .int .i64 _) rfl) ?_
    refine WL_nil ?_
    refine hK22 _ _ ?_
    clear hK22 K21
    refine WC_seq (fun K26 hK27 => ?_)
    refine WC_seq (fun K28 hK29 => ?_)
    obtain ⟨q2, q3⟩ := hc_hP3_3.elim (fun h => h.2) (fun h => absurd hk (by rw [h.1]; decide))
    subst q2 q3
    refine WC_region ?_
    refine WL_val (dd := some 24) rfl rfl rfl (r_move (v := .int .i64 _) rfl) ?_
    refine WL_val (dd := some 25) rfl rfl rfl (r_neq rfl rfl) ?_
    refine WL_nil ?_
    refine hK29 _ _ ?_
    clear hK29 K28
    refine WC_cond (b := _) rfl (fun hc1 => ?_) (fun hc1 => ?_)
    ·
      try with_reducible replace hc1 := of_decide_eq_true hc1
      exact absurd rfl hc1
    ·
      try with_reducible replace hc1 := of_decide_eq_false hc1
      refine WC_skip ?_
      refine hK27 _ _ ?_
      clear hK27 K26
      refine WC_seq (fun K30 hK31 => ?_)
      refine WC_seq (fun K32 hK33 => ?_)
      refine WC_region ?_
      refine WL_val (dd := some 26) rfl rfl rfl (r_move (v := x_hP3_3) rfl) ?_
      refine WL_val (dd := some 27) rfl rfl rfl (r_lenS (v := x_hP3_3) rfl ho_hP3_3.sl tb_el27) ?_
      refine WL_val (dd := some 28) rfl rfl rfl (r_eql rfl rfl) ?_
      refine WL_nil ?_
      refine hK33 _ _ ?_
      clear hK33 K32
      refine WC_cond (b := _) rfl (fun hc2 => ?_) (fun hc2 => ?_)
      ·
        try with_reducible replace hc2 := of_decide_eq_true hc2
        refine WC_seq (fun K34 hK35 => ?_)
        refine WC_region ?_
        refine WL_val (dd := some 29) rfl rfl rfl (r_loadW rfl tb_ag24 rfl hm0_0) ?_
        refine WL_val (dd := some 30) (v := setV 0) rfl rfl rfl (tb_build24_ ) ?_
        refine WL_val (dd := some 31) rfl rfl rfl (tb_eq24 rfl rfl) ?_
        refine WL_split (dd := some 32) rfl rfl rfl (r_move (v := .bool _) rfl) (fun hs7_3 => ?_) (fun hs7_3 => ?_)
        ·
          try with_reducible replace hs7_3 := of_decide_eq_true hs7_3
          refine WL_call (dd := some 33) rfl rfl rfl (r_call0 tb_c34) (C_drawknifelaw12_knows _) (fun v7_4 W36 hE37 hP7_4 => ?_)
          have hsz38 := (Below.size hB)
          replace hB := below_ext hB hE37 (Nat.le_refl _)
          replace hm0_0 := hE37.at hm0_0
          replace hm0_1 := hE37.at hm0_1
          replace ho_hP3_3 := hE37.ow ho_hP3_3
          clear hE37
          clear hsz38
          obtain rfl := hP7_4
          refine WL_val (dd := some 34) rfl rfl rfl (r_pick_t rfl (v := .bool _) rfl) ?_
          refine WL_val (dd := some 8) rfl rfl rfl (r_assign (v := .bool _) rfl) ?_
          refine WL_nil ?_
          refine hK35 _ _ ?_
          clear hK35 K34
          refine WC_ret ?_
          repeat (first | refine thenQ_ret ?_ | refine blockQ_ret ?_)
          try clear hK31 K30
          refine ret_t (v := .bool _) rfl ?_
          refine ⟨hB, ?_⟩
          rfl
        ·
          try with_reducible replace hs7_3 := of_decide_eq_false hs7_3
          exact absurd (eqS_int (cov_none hk (by omega))) hs7_3
      ·
        try with_reducible replace hc2 := of_decide_eq_false hc2
        refine WC_skip ?_
        refine hK31 _ _ ?_
        clear hK31 K30
        refine WC_seq (fun K39 hK40 => ?_)
        refine WC_draw Ext tb_mix (fun W41 hE42 => ?_)
        replace hB := below_ext hB hE42 (Nat.le_refl _)
        replace hm0_0 := hE42.at hm0_0
        replace hm0_1 := hE42.at hm0_1
        replace ho_hP3_3 := hE42.ow ho_hP3_3
        have hS := Ext.refl W41
        refine WT_take (dd := some 35) 0 rfl (by kernel_rfl) (by kernel_rfl) (by kernel_rfl) rfl rfl rfl (fun _wq hq => r_loadW rfl tb_ag24 rfl (hq.at hm0_0)) hS ?_
        refine WT_take (dd := some 36) 1 rfl (by kernel_rfl) (by kernel_rfl) (by kernel_rfl) rfl rfl rfl (fun _wq _hq => r_move (v := x_hP3_3) rfl) hS ?_
        refine WT_take (dd := some 37) 2 rfl (by kernel_rfl) (by kernel_rfl) (by kernel_rfl) rfl rfl rfl (fun _wq _hq => r_move (v := .int .i64 _) rfl) hS ?_
        refine WT_take (dd := some 38) 3 rfl (by kernel_rfl) (by kernel_rfl) (by kernel_rfl) rfl rfl rfl (fun _wq _hq => r_move (v := .int .u8 _) rfl) hS ?_
        refine WT_take (dd := some 39) 4 rfl (by kernel_rfl) (by kernel_rfl) (by kernel_rfl) rfl rfl rfl (fun _wq _hq => r_convN rfl Try.underlying5 Try.underlying3 (by simp only [topN]; omega)) hS ?_
        refine WT_take (dd := some 40) 5 rfl (by kernel_rfl) (by kernel_rfl) (by kernel_rfl) rfl rfl rfl (fun _wq _hq => r_move (v := x_hP3_3) rfl) hS ?_
        refine WT_take (dd := some 41) 6 rfl (by kernel_rfl) (by kernel_rfl) (by kernel_rfl) rfl rfl rfl (fun _wq hq => r_lenS (v := x_hP3_3) rfl ((hq.ow ho_hP3_3)).sl tb_el27) hS ?_
        refine WT_take (dd := some 42) 7 rfl (by kernel_rfl) (by kernel_rfl) (by kernel_rfl) rfl rfl rfl (fun _wq _hq => r_remN (n := (covL on m n).length) rfl rfl rfl (by omega)) hS ?_
        refine WT_one (dd := some 43) 8 (by kernel_rfl) rfl rfl rfl rfl (Yd.call (r_call3 tb_c41 (v0 := x_hP3_3) rfl (v1 := .int .i64 _) rfl (v2 := .int .i64 _) rfl) (C_drawknifelaw12_points _ _ _ _ _ ho_hP3_3.sl (by omega) (by omega) (by first | assumption | exact cov_b (by assumption) | exact gro_b (by assumption) | exact cov_b (ok_same (by assumption))) (by omega)) (fun v8_8 W43 hE44 hP8_8 => ⟨.inl (hS.trans hE44), ?_⟩))
        have hsz45 := (Below.size hB)
        have sv46_hB := hB
        have sv46_hm0_0 := hm0_0
        have sv46_hm0_1 := hm0_1
        have sv46_ho_hP3_3 := ho_hP3_3
        replace hB := below_ext hB hE44 (Nat.le_refl _)
        replace hm0_0 := hE44.at hm0_0
        replace hm0_1 := hE44.at hm0_1
        replace ho_hP3_3 := hE44.ow ho_hP3_3
        replace hS := hS.trans hE44
        clear hE44
        clear hsz45
        obtain rfl := hP8_8
        refine WT_one (dd := some 44) 9 (by kernel_rfl) rfl rfl rfl rfl (Yd.call (r_call2 tb_c42 (v0 := .agg #[_, _, _, _]) rfl (v1 := .agg #[_, _, _, _]) rfl) (C_drawkniferef01_Within _ _ _) (fun v8_9 W47 hE48 hP8_9 => ⟨.inl (hS.trans hE48), ?_⟩))
        have hsz49 := (Below.size hB)
        replace hB := below_ext hB hE48 (Nat.le_refl _)
        replace hm0_0 := hE48.at hm0_0
        replace hm0_1 := hE48.at hm0_1
        replace ho_hP3_3 := hE48.ow ho_hP3_3
        replace hS := hS.trans hE48
        clear hE48
        clear hsz49
        obtain rfl := hP8_9
        refine WT_take (dd := some 45) 10 rfl (by kernel_rfl) (by kernel_rfl) (by kernel_rfl) rfl rfl rfl (fun _wq _hq => r_not rfl) hS ?_
        refine WT_split (dd := some 46) 11 rfl (by kernel_rfl) (by kernel_rfl) (by kernel_rfl) rfl rfl rfl (fun wq hq => r_move (v := .bool _) rfl) hS (fun hs8_11 => ?_) (fun hs8_11 => ?_)
        ·
          try with_reducible replace hs8_11 := of_decide_eq_true hs8_11
          refine WT_one (dd := some 47) 12 (by kernel_rfl) rfl rfl rfl rfl (Yd.call (r_call0 tb_c34) (C_drawknifelaw12_knows _) (fun v8_12 W50 hE51 hP8_12 => ⟨.inl (hS.trans hE51), ?_⟩))
          have hsz52 := (Below.size hB)
          replace hB := below_ext hB hE51 (Nat.le_refl _)
          replace hm0_0 := hE51.at hm0_0
          replace hm0_1 := hE51.at hm0_1
          replace ho_hP3_3 := hE51.ow ho_hP3_3
          replace hS := hS.trans hE51
          clear hE51
          clear hsz52
          obtain rfl := hP8_12
          refine WT_take (dd := some 48) 13 rfl (by kernel_rfl) (by kernel_rfl) (by kernel_rfl) rfl rfl rfl (fun _wq _hq => r_pick_t rfl (v := .bool _) rfl) hS ?_
          refine WT_take (dd := some 8) 14 rfl (by kernel_rfl) (by kernel_rfl) (by kernel_rfl) rfl rfl rfl (fun _wq _hq => r_assign (v := .bool _) rfl) hS ?_
          refine WT_done (by kernel_rfl) ?_
          try clear sv46_hB sv46_hm0_0 sv46_hm0_1 sv46_ho_hP3_3
          refine hK40 _ _ ?_
          clear hK40 K39
          refine WC_ret ?_
          repeat (first | refine thenQ_ret ?_ | refine blockQ_ret ?_)
          refine ret_t (v := .bool _) rfl ?_
          refine ⟨hB, ?_⟩
          rfl
        ·
          try with_reducible replace hs8_11 := of_decide_eq_false hs8_11
          exact absurd (show (!withinB on (ptsB (covL on m n) n.toNat ((q % (covL on m n).length : Nat) : Int) (covL on m n).length)) = true by rw [pts_but hk (Nat.mod_lt _ (by omega))]; rfl) (by rw [hs8_11]; decide)

set_option maxRecDepth 10000 in
theorem C_drawknifelaw12_IsopGrown (on m : Nat) (n : Int) (w : World) :
    Fn Try.prog 9 #[setV on, setV m, .int .i64 n] w fun v w' => v = .bool true := by
  refine Fn_intro (n := 147) Try.func9 rfl rfl (Nat.le_of_ble_eq_true rfl) ?_
  have hB : Below w.heap.size w w := Below.refl _ _
  refine WC_seq (fun K1 hK2 => ?_)
  refine WC_region ?_
  refine WL_step (dd := some 3) rfl rfl rfl (Y_box (c := #[_, _, _, _]) rfl rfl (fun b0_0 W3 hb4 hE5 hm0_0 => ?_))
  have lo_b0_0 : w.heap.size ≤ b0_0 := hb4 ▸ (Below.size hB)
  clear hb4
  replace hB := below_ext hB hE5 (Nat.le_refl _)
  clear hE5
  refine WL_step (dd := some 4) rfl rfl rfl (Y_box (c := #[_, _, _, _]) rfl rfl (fun b0_1 W6 hb7 hE8 hm0_1 => ?_))
  have lo_b0_1 : w.heap.size ≤ b0_1 := hb7 ▸ (Below.size hB)
  have ne_b0_0_b0_1 : b0_0 ≠ b0_1 := Nat.ne_of_lt (hb7 ▸ hm0_0.lt)
  clear hb7
  replace hB := below_ext hB hE8 (Nat.le_refl _)
  replace hm0_0 := hE8.at hm0_0
  clear hE8
  refine WL_val (dd := some 6) rfl rfl rfl (r_assign (v := .bool false) rfl) ?_
  refine WL_nil ?_
  refine hK2 _ _ ?_
  clear hK2 K1
  refine WC_seq (fun K9 hK10 => ?_)
  refine WC_region ?_
  refine WL_val (dd := some 20) rfl rfl rfl (r_loadW rfl tb_ag24 rfl hm0_0) ?_
  refine WL_val (dd := some 21) rfl rfl rfl (r_loadW rfl tb_ag24 rfl hm0_1) ?_
  refine WL_val (dd := some 22) rfl rfl rfl (r_move (v := .int .i64 _) rfl) ?_
  refine WL_call (dd := some 23) rfl rfl rfl (r_call3 tb_c43 (v0 := .agg #[_, _, _, _]) rfl (v1 := .agg #[_, _, _, _]) rfl (v2 := .int .i64 _) rfl) (C_isop_Grown _ _ _ _) (fun v1_3 W11 hE12 hP1_3 => ?_)
  have hsz13 := (Below.size hB)
  replace hB := below_ext hB hE12 (Nat.le_refl _)
  replace hm0_0 := hE12.at hm0_0
  replace hm0_1 := hE12.at hm0_1
  clear hE12
  obtain ⟨x_hP1_3, er_hP1_3, l_hP1_3, rfl, ho_hP1_3, hc_hP1_3⟩ := own_res hP1_3
  replace ho_hP1_3 := OwT.mono ho_hP1_3 hsz13
  clear hsz13
  refine WL_val (dd := some 19) rfl rfl rfl (r_move (v := .tuple #[x_hP1_3, .int .i64 _]) rfl) ?_
  refine WL_val (dd := some 24) rfl rfl rfl (r_ext2_0 (h := rfl)) ?_
  refine WL_val (dd := some 25) rfl rfl rfl (r_ext2_1 (h := rfl)) ?_
  refine WL_val (dd := some 7) rfl rfl rfl (r_assign (v := x_hP1_3) rfl) ?_
  refine WL_val (dd := some 8) rfl rfl rfl (r_assign (v := .int .i64 _) rfl) ?_
  refine WL_nil ?_
  refine hK10 _ _ ?_
  clear hK10 K9
  refine WC_seq (fun K14 hK15 => ?_)
  refine WC_seq (fun K16 hK17 => ?_)
  refine WC_region ?_
  refine WL_val (dd := some 26) rfl rfl rfl (r_loadW rfl tb_ag24 rfl hm0_0) ?_
  refine WL_val (dd := some 27) rfl rfl rfl (r_loadW rfl tb_ag24 rfl hm0_1) ?_
  refine WL_val (dd := some 28) rfl rfl rfl (r_move (v := .int .i64 _) rfl) ?_
  refine WL_call (dd := some 29) rfl rfl rfl (r_call3 tb_c38 (v0 := .agg #[_, _, _, _]) rfl (v1 := .agg #[_, _, _, _]) rfl (v2 := .int .i64 _) rfl) (C_drawknifelaw12_may _ _ _ _) (fun v2_3 W18 hE19 hP2_3 => ?_)
  have hsz20 := (Below.size hB)
  replace hB := below_ext hB hE19 (Nat.le_refl _)
  replace hm0_0 := hE19.at hm0_0
  replace hm0_1 := hE19.at hm0_1
  replace ho_hP1_3 := hE19.ow ho_hP1_3
  clear hE19
  clear hsz20
  obtain rfl := hP2_3
  refine WL_val (dd := some 30) rfl rfl rfl (r_not rfl) ?_
  refine WL_nil ?_
  refine hK17 _ _ ?_
  clear hK17 K16
  refine WC_cond (b := _) rfl (fun hc0 => ?_) (fun hc0 => ?_)
  ·
    try with_reducible replace hc0 := of_decide_eq_true hc0
    refine WC_seq (fun K21 hK22 => ?_)
    have hk : okB on m n = false := by simpa using hc0
    obtain ⟨q2, q3⟩ := hc_hP1_3.elim (fun h => absurd h.1 (by rw [hk]; decide)) (fun h => h.2)
    subst q2 q3
    refine WC_region ?_
    refine WL_val (dd := some 31) rfl rfl rfl (r_move (v := x_hP1_3) rfl) ?_
    refine WL_val (dd := some 32) rfl rfl rfl (r_lenS (v := x_hP1_3) rfl ho_hP1_3.sl tb_el27) ?_
    refine WL_val (dd := some 33) rfl rfl rfl (r_eql rfl rfl) ?_
    refine WL_split (dd := some 34) rfl rfl rfl (r_move (v := .bool _) rfl) (fun hs3_3 => ?_) (fun hs3_3 => ?_)
    ·
      try with_reducible replace hs3_3 := of_decide_eq_true hs3_3
      refine WL_val (dd := some 35) rfl rfl rfl (r_move (v := .int .i64 _) rfl) ?_
      refine WL_val (dd := some 36) rfl rfl rfl (r_eql rfl rfl) ?_
      refine WL_val (dd := some 37) rfl rfl rfl (r_pick_t rfl (v := .bool _) rfl) ?_
      refine WL_split (dd := some 38) rfl rfl rfl (r_move (v := .bool _) rfl) (fun hs3_7 => ?_) (fun hs3_7 => ?_)
      ·
        try with_reducible replace hs3_7 := of_decide_eq_true hs3_7
        refine WL_call (dd := some 39) rfl rfl rfl (r_call0 tb_c34) (C_drawknifelaw12_knows _) (fun v3_8 W23 hE24 hP3_8 => ?_)
        have hsz25 := (Below.size hB)
        replace hB := below_ext hB hE24 (Nat.le_refl _)
        replace hm0_0 := hE24.at hm0_0
        replace hm0_1 := hE24.at hm0_1
        replace ho_hP1_3 := hE24.ow ho_hP1_3
        clear hE24
        clear hsz25
        obtain rfl := hP3_8
        refine WL_val (dd := some 40) rfl rfl rfl (r_pick_t rfl (v := .bool _) rfl) ?_
        refine WL_val (dd := some 6) rfl rfl rfl (r_assign (v := .bool _) rfl) ?_
        refine WL_nil ?_
        refine hK22 _ _ ?_
        clear hK22 K21
        refine WC_ret ?_
        repeat (first | refine thenQ_ret ?_ | refine blockQ_ret ?_)
        try clear hK15 K14
        refine ret_t (v := .bool _) rfl ?_
        refine ⟨hB, ?_⟩
        rfl
      ·
        try with_reducible replace hs3_7 := of_decide_eq_false hs3_7
        exact absurd rfl hs3_7
    ·
      try with_reducible replace hs3_3 := of_decide_eq_false hs3_3
      exact absurd rfl hs3_3
  ·
    try with_reducible replace hc0 := of_decide_eq_false hc0
    refine WC_skip ?_
    refine hK15 _ _ ?_
    clear hK15 K14
    refine WC_seq (fun K26 hK27 => ?_)
    have hk : okB on m n = true := by simpa using hc0
    obtain ⟨h0, h8⟩ := of_bounds (okB_iff.1 hk).1
    have hl1 := covL_len (on := on) (may := m) h8
    have hl2 := gro_len hk
    obtain ⟨q2, q3⟩ : er_hP1_3 = 0 ∧ l_hP1_3 = groL on m n := hc_hP1_3.elim (fun h => h.2) (fun h => absurd hk (by rw [h.1]; decide))
    subst q2 q3
    refine WC_region ?_
    refine WL_val (dd := some 42) rfl rfl rfl (r_loadW rfl tb_ag24 rfl hm0_0) ?_
    refine WL_val (dd := some 43) rfl rfl rfl (r_loadW rfl tb_ag24 rfl hm0_1) ?_
    refine WL_val (dd := some 44) rfl rfl rfl (r_move (v := .int .i64 _) rfl) ?_
    refine WL_call (dd := some 45) rfl rfl rfl (r_call3 tb_c39 (v0 := .agg #[_, _, _, _]) rfl (v1 := .agg #[_, _, _, _]) rfl (v2 := .int .i64 _) rfl) (C_isop_Cover _ _ _ _) (fun v4_3 W28 hE29 hP4_3 => ?_)
    have hlt30 := OwT.lt2 ho_hP1_3
    have hsz31 := (Below.size hB)
    replace hB := below_ext hB hE29 (Nat.le_refl _)
    replace hm0_0 := hE29.at hm0_0
    replace hm0_1 := hE29.at hm0_1
    replace ho_hP1_3 := hE29.ow ho_hP1_3
    clear hE29
    obtain ⟨x_hP4_3, er_hP4_3, l_hP4_3, rfl, ho_hP4_3, hc_hP4_3⟩ := own_res hP4_3
    replace ho_hP4_3 := OwT.mono ho_hP4_3 hsz31
    clear hsz31
    refine WL_val (dd := some 41) rfl rfl rfl (r_move (v := .tuple #[x_hP4_3, .int .i64 _]) rfl) ?_
    refine WL_val (dd := some 46) rfl rfl rfl (r_ext2_0 (h := rfl)) ?_
    refine WL_val (dd := some 47) rfl rfl rfl (r_ext2_1 (h := rfl)) ?_
    refine WL_val (dd := some 9) rfl rfl rfl (r_assign (v := x_hP4_3) rfl) ?_
    refine WL_val (dd := some 10) rfl rfl rfl (r_assign (v := .int .i64 _) rfl) ?_
    refine WL_nil ?_
    refine hK27 _ _ ?_
    clear hK27 K26
    refine WC_seq (fun K32 hK33 => ?_)
    obtain ⟨q2, q3⟩ := hc_hP4_3.elim (fun h => h.2) (fun h => absurd hk (by rw [h.1]; decide))
    subst q2 q3
    refine WC_region ?_
    refine WL_val (dd := some 48) rfl rfl rfl (r_move (v := x_hP1_3) rfl) ?_
    refine WL_val (dd := some 49) rfl rfl rfl (r_move (v := .int .i64 _) rfl) ?_
    refine WL_call (dd := some 50) rfl rfl rfl (r_call3 tb_c41 (v0 := x_hP1_3) rfl (v1 := .int .i64 _) rfl (v2 := .int .i64 _) rfl) (C_drawknifelaw12_points _ _ _ _ _ ho_hP1_3.sl (by omega) (by omega) (by first | assumption | exact cov_b (by assumption) | exact gro_b (by assumption) | exact cov_b (ok_same (by assumption))) (by omega)) (fun v5_2 W34 hE35 hP5_2 => ?_)
    have hsz36 := (Below.size hB)
    replace hB := below_ext hB hE35 (Nat.le_refl _)
    replace hm0_0 := hE35.at hm0_0
    replace hm0_1 := hE35.at hm0_1
    replace ho_hP1_3 := hE35.ow ho_hP1_3
    replace ho_hP4_3 := hE35.ow ho_hP4_3
    clear hE35
    clear hsz36
    obtain rfl := hP5_2
    refine WL_step (dd := some 11) rfl rfl rfl (Y_alloc tb_z24 rfl (fun b5_3 W37 hb38 hE39 hm5_3 => ?_))
    have lo_b5_3 : w.heap.size ≤ b5_3 := hb38 ▸ (Below.size hB)
    have ne_b0_0_b5_3 : b0_0 ≠ b5_3 := Nat.ne_of_lt (hb38 ▸ hm0_0.lt)
    have ne_b0_1_b5_3 : b0_1 ≠ b5_3 := Nat.ne_of_lt (hb38 ▸ hm0_1.lt)
    clear hb38
    replace hB := below_ext hB hE39 (Nat.le_refl _)
    replace hm0_0 := hE39.at hm0_0
    replace hm0_1 := hE39.at hm0_1
    replace ho_hP1_3 := hE39.ow ho_hP1_3
    replace ho_hP4_3 := hE39.ow ho_hP4_3
    clear hE39
    replace hm5_3 : At W37 b5_3 #[wv 0 0, wv 0 1, wv 0 2, wv 0 3] 24 := hm5_3
    refine WL_step (dd := none) rfl rfl rfl (Y_storeW rfl rfl tb_ag24 rfl hm5_3 rfl (by rfl) (fun W40 hG41 hm42 => ?_))
    replace hB := below_grown hB hG41 (Nat.le_refl _) (fun j hj => by cases hj; exact lo_b5_3)
    replace hm0_0 := At.grownNe hm0_0 ne_b0_0_b5_3 hG41
    replace hm0_1 := At.grownNe hm0_1 ne_b0_1_b5_3 hG41
    replace ho_hP1_3 := OwT.grownAt ho_hP1_3 hm5_3 hG41 (by decide)
    replace ho_hP4_3 := OwT.grownAt ho_hP4_3 hm5_3 hG41 (by decide)
    clear hG41 hm5_3
    have hm5_3 := hm42
    clear hm42
    refine WL_nil ?_
    refine hK33 _ _ ?_
    clear hK33 K32
    refine WC_seq (fun K43 hK44 => ?_)
    refine WC_seq (fun K45 hK46 => ?_)
    refine WC_region ?_
    refine WL_val (dd := some 51) rfl rfl rfl (r_move (v := .int .i64 _) rfl) ?_
    refine WL_val (dd := some 52) rfl rfl rfl (r_neq rfl rfl) ?_
    refine WL_split (dd := some 53) rfl rfl rfl (r_move (v := .bool _) rfl) (fun hs6_2 => ?_) (fun hs6_2 => ?_)
    ·
      try with_reducible replace hs6_2 := of_decide_eq_true hs6_2
      exact absurd rfl hs6_2
    ·
      try with_reducible replace hs6_2 := of_decide_eq_false hs6_2
      refine WL_val (dd := some 54) rfl rfl rfl (r_move (v := .int .i64 _) rfl) ?_
      refine WL_val (dd := some 55) rfl rfl rfl (r_neq rfl rfl) ?_
      refine WL_val (dd := some 56) rfl rfl rfl (r_pick_f rfl (v := .bool _) rfl) ?_
      refine WL_split (dd := some 57) rfl rfl rfl (r_move (v := .bool _) rfl) (fun hs6_6 => ?_) (fun hs6_6 => ?_)
      ·
        try with_reducible replace hs6_6 := of_decide_eq_true hs6_6
        exact absurd rfl hs6_6
      ·
        try with_reducible replace hs6_6 := of_decide_eq_false hs6_6
        refine WL_val (dd := some 58) rfl rfl rfl (r_loadW rfl tb_ag24 rfl hm0_0) ?_
        refine WL_val (dd := some 59) rfl rfl rfl (r_loadW rfl tb_ag24 rfl hm5_3) ?_
        refine WL_call (dd := some 60) rfl rfl rfl (r_call2 tb_c42 (v0 := .agg #[_, _, _, _]) rfl (v1 := .agg #[_, _, _, _]) rfl) (C_drawkniferef01_Within _ _ _) (fun v6_9 W47 hE48 hP6_9 => ?_)
        have hsz49 := (Below.size hB)
        replace hB := below_ext hB hE48 (Nat.le_refl _)
        replace hm0_0 := hE48.at hm0_0
        replace hm0_1 := hE48.at hm0_1
        replace ho_hP1_3 := hE48.ow ho_hP1_3
        replace ho_hP4_3 := hE48.ow ho_hP4_3
        replace hm5_3 := hE48.at hm5_3
        clear hE48
        clear hsz49
        obtain rfl := hP6_9
        refine WL_val (dd := some 61) rfl rfl rfl (r_not rfl) ?_
        refine WL_val (dd := some 62) rfl rfl rfl (r_pick_f rfl (v := .bool _) rfl) ?_
        refine WL_split (dd := some 63) rfl rfl rfl (r_move (v := .bool _) rfl) (fun hs6_12 => ?_) (fun hs6_12 => ?_)
        ·
          try with_reducible replace hs6_12 := of_decide_eq_true hs6_12
          rw [gro_on hk] at hs6_12; exact absurd hs6_12 (by decide)
        ·
          try with_reducible replace hs6_12 := of_decide_eq_false hs6_12
          refine WL_val (dd := some 64) rfl rfl rfl (r_loadW rfl tb_ag24 rfl hm5_3) ?_
          refine WL_val (dd := some 65) rfl rfl rfl (r_loadW rfl tb_ag24 rfl hm0_1) ?_
          refine WL_call (dd := some 66) rfl rfl rfl (r_call2 tb_c42 (v0 := .agg #[_, _, _, _]) rfl (v1 := .agg #[_, _, _, _]) rfl) (C_drawkniferef01_Within _ _ _) (fun v6_15 W50 hE51 hP6_15 => ?_)
          have hsz52 := (Below.size hB)
          replace hB := below_ext hB hE51 (Nat.le_refl _)
          replace hm0_0 := hE51.at hm0_0
          replace hm0_1 := hE51.at hm0_1
          replace ho_hP1_3 := hE51.ow ho_hP1_3
          replace ho_hP4_3 := hE51.ow ho_hP4_3
          replace hm5_3 := hE51.at hm5_3
          clear hE51
          clear hsz52
          obtain rfl := hP6_15
          refine WL_val (dd := some 67) rfl rfl rfl (r_not rfl) ?_
          refine WL_val (dd := some 68) rfl rfl rfl (r_pick_f rfl (v := .bool _) rfl) ?_
          refine WL_nil ?_
          refine hK46 _ _ ?_
          clear hK46 K45
          refine WC_cond (b := _) rfl (fun hc1 => ?_) (fun hc1 => ?_)
          ·
            try with_reducible replace hc1 := of_decide_eq_true hc1
            first | exact absurd rfl hc1 | (rw [gro_may hk] at hc1; exact absurd hc1 (by decide))
          ·
            try with_reducible replace hc1 := of_decide_eq_false hc1
            refine WC_skip ?_
            refine hK44 _ _ ?_
            clear hK44 K43
            refine WC_seq (fun K53 hK54 => ?_)
            refine WC_seq (fun K55 hK56 => ?_)
            refine WC_region ?_
            refine WL_val (dd := some 12) rfl rfl rfl (r_assign (v := .int .i64 0) rfl) ?_
            refine WL_nil ?_
            refine hK56 _ _ ?_
            clear hK56 K55
            refine WC_block ?_
            refine WC_loop (σ := (Nat)) [6, 12, 13, 69, 70, 71, 72, 73, 74, 75, 76, 77, 78, 79, 80, 81, 82, 83, 84, 85, 86, 87, 88, 89, 90, 91, 92, 93, 94, 95, 96] (fun i => [(12, .int .i64 (i : Int))]) (fun i W => (Below w.heap.size w W) ∧ (At W b0_0 _ 24) ∧ (At W b0_1 _ 24) ∧ (OwT encC 2 34 W w.heap.size x_hP1_3 _) ∧ (OwT encC 2 34 W w.heap.size x_hP4_3 _) ∧ (At W b5_3 _ 24) ∧ (i ≤ (groL on m n).length) ∧ (True)) (fun i => (groL on m n).length - i) (0) ⟨rfl, trivial⟩ ⟨hB, hm0_0, hm0_1, ho_hP1_3, ho_hP4_3, hm5_3, (Nat.zero_le _), trivial⟩ ?_
            clear hB hm0_0 hm0_1 ho_hP1_3 ho_hP4_3 hm5_3
            rintro i g58 W57 ⟨hB, hm0_0, hm0_1, ho_hP1_3, ho_hP4_3, hm5_3, hi, _⟩ J59 hJ60
            refine WC_seq (fun K61 hK62 => ?_)
            refine WC_seq (fun K63 hK64 => ?_)
            refine WC_region ?_
            refine WL_val (dd := some 69) rfl rfl rfl (r_move (v := .int .i64 _) rfl) ?_
            refine WL_val (dd := some 70) rfl rfl rfl (r_move (v := x_hP1_3) rfl) ?_
            refine WL_val (dd := some 71) rfl rfl rfl (r_lenS (v := x_hP1_3) rfl ho_hP1_3.sl tb_el27) ?_
            refine WL_val (dd := some 72) rfl rfl rfl (r_lss rfl rfl) ?_
            refine WL_nil ?_
            refine hK64 _ _ ?_
            clear hK64 K63
            refine WC_cond (b := _) rfl (fun hc2 => ?_) (fun hc2 => ?_)
            ·
              try with_reducible replace hc2 := of_decide_eq_true hc2
              refine WC_skip ?_
              refine hK62 _ _ ?_
              clear hK62 K61
              refine WC_seq (fun K65 hK66 => ?_)
              refine WC_block ?_
              refine WC_seq (fun K67 hK68 => ?_)
              refine WC_seq (fun K69 hK70 => ?_)
              have hgp := gro_prime hk (getD_mem (d := ⟨0, 0⟩) (show i < (groL on m n).length by omega))
              obtain ⟨hgb1, hgb2⟩ := gro_b hk _ (getD_mem (d := ⟨0, 0⟩) (show i < (groL on m n).length by omega))
              refine WC_draw Ext tb_mix (fun W71 hE72 => ?_)
              replace hB := below_ext hB hE72 (Nat.le_refl _)
              replace hm0_0 := hE72.at hm0_0
              replace hm0_1 := hE72.at hm0_1
              replace ho_hP1_3 := hE72.ow ho_hP1_3
              replace ho_hP4_3 := hE72.ow ho_hP4_3
              replace hm5_3 := hE72.at hm5_3
              have hS := Ext.refl W71
              refine WT_take (dd := some 75) 0 rfl (by kernel_rfl) (by kernel_rfl) (by kernel_rfl) rfl rfl rfl (fun _wq _hq => r_move (v := x_hP1_3) rfl) hS ?_
              refine WT_take (dd := some 76) 1 rfl (by kernel_rfl) (by kernel_rfl) (by kernel_rfl) rfl rfl rfl (fun _wq _hq => r_move (v := .int .i64 _) rfl) hS ?_
              refine WT_take (dd := some 77) 2 rfl (by kernel_rfl) (by kernel_rfl) (by kernel_rfl) rfl rfl rfl (fun _wq hq => r_idxS (v := x_hP1_3) rfl ((hq.ow ho_hP1_3)).sl rfl tb_el27 (by omega) (by first | omega | (simp only [flagsTo_len, litsTo_len, firstF_len, ptF_len, setF_len]; omega))) hS ?_
              refine WT_take (dd := some 78) 3 rfl (by kernel_rfl) (by kernel_rfl) (by kernel_rfl) rfl rfl rfl (fun _wq hq => r_load2 rfl tb_ag34 (SlT.cell ((hq.ow ho_hP1_3)).sl encC_len ⟨0, 0⟩ (by omega) (by first | omega | (simp only [flagsTo_len, litsTo_len, firstF_len, ptF_len, setF_len]; omega)) 0 rfl) (SlT.cell ((hq.ow ho_hP1_3)).sl encC_len ⟨0, 0⟩ (by omega) (by first | omega | (simp only [flagsTo_len, litsTo_len, firstF_len, ptF_len, setF_len]; omega)) 1 rfl)) hS ?_
              refine WT_take (dd := some 79) 4 rfl (by kernel_rfl) (by kernel_rfl) (by kernel_rfl) rfl rfl rfl (fun _wq hq => r_loadW rfl tb_ag24 rfl (hq.at hm0_1)) hS ?_
              refine WT_take (dd := some 80) 5 rfl (by kernel_rfl) (by kernel_rfl) (by kernel_rfl) rfl rfl rfl (fun _wq _hq => r_move (v := .int .i64 _) rfl) hS ?_
              refine WT_one (dd := some 81) 6 (by kernel_rfl) rfl rfl rfl rfl (Yd.call (r_call3 tb_c28 (v0 := .agg #[_, _]) rfl (v1 := .agg #[_, _, _, _]) rfl (v2 := .int .i64 _) rfl) (C_drawkniferef09_Prime _ _ _ _ _ (by show ((groL on m n).getD i ⟨0, 0⟩).m < 256; omega) (by show ((groL on m n).getD i ⟨0, 0⟩).v < 256; omega)) (fun v11_6 W73 hE74 hP11_6 => ⟨.inl (hS.trans hE74), ?_⟩))
              have hsz75 := (Below.size hB)
              have sv76_hB := hB
              have sv76_hm0_0 := hm0_0
              have sv76_hm0_1 := hm0_1
              have sv76_ho_hP1_3 := ho_hP1_3
              have sv76_ho_hP4_3 := ho_hP4_3
              have sv76_hm5_3 := hm5_3
              replace hB := below_ext hB hE74 (Nat.le_refl _)
              replace hm0_0 := hE74.at hm0_0
              replace hm0_1 := hE74.at hm0_1
              replace ho_hP1_3 := hE74.ow ho_hP1_3
              replace ho_hP4_3 := hE74.ow ho_hP4_3
              replace hm5_3 := hE74.at hm5_3
              replace hS := hS.trans hE74
              clear hE74
              clear hsz75
              obtain rfl := hP11_6
              refine WT_take (dd := some 82) 7 rfl (by kernel_rfl) (by kernel_rfl) (by kernel_rfl) rfl rfl rfl (fun _wq _hq => r_not rfl) hS ?_
              refine WT_done (by kernel_rfl) ?_
              try clear sv76_hB sv76_hm0_0 sv76_hm0_1 sv76_ho_hP1_3 sv76_ho_hP4_3 sv76_hm5_3
              refine hK70 _ _ ?_
              clear hK70 K69
              refine WC_cond (b := _) rfl (fun hc3 => ?_) (fun hc3 => ?_)
              ·
                try with_reducible replace hc3 := of_decide_eq_true hc3
                exact absurd (show primeB ((groL on m n).getD i ⟨0, 0⟩).m ((groL on m n).getD i ⟨0, 0⟩).v m n = true from hgp) (by simpa using hc3)
              ·
                try with_reducible replace hc3 := of_decide_eq_false hc3
                refine WC_skip ?_
                refine hK68 _ _ ?_
                clear hK68 K67
                refine WC_seq (fun K77 hK78 => ?_)
                refine WC_region ?_
                refine WL_val (dd := some 13) rfl rfl rfl (r_assign (v := .int .i64 0) rfl) ?_
                refine WL_nil ?_
                refine hK78 _ _ ?_
                clear hK78 K77
                refine WC_block ?_
                refine WC_loop (σ := (Nat)) [6, 13, 83, 84, 85, 86, 87, 88, 89, 90, 91, 92, 93, 94, 95, 96] (fun k => [(13, .int .i64 (k : Int))]) (fun k W => (Below w.heap.size w W) ∧ (At W b0_0 _ 24) ∧ (At W b0_1 _ 24) ∧ (OwT encC 2 34 W w.heap.size x_hP1_3 _) ∧ (OwT encC 2 34 W w.heap.size x_hP4_3 _) ∧ (At W b5_3 _ 24) ∧ (k ≤ i) ∧ (True)) (fun k => i - k) (0) ⟨rfl, trivial⟩ ⟨hB, hm0_0, hm0_1, ho_hP1_3, ho_hP4_3, hm5_3, (Nat.zero_le _), trivial⟩ ?_
                clear hB hm0_0 hm0_1 ho_hP1_3 ho_hP4_3 hm5_3
                rintro k g80 W79 ⟨hB, hm0_0, hm0_1, ho_hP1_3, ho_hP4_3, hm5_3, hk3, _⟩ J81 hJ82
                refine WC_seq (fun K83 hK84 => ?_)
                refine WC_seq (fun K85 hK86 => ?_)
                refine WC_region ?_
                refine WL_val (dd := some 83) rfl rfl rfl (r_move (v := .int .i64 _) rfl) ?_
                refine WL_val (dd := some 84) rfl rfl rfl (r_move (v := .int .i64 _) rfl) ?_
                refine WL_val (dd := some 85) rfl rfl rfl (r_lss rfl rfl) ?_
                refine WL_nil ?_
                refine hK86 _ _ ?_
                clear hK86 K85
                refine WC_cond (b := _) rfl (fun hc4 => ?_) (fun hc4 => ?_)
                ·
                  try with_reducible replace hc4 := of_decide_eq_true hc4
                  refine WC_skip ?_
                  refine hK84 _ _ ?_
                  clear hK84 K83
                  refine WC_seq (fun K87 hK88 => ?_)
                  refine WC_block ?_
                  refine WC_seq (fun K89 hK90 => ?_)
                  refine WC_draw Ext tb_mix (fun W91 hE92 => ?_)
                  replace hB := below_ext hB hE92 (Nat.le_refl _)
                  replace hm0_0 := hE92.at hm0_0
                  replace hm0_1 := hE92.at hm0_1
                  replace ho_hP1_3 := hE92.ow ho_hP1_3
                  replace ho_hP4_3 := hE92.ow ho_hP4_3
                  replace hm5_3 := hE92.at hm5_3
                  have hS := Ext.refl W91
                  refine WT_take (dd := some 88) 0 rfl (by kernel_rfl) (by kernel_rfl) (by kernel_rfl) rfl rfl rfl (fun _wq _hq => r_move (v := x_hP1_3) rfl) hS ?_
                  refine WT_take (dd := some 89) 1 rfl (by kernel_rfl) (by kernel_rfl) (by kernel_rfl) rfl rfl rfl (fun _wq _hq => r_move (v := .int .i64 _) rfl) hS ?_
                  refine WT_take (dd := some 90) 2 rfl (by kernel_rfl) (by kernel_rfl) (by kernel_rfl) rfl rfl rfl (fun _wq hq => r_idxS (v := x_hP1_3) rfl ((hq.ow ho_hP1_3)).sl rfl tb_el27 (by omega) (by first | omega | (simp only [flagsTo_len, litsTo_len, firstF_len, ptF_len, setF_len]; omega))) hS ?_
                  refine WT_take (dd := some 91) 3 rfl (by kernel_rfl) (by kernel_rfl) (by kernel_rfl) rfl rfl rfl (fun _wq hq => r_load2 rfl tb_ag34 (SlT.cell ((hq.ow ho_hP1_3)).sl encC_len ⟨0, 0⟩ (by omega) (by first | omega | (simp only [flagsTo_len, litsTo_len, firstF_len, ptF_len, setF_len]; omega)) 0 rfl) (SlT.cell ((hq.ow ho_hP1_3)).sl encC_len ⟨0, 0⟩ (by omega) (by first | omega | (simp only [flagsTo_len, litsTo_len, firstF_len, ptF_len, setF_len]; omega)) 1 rfl)) hS ?_
                  refine WT_take (dd := some 92) 4 rfl (by kernel_rfl) (by kernel_rfl) (by kernel_rfl) rfl rfl rfl (fun _wq _hq => r_move (v := x_hP1_3) rfl) hS ?_
                  refine WT_take (dd := some 93) 5 rfl (by kernel_rfl) (by kernel_rfl) (by kernel_rfl) rfl rfl rfl (fun _wq _hq => r_move (v := .int .i64 _) rfl) hS ?_
                  refine WT_take (dd := some 94) 6 rfl (by kernel_rfl) (by kernel_rfl) (by kernel_rfl) rfl rfl rfl (fun _wq hq => r_idxS (v := x_hP1_3) rfl ((hq.ow ho_hP1_3)).sl rfl tb_el27 (by omega) (by first | omega | (simp only [flagsTo_len, litsTo_len, firstF_len, ptF_len, setF_len]; omega))) hS ?_
                  refine WT_take (dd := some 95) 7 rfl (by kernel_rfl) (by kernel_rfl) (by kernel_rfl) rfl rfl rfl (fun _wq hq => r_load2 rfl tb_ag34 (SlT.cell ((hq.ow ho_hP1_3)).sl encC_len ⟨0, 0⟩ (by omega) (by first | omega | (simp only [flagsTo_len, litsTo_len, firstF_len, ptF_len, setF_len]; omega)) 0 rfl) (SlT.cell ((hq.ow ho_hP1_3)).sl encC_len ⟨0, 0⟩ (by omega) (by first | omega | (simp only [flagsTo_len, litsTo_len, firstF_len, ptF_len, setF_len]; omega)) 1 rfl)) hS ?_
                  refine WT_take (dd := some 96) 8 rfl (by kernel_rfl) (by kernel_rfl) (by kernel_rfl) rfl rfl rfl (fun _wq _hq => tb_eq34 rfl rfl) hS ?_
                  refine WT_done (by kernel_rfl) ?_
                  refine hK90 _ _ ?_
                  clear hK90 K89
                  refine WC_cond (b := _) rfl (fun hc5 => ?_) (fun hc5 => ?_)
                  ·
                    try with_reducible replace hc5 := of_decide_eq_true hc5
                    exact (gro_apart hk (by omega) (by omega) hc5).elim
                  ·
                    try with_reducible replace hc5 := of_decide_eq_false hc5
                    refine WC_skip ?_
                    refine hK88 _ _ ?_
                    clear hK88 K87
                    refine WC_region ?_
                    refine WL_val (dd := some 86) rfl rfl rfl (r_move (v := .int .i64 _) rfl) ?_
                    refine WL_val (dd := some 87) rfl rfl rfl (r_addI rfl rfl (by omega) (by omega)) ?_
                    refine WL_val (dd := some 13) rfl rfl rfl (r_assign (v := .int .i64 _) rfl) ?_
                    refine WL_nil ?_
                    refine hJ82 _ _ (k + 1) ?_ ?_ ?_ ?_
                    · repeat (first | exact agree.mask _ _ _ | refine agree.updo ?_ rfl _ | refine agree.updL ?_ _ rfl | refine agree.maskS rfl ?_)
                    · exact ⟨rfl, trivial⟩
                    · exact ⟨hB, hm0_0, hm0_1, ho_hP1_3, ho_hP4_3, hm5_3, (by omega), trivial⟩
                    · first | omega | (dsimp only; omega)
                ·
                  try with_reducible replace hc4 := of_decide_eq_false hc4
                  refine WC_exit ?_
                  refine hK66 _ _ ?_
                  clear hK84 K83
                  clear hJ82 J81
                  clear hK66 K65
                  refine WC_region ?_
                  refine WL_val (dd := some 73) rfl rfl rfl (r_move (v := .int .i64 _) rfl) ?_
                  refine WL_val (dd := some 74) rfl rfl rfl (r_addI rfl rfl (by omega) (by omega)) ?_
                  refine WL_val (dd := some 12) rfl rfl rfl (r_assign (v := .int .i64 _) rfl) ?_
                  refine WL_nil ?_
                  refine hJ60 _ _ (i + 1) ?_ ?_ ?_ ?_
                  · repeat (first | exact agree.mask _ _ _ | refine agree.updo ?_ rfl _ | refine agree.updL ?_ _ rfl | refine agree.maskS rfl ?_)
                  · exact ⟨rfl, trivial⟩
                  · exact ⟨hB, hm0_0, hm0_1, ho_hP1_3, ho_hP4_3, hm5_3, (by omega), trivial⟩
                  · first | omega | (dsimp only; omega)
            ·
              try with_reducible replace hc2 := of_decide_eq_false hc2
              refine WC_exit ?_
              refine hK54 _ _ ?_
              clear hK62 K61
              clear hJ60 J59
              clear hK54 K53
              refine WC_seq (fun K93 hK94 => ?_)
              refine WC_region ?_
              refine WL_val (dd := some 14) rfl rfl rfl (r_assign (v := .int .i64 0) rfl) ?_
              refine WL_nil ?_
              refine hK94 _ _ ?_
              clear hK94 K93
              refine WC_seq (fun K95 hK96 => ?_)
              refine WC_seq (fun K97 hK98 => ?_)
              refine WC_region ?_
              refine WL_val (dd := some 15) rfl rfl rfl (r_assign (v := .int .i64 0) rfl) ?_
              refine WL_nil ?_
              refine hK98 _ _ ?_
              clear hK98 K97
              refine WC_block ?_
              refine WC_loop (σ := (Nat)) [6, 14, 15, 16, 17, 18, 97, 98, 99, 100, 101, 102, 103, 104, 105, 106, 107, 108, 109, 110, 111, 112, 113, 114, 115, 116, 117, 118, 119, 120, 121, 122, 123, 124, 125, 126, 127, 128, 129, 130, 131, 132, 133, 134, 135, 136, 137, 138, 139] (fun j => [(15, .int .i64 (j : Int)), (14, .int .i64 ((grownTo m n (covL on m n) j).length : Int))]) (fun j W => (Below w.heap.size w W) ∧ (At W b0_0 _ 24) ∧ (At W b0_1 _ 24) ∧ (OwT encC 2 34 W w.heap.size x_hP1_3 _) ∧ (OwT encC 2 34 W w.heap.size x_hP4_3 _) ∧ (At W b5_3 _ 24) ∧ (j ≤ (covL on m n).length) ∧ (True)) (fun j => (covL on m n).length - j) (0) ⟨rfl, rfl, trivial⟩ ⟨hB, hm0_0, hm0_1, ho_hP1_3, ho_hP4_3, hm5_3, (Nat.zero_le _), trivial⟩ ?_
              clear hB hm0_0 hm0_1 ho_hP1_3 ho_hP4_3 hm5_3
              rintro j g100 W99 ⟨hB, hm0_0, hm0_1, ho_hP1_3, ho_hP4_3, hm5_3, hj, _⟩ J101 hJ102
              refine WC_seq (fun K103 hK104 => ?_)
              refine WC_seq (fun K105 hK106 => ?_)
              refine WC_region ?_
              refine WL_val (dd := some 97) rfl rfl rfl (r_move (v := .int .i64 _) rfl) ?_
              refine WL_val (dd := some 98) rfl rfl rfl (r_move (v := x_hP4_3) rfl) ?_
              refine WL_val (dd := some 99) rfl rfl rfl (r_lenS (v := x_hP4_3) rfl ho_hP4_3.sl tb_el27) ?_
              refine WL_val (dd := some 100) rfl rfl rfl (r_lss rfl rfl) ?_
              refine WL_nil ?_
              refine hK106 _ _ ?_
              clear hK106 K105
              refine WC_cond (b := _) rfl (fun hc6 => ?_) (fun hc6 => ?_)
              ·
                try with_reducible replace hc6 := of_decide_eq_true hc6
                refine WC_skip ?_
                refine hK104 _ _ ?_
                clear hK104 K103
                refine WC_seq (fun K107 hK108 => ?_)
                refine WC_block ?_
                refine WC_seq (fun K109 hK110 => ?_)
                have hcb := cov_b hk _ (getD_mem (d := ⟨0, 0⟩) (show j < (covL on m n).length by omega))
                have hle := gro_le (on := on) (m := m) (n := n) j (by omega)
                refine WC_draw Ext tb_mix (fun W111 hE112 => ?_)
                replace hB := below_ext hB hE112 (Nat.le_refl _)
                replace hm0_0 := hE112.at hm0_0
                replace hm0_1 := hE112.at hm0_1
                replace ho_hP1_3 := hE112.ow ho_hP1_3
                replace ho_hP4_3 := hE112.ow ho_hP4_3
                replace hm5_3 := hE112.at hm5_3
                have hS := Ext.refl W111
                refine WT_take (dd := some 103) 0 rfl (by kernel_rfl) (by kernel_rfl) (by kernel_rfl) rfl rfl rfl (fun _wq _hq => r_move (v := x_hP4_3) rfl) hS ?_
                refine WT_take (dd := some 104) 1 rfl (by kernel_rfl) (by kernel_rfl) (by kernel_rfl) rfl rfl rfl (fun _wq _hq => r_move (v := .int .i64 _) rfl) hS ?_
                refine WT_take (dd := some 105) 2 rfl (by kernel_rfl) (by kernel_rfl) (by kernel_rfl) rfl rfl rfl (fun _wq hq => r_idxS (v := x_hP4_3) rfl ((hq.ow ho_hP4_3)).sl rfl tb_el27 (by omega) (by first | omega | (simp only [flagsTo_len, litsTo_len, firstF_len, ptF_len, setF_len]; omega))) hS ?_
                refine WT_take (dd := some 106) 3 rfl (by kernel_rfl) (by kernel_rfl) (by kernel_rfl) rfl rfl rfl (fun _wq hq => r_load2 rfl tb_ag34 (SlT.cell ((hq.ow ho_hP4_3)).sl encC_len ⟨0, 0⟩ (by omega) (by first | omega | (simp only [flagsTo_len, litsTo_len, firstF_len, ptF_len, setF_len]; omega)) 0 rfl) (SlT.cell ((hq.ow ho_hP4_3)).sl encC_len ⟨0, 0⟩ (by omega) (by first | omega | (simp only [flagsTo_len, litsTo_len, firstF_len, ptF_len, setF_len]; omega)) 1 rfl)) hS ?_
                refine WT_take (dd := some 107) 4 rfl (by kernel_rfl) (by kernel_rfl) (by kernel_rfl) rfl rfl rfl (fun _wq hq => r_loadW rfl tb_ag24 rfl (hq.at hm0_1)) hS ?_
                refine WT_take (dd := some 108) 5 rfl (by kernel_rfl) (by kernel_rfl) (by kernel_rfl) rfl rfl rfl (fun _wq _hq => r_move (v := .int .i64 _) rfl) hS ?_
                refine WT_two 6 7 (by kernel_rfl) rfl rfl rfl rfl rfl rfl rfl rfl (Yd.call (r_call3 tb_c44 (v0 := .agg #[_, _]) rfl (v1 := .agg #[_, _, _, _]) rfl (v2 := .int .i64 _) rfl) (C_drawkniferef09_Grow ((covL on m n).getD j ⟨0, 0⟩) _ _ _ hcb h8) (fun v22_6 W113 hE114 hP22_6 => ⟨.inl (hS.trans hE114), ?_⟩)) (Y_alloc tb_z34 rfl (fun b22_7 W117 hb118 hE119 hm22_7 => ⟨.inl (hS.trans hE119), ?_⟩))
                ·
                  have hsz115 := (Below.size hB)
                  have sv116_hB := hB
                  have sv116_hm0_0 := hm0_0
                  have sv116_hm0_1 := hm0_1
                  have sv116_ho_hP1_3 := ho_hP1_3
                  have sv116_ho_hP4_3 := ho_hP4_3
                  have sv116_hm5_3 := hm5_3
                  replace hB := below_ext hB hE114 (Nat.le_refl _)
                  replace hm0_0 := hE114.at hm0_0
                  replace hm0_1 := hE114.at hm0_1
                  replace ho_hP1_3 := hE114.ow ho_hP1_3
                  replace ho_hP4_3 := hE114.ow ho_hP4_3
                  replace hm5_3 := hE114.at hm5_3
                  replace hS := hS.trans hE114
                  clear hE114
                  clear hsz115
                  obtain rfl := hP22_6
                  refine WT_one (dd := some 16) 7 (by kernel_rfl) rfl rfl rfl rfl (Y_alloc tb_z34 rfl (fun b22_7 W121 hb122 hE123 hm22_7 => ⟨.inl (hS.trans hE123), ?_⟩))
                  have lo_b22_7 : w.heap.size ≤ b22_7 := hb122 ▸ (Below.size hB)
                  have no_x_hP1_3_b22_7 := OwT.neB (b := b22_7) ho_hP1_3 (Nat.le_of_eq hb122.symm)
                  have no_x_hP4_3_b22_7 := OwT.neB (b := b22_7) ho_hP4_3 (Nat.le_of_eq hb122.symm)
                  clear hb122
                  replace hB := below_ext hB hE123 (Nat.le_refl _)
                  replace hm0_0 := hE123.at hm0_0
                  replace hm0_1 := hE123.at hm0_1
                  replace ho_hP1_3 := hE123.ow ho_hP1_3
                  replace ho_hP4_3 := hE123.ow ho_hP4_3
                  replace hm5_3 := hE123.at hm5_3
                  replace hS := hS.trans hE123
                  clear hE123
                  refine WT_one (dd := none) 8 (by kernel_rfl) rfl rfl rfl rfl (Y_storeW rfl rfl tb_ag34 rfl hm22_7 rfl (by rfl) (fun W124 hG125 hm126 => ⟨.inr (by kernel_rfl), ?_⟩))
                  replace hB := below_grown hB hG125 (Nat.le_refl _) (fun j hj => by cases hj; exact lo_b22_7)
                  replace hm0_0 := At.grownAt hm0_0 hm22_7 hG125 (by decide)
                  replace hm0_1 := At.grownAt hm0_1 hm22_7 hG125 (by decide)
                  replace ho_hP1_3 := OwT.grownAtNe ho_hP1_3 no_x_hP1_3_b22_7 hG125
                  replace ho_hP4_3 := OwT.grownAtNe ho_hP4_3 no_x_hP4_3_b22_7 hG125
                  replace hm5_3 := At.grownAt hm5_3 hm22_7 hG125 (by decide)
                  clear hG125 hm22_7
                  have hm22_7 := hm126
                  clear hm126
                  refine WT_done (by kernel_rfl) ?_
                  try clear sv116_hB sv116_hm0_0 sv116_hm0_1 sv116_ho_hP1_3 sv116_ho_hP4_3 sv116_hm5_3
                  refine hK110 _ _ ?_
                  clear hK110 K109
                  refine WC_seq (fun K127 hK128 => ?_)
                  refine WC_region ?_
                  refine WL_val (dd := some 17) rfl rfl rfl (r_assign (v := .bool false) rfl) ?_
                  refine WL_nil ?_
                  refine hK128 _ _ ?_
                  clear hK128 K127
                  refine WC_seq (fun K129 hK130 => ?_)
                  refine WC_seq (fun K131 hK132 => ?_)
                  refine WC_region ?_
                  refine WL_val (dd := some 18) rfl rfl rfl (r_assign (v := .int .i64 0) rfl) ?_
                  refine WL_nil ?_
                  refine hK132 _ _ ?_
                  clear hK132 K131
                  refine WC_block ?_
                  refine WC_loop (σ := (Nat)) [17, 18, 110, 111, 112, 113, 114, 115, 116, 117, 118, 119, 120, 121, 122, 123] (fun k2 => [(18, .int .i64 (k2 : Int)), (17, .bool (metB (groL on m n) (growS m n ((covL on m n).getD j ⟨0, 0⟩)) k2))]) (fun k2 W => (Below w.heap.size w W) ∧ (At W b0_0 _ 24) ∧ (At W b0_1 _ 24) ∧ (OwT encC 2 34 W w.heap.size x_hP1_3 _) ∧ (OwT encC 2 34 W w.heap.size x_hP4_3 _) ∧ (At W b5_3 _ 24) ∧ (At W b22_7 _ 34) ∧ (k2 ≤ (grownTo m n (covL on m n) j).length) ∧ (True)) (fun k2 => (grownTo m n (covL on m n) j).length - k2) (0) ⟨rfl, congrArg Value.bool (met_zero _ _), trivial⟩ ⟨hB, hm0_0, hm0_1, ho_hP1_3, ho_hP4_3, hm5_3, hm22_7, (Nat.zero_le _), trivial⟩ ?_
                  clear hB hm0_0 hm0_1 ho_hP1_3 ho_hP4_3 hm5_3 hm22_7
                  rintro k2 g134 W133 ⟨hB, hm0_0, hm0_1, ho_hP1_3, ho_hP4_3, hm5_3, hm22_7, hk4, _⟩ J135 hJ136
                  refine WC_seq (fun K137 hK138 => ?_)
                  refine WC_seq (fun K139 hK140 => ?_)
                  refine WC_region ?_
                  refine WL_val (dd := some 110) rfl rfl rfl (r_move (v := .int .i64 _) rfl) ?_
                  refine WL_val (dd := some 111) rfl rfl rfl (r_move (v := .int .i64 _) rfl) ?_
                  refine WL_val (dd := some 112) rfl rfl rfl (r_lss rfl rfl) ?_
                  refine WL_nil ?_
                  refine hK140 _ _ ?_
                  clear hK140 K139
                  refine WC_cond (b := _) rfl (fun hc7 => ?_) (fun hc7 => ?_)
                  ·
                    try with_reducible replace hc7 := of_decide_eq_true hc7
                    refine WC_skip ?_
                    refine hK138 _ _ ?_
                    clear hK138 K137
                    refine WC_seq (fun K141 hK142 => ?_)
                    refine WC_block ?_
                    refine WC_draw Ext tb_mix (fun W143 hE144 => ?_)
                    replace hB := below_ext hB hE144 (Nat.le_refl _)
                    replace hm0_0 := hE144.at hm0_0
                    replace hm0_1 := hE144.at hm0_1
                    replace ho_hP1_3 := hE144.ow ho_hP1_3
                    replace ho_hP4_3 := hE144.ow ho_hP4_3
                    replace hm5_3 := hE144.at hm5_3
                    replace hm22_7 := hE144.at hm22_7
                    have hS := Ext.refl W143
                    refine WT_take (dd := some 115) 0 rfl (by kernel_rfl) (by kernel_rfl) (by kernel_rfl) rfl rfl rfl (fun _wq _hq => r_move (v := .bool _) rfl) hS ?_
                    refine WT_split (dd := some 116) 1 rfl (by kernel_rfl) (by kernel_rfl) (by kernel_rfl) rfl rfl rfl (fun wq hq => r_move (v := .bool _) rfl) hS (fun hs27_1 => ?_) (fun hs27_1 => ?_)
                    ·
                      try with_reducible replace hs27_1 := of_decide_eq_true hs27_1
                      refine WT_pass (dd := some 117) 2 rfl (by kernel_rfl) (by kernel_rfl) (by kernel_rfl) rfl rfl rfl hS ?_
                      refine WT_pass (dd := some 118) 3 rfl (by kernel_rfl) (by kernel_rfl) (by kernel_rfl) rfl rfl rfl hS ?_
                      refine WT_pass (dd := some 119) 4 rfl (by kernel_rfl) (by kernel_rfl) (by kernel_rfl) rfl rfl rfl hS ?_
                      refine WT_pass (dd := some 120) 5 rfl (by kernel_rfl) (by kernel_rfl) (by kernel_rfl) rfl rfl rfl hS ?_
                      refine WT_pass (dd := some 121) 6 rfl (by kernel_rfl) (by kernel_rfl) (by kernel_rfl) rfl rfl rfl hS ?_
                      refine WT_pass (dd := some 122) 7 rfl (by kernel_rfl) (by kernel_rfl) (by kernel_rfl) rfl rfl rfl hS ?_
                      refine WT_take (dd := some 123) 8 rfl (by kernel_rfl) (by kernel_rfl) (by kernel_rfl) rfl rfl rfl (fun _wq _hq => r_pick_t rfl (v := .bool true) rfl) hS ?_
                      refine WT_take (dd := some 17) 9 rfl (by kernel_rfl) (by kernel_rfl) (by kernel_rfl) rfl rfl rfl (fun _wq _hq => r_assign (v := .bool true) rfl) hS ?_
                      refine WT_done (by kernel_rfl) ?_
                      refine hK142 _ _ ?_
                      clear hK142 K141
                      refine WC_region ?_
                      refine WL_val (dd := some 113) rfl rfl rfl (r_move (v := .int .i64 _) rfl) ?_
                      refine WL_val (dd := some 114) rfl rfl rfl (r_addI rfl rfl (by omega) (by omega)) ?_
                      refine WL_val (dd := some 18) rfl rfl rfl (r_assign (v := .int .i64 _) rfl) ?_
                      refine WL_nil ?_
                      refine hJ136 _ _ (k2 + 1) ?_ ?_ ?_ ?_
                      · repeat (first | exact agree.mask _ _ _ | refine agree.updo ?_ rfl _ | refine agree.updL ?_ _ rfl | refine agree.maskS rfl ?_)
                      · exact ⟨rfl, (by first | exact congrArg Value.bool (met_t (by omega) hs27_1) | exact congrArg Value.bool (met_f (by omega) hs27_1)), trivial⟩
                      · exact ⟨hB, hm0_0, hm0_1, ho_hP1_3, ho_hP4_3, hm5_3, hm22_7, (by omega), trivial⟩
                      · first | omega | (dsimp only; omega)
                    ·
                      try with_reducible replace hs27_1 := of_decide_eq_false hs27_1
                      refine WT_take (dd := some 117) 2 rfl (by kernel_rfl) (by kernel_rfl) (by kernel_rfl) rfl rfl rfl (fun _wq _hq => r_move (v := x_hP1_3) rfl) hS ?_
                      refine WT_take (dd := some 118) 3 rfl (by kernel_rfl) (by kernel_rfl) (by kernel_rfl) rfl rfl rfl (fun _wq _hq => r_move (v := .int .i64 _) rfl) hS ?_
                      refine WT_take (dd := some 119) 4 rfl (by kernel_rfl) (by kernel_rfl) (by kernel_rfl) rfl rfl rfl (fun _wq hq => r_idxS (v := x_hP1_3) rfl ((hq.ow ho_hP1_3)).sl rfl tb_el27 (by omega) (by first | omega | (simp only [flagsTo_len, litsTo_len, firstF_len, ptF_len, setF_len]; omega))) hS ?_
                      refine WT_take (dd := some 120) 5 rfl (by kernel_rfl) (by kernel_rfl) (by kernel_rfl) rfl rfl rfl (fun _wq hq => r_load2 rfl tb_ag34 (SlT.cell ((hq.ow ho_hP1_3)).sl encC_len ⟨0, 0⟩ (by omega) (by first | omega | (simp only [flagsTo_len, litsTo_len, firstF_len, ptF_len, setF_len]; omega)) 0 rfl) (SlT.cell ((hq.ow ho_hP1_3)).sl encC_len ⟨0, 0⟩ (by omega) (by first | omega | (simp only [flagsTo_len, litsTo_len, firstF_len, ptF_len, setF_len]; omega)) 1 rfl)) hS ?_
                      refine WT_take (dd := some 121) 6 rfl (by kernel_rfl) (by kernel_rfl) (by kernel_rfl) rfl rfl rfl (fun _wq hq => r_loadW rfl tb_ag34 rfl (hq.at hm22_7)) hS ?_
                      refine WT_take (dd := some 122) 7 rfl (by kernel_rfl) (by kernel_rfl) (by kernel_rfl) rfl rfl rfl (fun _wq _hq => tb_eq34 rfl rfl) hS ?_
                      refine WT_take (dd := some 123) 8 rfl (by kernel_rfl) (by kernel_rfl) (by kernel_rfl) rfl rfl rfl (fun _wq _hq => r_pick_f rfl (v := .bool _) rfl) hS ?_
                      refine WT_take (dd := some 17) 9 rfl (by kernel_rfl) (by kernel_rfl) (by kernel_rfl) rfl rfl rfl (fun _wq _hq => r_assign (v := .bool _) rfl) hS ?_
                      refine WT_done (by kernel_rfl) ?_
                      refine hK142 _ _ ?_
                      clear hK142 K141
                      refine WC_region ?_
                      refine WL_val (dd := some 113) rfl rfl rfl (r_move (v := .int .i64 _) rfl) ?_
                      refine WL_val (dd := some 114) rfl rfl rfl (r_addI rfl rfl (by omega) (by omega)) ?_
                      refine WL_val (dd := some 18) rfl rfl rfl (r_assign (v := .int .i64 _) rfl) ?_
                      refine WL_nil ?_
                      refine hJ136 _ _ (k2 + 1) ?_ ?_ ?_ ?_
                      · repeat (first | exact agree.mask _ _ _ | refine agree.updo ?_ rfl _ | refine agree.updL ?_ _ rfl | refine agree.maskS rfl ?_)
                      · exact ⟨rfl, (by first | exact congrArg Value.bool (met_t (by omega) hs27_1) | exact congrArg Value.bool (met_f (by omega) hs27_1)), trivial⟩
                      · exact ⟨hB, hm0_0, hm0_1, ho_hP1_3, ho_hP4_3, hm5_3, hm22_7, (by omega), trivial⟩
                      · first | omega | (dsimp only; omega)
                  ·
                    try with_reducible replace hc7 := of_decide_eq_false hc7
                    refine WC_exit ?_
                    refine hK130 _ _ ?_
                    clear hK138 K137
                    clear hJ136 J135
                    clear hK130 K129
                    refine WC_seq (fun K145 hK146 => ?_)
                    refine WC_region ?_
                    refine WL_val (dd := some 124) rfl rfl rfl (r_move (v := .bool _) rfl) ?_
                    refine WL_val (dd := some 125) rfl rfl rfl (r_not rfl) ?_
                    refine WL_nil ?_
                    refine hK146 _ _ ?_
                    clear hK146 K145
                    refine WC_cond (b := _) rfl (fun hc8 => ?_) (fun hc8 => ?_)
                    ·
                      try with_reducible replace hc8 := of_decide_eq_true hc8
                      refine WC_seq (fun K147 hK148 => ?_)
                      refine WC_seq (fun K149 hK150 => ?_)
                      obtain ⟨hn1, hn2, hn3⟩ := gro_next (on := on) (m := m) (n := n) (i := j) (by omega) (by have hkk : k2 = (grownTo m n (covL on m n) j).length := (by omega); subst hkk; simpa using hc8)
                      refine WC_draw Ext tb_mix (fun W151 hE152 => ?_)
                      replace hB := below_ext hB hE152 (Nat.le_refl _)
                      replace hm0_0 := hE152.at hm0_0
                      replace hm0_1 := hE152.at hm0_1
                      replace ho_hP1_3 := hE152.ow ho_hP1_3
                      replace ho_hP4_3 := hE152.ow ho_hP4_3
                      replace hm5_3 := hE152.at hm5_3
                      replace hm22_7 := hE152.at hm22_7
                      have hS := Ext.refl W151
                      refine WT_take (dd := some 126) 0 rfl (by kernel_rfl) (by kernel_rfl) (by kernel_rfl) rfl rfl rfl (fun _wq _hq => r_move (v := .int .i64 _) rfl) hS ?_
                      refine WT_take (dd := some 127) 1 rfl (by kernel_rfl) (by kernel_rfl) (by kernel_rfl) rfl rfl rfl (fun _wq _hq => r_move (v := x_hP1_3) rfl) hS ?_
                      refine WT_take (dd := some 128) 2 rfl (by kernel_rfl) (by kernel_rfl) (by kernel_rfl) rfl rfl rfl (fun _wq hq => r_lenS (v := x_hP1_3) rfl ((hq.ow ho_hP1_3)).sl tb_el27) hS ?_
                      refine WT_take (dd := some 129) 3 rfl (by kernel_rfl) (by kernel_rfl) (by kernel_rfl) rfl rfl rfl (fun _wq _hq => r_geq rfl rfl) hS ?_
                      refine WT_split (dd := some 130) 4 rfl (by kernel_rfl) (by kernel_rfl) (by kernel_rfl) rfl rfl rfl (fun wq hq => r_move (v := .bool _) rfl) hS (fun hs29_4 => ?_) (fun hs29_4 => ?_)
                      ·
                        try with_reducible replace hs29_4 := of_decide_eq_true hs29_4
                        omega
                      ·
                        try with_reducible replace hs29_4 := of_decide_eq_false hs29_4
                        refine WT_take (dd := some 131) 5 rfl (by kernel_rfl) (by kernel_rfl) (by kernel_rfl) rfl rfl rfl (fun _wq _hq => r_move (v := x_hP1_3) rfl) hS ?_
                        refine WT_take (dd := some 132) 6 rfl (by kernel_rfl) (by kernel_rfl) (by kernel_rfl) rfl rfl rfl (fun _wq _hq => r_move (v := .int .i64 _) rfl) hS ?_
                        refine WT_take (dd := some 133) 7 rfl (by kernel_rfl) (by kernel_rfl) (by kernel_rfl) rfl rfl rfl (fun _wq hq => r_idxS (v := x_hP1_3) rfl ((hq.ow ho_hP1_3)).sl rfl tb_el27 (by omega) (by first | omega | (simp only [flagsTo_len, litsTo_len, firstF_len, ptF_len, setF_len]; omega))) hS ?_
                        refine WT_take (dd := some 134) 8 rfl (by kernel_rfl) (by kernel_rfl) (by kernel_rfl) rfl rfl rfl (fun _wq hq => r_load2 rfl tb_ag34 (SlT.cell ((hq.ow ho_hP1_3)).sl encC_len ⟨0, 0⟩ (by omega) (by first | omega | (simp only [flagsTo_len, litsTo_len, firstF_len, ptF_len, setF_len]; omega)) 0 rfl) (SlT.cell ((hq.ow ho_hP1_3)).sl encC_len ⟨0, 0⟩ (by omega) (by first | omega | (simp only [flagsTo_len, litsTo_len, firstF_len, ptF_len, setF_len]; omega)) 1 rfl)) hS ?_
                        refine WT_take (dd := some 135) 9 rfl (by kernel_rfl) (by kernel_rfl) (by kernel_rfl) rfl rfl rfl (fun _wq hq => r_loadW rfl tb_ag34 rfl (hq.at hm22_7)) hS ?_
                        refine WT_take (dd := some 136) 10 rfl (by kernel_rfl) (by kernel_rfl) (by kernel_rfl) rfl rfl rfl (fun _wq _hq => tb_neq34 rfl rfl) hS ?_
                        refine WT_take (dd := some 137) 11 rfl (by kernel_rfl) (by kernel_rfl) (by kernel_rfl) rfl rfl rfl (fun _wq _hq => r_pick_f rfl (v := .bool _) rfl) hS ?_
                        refine WT_done (by kernel_rfl) ?_
                        refine hK150 _ _ ?_
                        clear hK150 K149
                        refine WC_cond (b := _) rfl (fun hc9 => ?_) (fun hc9 => ?_)
                        ·
                          try with_reducible replace hc9 := of_decide_eq_true hc9
                          exact absurd (by rw [show ((grownTo m n (covL on m n) j).length : Int).toNat = (grownTo m n (covL on m n) j).length from rfl, hn3]; exact ⟨rfl, rfl⟩) hc9
                        ·
                          try with_reducible replace hc9 := of_decide_eq_false hc9
                          refine WC_skip ?_
                          refine hK148 _ _ ?_
                          clear hK148 K147
                          refine WC_region ?_
                          refine WL_val (dd := some 138) rfl rfl rfl (r_move (v := .int .i64 _) rfl) ?_
                          refine WL_val (dd := some 139) rfl rfl rfl (r_addI rfl rfl (by omega) (by omega)) ?_
                          refine WL_val (dd := some 14) rfl rfl rfl (r_assign (v := .int .i64 _) rfl) ?_
                          refine WL_nil ?_
                          refine hK108 _ _ ?_
                          clear hK108 K107
                          refine WC_region ?_
                          refine WL_val (dd := some 101) rfl rfl rfl (r_move (v := .int .i64 _) rfl) ?_
                          refine WL_val (dd := some 102) rfl rfl rfl (r_addI rfl rfl (by omega) (by omega)) ?_
                          refine WL_val (dd := some 15) rfl rfl rfl (r_assign (v := .int .i64 _) rfl) ?_
                          refine WL_nil ?_
                          refine hJ102 _ _ (j + 1) ?_ ?_ ?_ ?_
                          · repeat (first | exact agree.mask _ _ _ | refine agree.updo ?_ rfl _ | refine agree.updL ?_ _ rfl | refine agree.maskS rfl ?_)
                          · exact ⟨rfl, (by first | exact congrArg (Value.int .i64) (by rw [hn1]; rfl) | exact congrArg (fun q : Nat => Value.int .i64 (q : Int)) (gro_same (on := on) (m := m) (n := n) (i := j) (by omega) (by have hkk : k2 = (grownTo m n (covL on m n) j).length := (by omega); subst hkk; simpa using hc8)).symm), trivial⟩
                          · exact ⟨hB, hm0_0, hm0_1, ho_hP1_3, ho_hP4_3, hm5_3, (by omega), trivial⟩
                          · first | omega | (dsimp only; omega)
                    ·
                      try with_reducible replace hc8 := of_decide_eq_false hc8
                      refine WC_skip ?_
                      refine hK108 _ _ ?_
                      clear hK108 K107
                      refine WC_region ?_
                      refine WL_val (dd := some 101) rfl rfl rfl (r_move (v := .int .i64 _) rfl) ?_
                      refine WL_val (dd := some 102) rfl rfl rfl (r_addI rfl rfl (by omega) (by omega)) ?_
                      refine WL_val (dd := some 15) rfl rfl rfl (r_assign (v := .int .i64 _) rfl) ?_
                      refine WL_nil ?_
                      refine hJ102 _ _ (j + 1) ?_ ?_ ?_ ?_
                      · repeat (first | exact agree.mask _ _ _ | refine agree.updo ?_ rfl _ | refine agree.updL ?_ _ rfl | refine agree.maskS rfl ?_)
                      · exact ⟨rfl, (by first | exact congrArg (Value.int .i64) (by rw [hn1]; rfl) | exact congrArg (fun q : Nat => Value.int .i64 (q : Int)) (gro_same (on := on) (m := m) (n := n) (i := j) (by omega) (by have hkk : k2 = (grownTo m n (covL on m n) j).length := (by omega); subst hkk; simpa using hc8)).symm), trivial⟩
                      · exact ⟨hB, hm0_0, hm0_1, ho_hP1_3, ho_hP4_3, hm5_3, (by omega), trivial⟩
                      · first | omega | (dsimp only; omega)
                ·
                  have lo_b22_7 : w.heap.size ≤ b22_7 := hb118 ▸ (Below.size hB)
                  have no_x_hP1_3_b22_7 := OwT.neB (b := b22_7) ho_hP1_3 (Nat.le_of_eq hb118.symm)
                  have no_x_hP4_3_b22_7 := OwT.neB (b := b22_7) ho_hP4_3 (Nat.le_of_eq hb118.symm)
                  clear hb118
                  have sv120_hB := hB
                  have sv120_hm0_0 := hm0_0
                  have sv120_hm0_1 := hm0_1
                  have sv120_ho_hP1_3 := ho_hP1_3
                  have sv120_ho_hP4_3 := ho_hP4_3
                  have sv120_hm5_3 := hm5_3
                  replace hB := below_ext hB hE119 (Nat.le_refl _)
                  replace hm0_0 := hE119.at hm0_0
                  replace hm0_1 := hE119.at hm0_1
                  replace ho_hP1_3 := hE119.ow ho_hP1_3
                  replace ho_hP4_3 := hE119.ow ho_hP4_3
                  replace hm5_3 := hE119.at hm5_3
                  replace hS := hS.trans hE119
                  clear hE119
                  refine WT_one (dd := some 109) 6 (by kernel_rfl) rfl rfl rfl rfl (Yd.call (r_call3 tb_c44 (v0 := .agg #[_, _]) rfl (v1 := .agg #[_, _, _, _]) rfl (v2 := .int .i64 _) rfl) (C_drawkniferef09_Grow ((covL on m n).getD j ⟨0, 0⟩) _ _ _ hcb h8) (fun v22_6 W153 hE154 hP22_6 => ⟨.inl (hS.trans hE154), ?_⟩))
                  have hsz155 := (Below.size hB)
                  replace hB := below_ext hB hE154 (Nat.le_refl _)
                  replace hm0_0 := hE154.at hm0_0
                  replace hm0_1 := hE154.at hm0_1
                  replace ho_hP1_3 := hE154.ow ho_hP1_3
                  replace ho_hP4_3 := hE154.ow ho_hP4_3
                  replace hm5_3 := hE154.at hm5_3
                  replace hm22_7 := hE154.at hm22_7
                  replace hS := hS.trans hE154
                  clear hE154
                  clear hsz155
                  obtain rfl := hP22_6
                  refine WT_one (dd := none) 8 (by kernel_rfl) rfl rfl rfl rfl (Y_storeW rfl rfl tb_ag34 rfl hm22_7 rfl (by rfl) (fun W156 hG157 hm158 => ⟨.inr (by kernel_rfl), ?_⟩))
                  replace hB := below_grown hB hG157 (Nat.le_refl _) (fun j hj => by cases hj; exact lo_b22_7)
                  replace hm0_0 := At.grownAt hm0_0 hm22_7 hG157 (by decide)
                  replace hm0_1 := At.grownAt hm0_1 hm22_7 hG157 (by decide)
                  replace ho_hP1_3 := OwT.grownAtNe ho_hP1_3 no_x_hP1_3_b22_7 hG157
                  replace ho_hP4_3 := OwT.grownAtNe ho_hP4_3 no_x_hP4_3_b22_7 hG157
                  replace hm5_3 := At.grownAt hm5_3 hm22_7 hG157 (by decide)
                  clear hG157 hm22_7
                  have hm22_7 := hm158
                  clear hm158
                  refine WT_done (by kernel_rfl) ?_
                  try clear sv120_hB sv120_hm0_0 sv120_hm0_1 sv120_ho_hP1_3 sv120_ho_hP4_3 sv120_hm5_3
                  refine hK110 _ _ ?_
                  clear hK110 K109
                  refine WC_seq (fun K159 hK160 => ?_)
                  refine WC_region ?_
                  refine WL_val (dd := some 17) rfl rfl rfl (r_assign (v := .bool false) rfl) ?_
                  refine WL_nil ?_
                  refine hK160 _ _ ?_
                  clear hK160 K159
                  refine WC_seq (fun K161 hK162 => ?_)
                  refine WC_seq (fun K163 hK164 => ?_)
                  refine WC_region ?_
                  refine WL_val (dd := some 18) rfl rfl rfl (r_assign (v := .int .i64 0) rfl) ?_
                  refine WL_nil ?_
                  refine hK164 _ _ ?_
                  clear hK164 K163
                  refine WC_block ?_
                  refine WC_loop (σ := (Nat)) [17, 18, 110, 111, 112, 113, 114, 115, 116, 117, 118, 119, 120, 121, 122, 123] (fun k2 => [(18, .int .i64 (k2 : Int)), (17, .bool (metB (groL on m n) (growS m n ((covL on m n).getD j ⟨0, 0⟩)) k2))]) (fun k2 W => (Below w.heap.size w W) ∧ (At W b0_0 _ 24) ∧ (At W b0_1 _ 24) ∧ (OwT encC 2 34 W w.heap.size x_hP1_3 _) ∧ (OwT encC 2 34 W w.heap.size x_hP4_3 _) ∧ (At W b5_3 _ 24) ∧ (At W b22_7 _ 34) ∧ (k2 ≤ (grownTo m n (covL on m n) j).length) ∧ (True)) (fun k2 => (grownTo m n (covL on m n) j).length - k2) (0) ⟨rfl, congrArg Value.bool (met_zero _ _), trivial⟩ ⟨hB, hm0_0, hm0_1, ho_hP1_3, ho_hP4_3, hm5_3, hm22_7, (Nat.zero_le _), trivial⟩ ?_
                  clear hB hm0_0 hm0_1 ho_hP1_3 ho_hP4_3 hm5_3 hm22_7
                  rintro k2 g166 W165 ⟨hB, hm0_0, hm0_1, ho_hP1_3, ho_hP4_3, hm5_3, hm22_7, hk4, _⟩ J167 hJ168
                  refine WC_seq (fun K169 hK170 => ?_)
                  refine WC_seq (fun K171 hK172 => ?_)
                  refine WC_region ?_
                  refine WL_val (dd := some 110) rfl rfl rfl (r_move (v := .int .i64 _) rfl) ?_
                  refine WL_val (dd := some 111) rfl rfl rfl (r_move (v := .int .i64 _) rfl) ?_
                  refine WL_val (dd := some 112) rfl rfl rfl (r_lss rfl rfl) ?_
                  refine WL_nil ?_
                  refine hK172 _ _ ?_
                  clear hK172 K171
                  refine WC_cond (b := _) rfl (fun hc7 => ?_) (fun hc7 => ?_)
                  ·
                    try with_reducible replace hc7 := of_decide_eq_true hc7
                    refine WC_skip ?_
                    refine hK170 _ _ ?_
                    clear hK170 K169
                    refine WC_seq (fun K173 hK174 => ?_)
                    refine WC_block ?_
                    refine WC_draw Ext tb_mix (fun W175 hE176 => ?_)
                    replace hB := below_ext hB hE176 (Nat.le_refl _)
                    replace hm0_0 := hE176.at hm0_0
                    replace hm0_1 := hE176.at hm0_1
                    replace ho_hP1_3 := hE176.ow ho_hP1_3
                    replace ho_hP4_3 := hE176.ow ho_hP4_3
                    replace hm5_3 := hE176.at hm5_3
                    replace hm22_7 := hE176.at hm22_7
                    have hS := Ext.refl W175
                    refine WT_take (dd := some 115) 0 rfl (by kernel_rfl) (by kernel_rfl) (by kernel_rfl) rfl rfl rfl (fun _wq _hq => r_move (v := .bool _) rfl) hS ?_
                    refine WT_split (dd := some 116) 1 rfl (by kernel_rfl) (by kernel_rfl) (by kernel_rfl) rfl rfl rfl (fun wq hq => r_move (v := .bool _) rfl) hS (fun hs27_1 => ?_) (fun hs27_1 => ?_)
                    ·
                      try with_reducible replace hs27_1 := of_decide_eq_true hs27_1
                      refine WT_pass (dd := some 117) 2 rfl (by kernel_rfl) (by kernel_rfl) (by kernel_rfl) rfl rfl rfl hS ?_
                      refine WT_pass (dd := some 118) 3 rfl (by kernel_rfl) (by kernel_rfl) (by kernel_rfl) rfl rfl rfl hS ?_
                      refine WT_pass (dd := some 119) 4 rfl (by kernel_rfl) (by kernel_rfl) (by kernel_rfl) rfl rfl rfl hS ?_
                      refine WT_pass (dd := some 120) 5 rfl (by kernel_rfl) (by kernel_rfl) (by kernel_rfl) rfl rfl rfl hS ?_
                      refine WT_pass (dd := some 121) 6 rfl (by kernel_rfl) (by kernel_rfl) (by kernel_rfl) rfl rfl rfl hS ?_
                      refine WT_pass (dd := some 122) 7 rfl (by kernel_rfl) (by kernel_rfl) (by kernel_rfl) rfl rfl rfl hS ?_
                      refine WT_take (dd := some 123) 8 rfl (by kernel_rfl) (by kernel_rfl) (by kernel_rfl) rfl rfl rfl (fun _wq _hq => r_pick_t rfl (v := .bool true) rfl) hS ?_
                      refine WT_take (dd := some 17) 9 rfl (by kernel_rfl) (by kernel_rfl) (by kernel_rfl) rfl rfl rfl (fun _wq _hq => r_assign (v := .bool true) rfl) hS ?_
                      refine WT_done (by kernel_rfl) ?_
                      refine hK174 _ _ ?_
                      clear hK174 K173
                      refine WC_region ?_
                      refine WL_val (dd := some 113) rfl rfl rfl (r_move (v := .int .i64 _) rfl) ?_
                      refine WL_val (dd := some 114) rfl rfl rfl (r_addI rfl rfl (by omega) (by omega)) ?_
                      refine WL_val (dd := some 18) rfl rfl rfl (r_assign (v := .int .i64 _) rfl) ?_
                      refine WL_nil ?_
                      refine hJ168 _ _ (k2 + 1) ?_ ?_ ?_ ?_
                      · repeat (first | exact agree.mask _ _ _ | refine agree.updo ?_ rfl _ | refine agree.updL ?_ _ rfl | refine agree.maskS rfl ?_)
                      · exact ⟨rfl, (by first | exact congrArg Value.bool (met_t (by omega) hs27_1) | exact congrArg Value.bool (met_f (by omega) hs27_1)), trivial⟩
                      · exact ⟨hB, hm0_0, hm0_1, ho_hP1_3, ho_hP4_3, hm5_3, hm22_7, (by omega), trivial⟩
                      · first | omega | (dsimp only; omega)
                    ·
                      try with_reducible replace hs27_1 := of_decide_eq_false hs27_1
                      refine WT_take (dd := some 117) 2 rfl (by kernel_rfl) (by kernel_rfl) (by kernel_rfl) rfl rfl rfl (fun _wq _hq => r_move (v := x_hP1_3) rfl) hS ?_
                      refine WT_take (dd := some 118) 3 rfl (by kernel_rfl) (by kernel_rfl) (by kernel_rfl) rfl rfl rfl (fun _wq _hq => r_move (v := .int .i64 _) rfl) hS ?_
                      refine WT_take (dd := some 119) 4 rfl (by kernel_rfl) (by kernel_rfl) (by kernel_rfl) rfl rfl rfl (fun _wq hq => r_idxS (v := x_hP1_3) rfl ((hq.ow ho_hP1_3)).sl rfl tb_el27 (by omega) (by first | omega | (simp only [flagsTo_len, litsTo_len, firstF_len, ptF_len, setF_len]; omega))) hS ?_
                      refine WT_take (dd := some 120) 5 rfl (by kernel_rfl) (by kernel_rfl) (by kernel_rfl) rfl rfl rfl (fun _wq hq => r_load2 rfl tb_ag34 (SlT.cell ((hq.ow ho_hP1_3)).sl encC_len ⟨0, 0⟩ (by omega) (by first | omega | (simp only [flagsTo_len, litsTo_len, firstF_len, ptF_len, setF_len]; omega)) 0 rfl) (SlT.cell ((hq.ow ho_hP1_3)).sl encC_len ⟨0, 0⟩ (by omega) (by first | omega | (simp only [flagsTo_len, litsTo_len, firstF_len, ptF_len, setF_len]; omega)) 1 rfl)) hS ?_
                      refine WT_take (dd := some 121) 6 rfl (by kernel_rfl) (by kernel_rfl) (by kernel_rfl) rfl rfl rfl (fun _wq hq => r_loadW rfl tb_ag34 rfl (hq.at hm22_7)) hS ?_
                      refine WT_take (dd := some 122) 7 rfl (by kernel_rfl) (by kernel_rfl) (by kernel_rfl) rfl rfl rfl (fun _wq _hq => tb_eq34 rfl rfl) hS ?_
                      refine WT_take (dd := some 123) 8 rfl (by kernel_rfl) (by kernel_rfl) (by kernel_rfl) rfl rfl rfl (fun _wq _hq => r_pick_f rfl (v := .bool _) rfl) hS ?_
                      refine WT_take (dd := some 17) 9 rfl (by kernel_rfl) (by kernel_rfl) (by kernel_rfl) rfl rfl rfl (fun _wq _hq => r_assign (v := .bool _) rfl) hS ?_
                      refine WT_done (by kernel_rfl) ?_
                      refine hK174 _ _ ?_
                      clear hK174 K173
                      refine WC_region ?_
                      refine WL_val (dd := some 113) rfl rfl rfl (r_move (v := .int .i64 _) rfl) ?_
                      refine WL_val (dd := some 114) rfl rfl rfl (r_addI rfl rfl (by omega) (by omega)) ?_
                      refine WL_val (dd := some 18) rfl rfl rfl (r_assign (v := .int .i64 _) rfl) ?_
                      refine WL_nil ?_
                      refine hJ168 _ _ (k2 + 1) ?_ ?_ ?_ ?_
                      · repeat (first | exact agree.mask _ _ _ | refine agree.updo ?_ rfl _ | refine agree.updL ?_ _ rfl | refine agree.maskS rfl ?_)
                      · exact ⟨rfl, (by first | exact congrArg Value.bool (met_t (by omega) hs27_1) | exact congrArg Value.bool (met_f (by omega) hs27_1)), trivial⟩
                      · exact ⟨hB, hm0_0, hm0_1, ho_hP1_3, ho_hP4_3, hm5_3, hm22_7, (by omega), trivial⟩
                      · first | omega | (dsimp only; omega)
                  ·
                    try with_reducible replace hc7 := of_decide_eq_false hc7
                    refine WC_exit ?_
                    refine hK162 _ _ ?_
                    clear hK170 K169
                    clear hJ168 J167
                    clear hK162 K161
                    refine WC_seq (fun K177 hK178 => ?_)
                    refine WC_region ?_
                    refine WL_val (dd := some 124) rfl rfl rfl (r_move (v := .bool _) rfl) ?_
                    refine WL_val (dd := some 125) rfl rfl rfl (r_not rfl) ?_
                    refine WL_nil ?_
                    refine hK178 _ _ ?_
                    clear hK178 K177
                    refine WC_cond (b := _) rfl (fun hc8 => ?_) (fun hc8 => ?_)
                    ·
                      try with_reducible replace hc8 := of_decide_eq_true hc8
                      refine WC_seq (fun K179 hK180 => ?_)
                      refine WC_seq (fun K181 hK182 => ?_)
                      obtain ⟨hn1, hn2, hn3⟩ := gro_next (on := on) (m := m) (n := n) (i := j) (by omega) (by have hkk : k2 = (grownTo m n (covL on m n) j).length := (by omega); subst hkk; simpa using hc8)
                      refine WC_draw Ext tb_mix (fun W183 hE184 => ?_)
                      replace hB := below_ext hB hE184 (Nat.le_refl _)
                      replace hm0_0 := hE184.at hm0_0
                      replace hm0_1 := hE184.at hm0_1
                      replace ho_hP1_3 := hE184.ow ho_hP1_3
                      replace ho_hP4_3 := hE184.ow ho_hP4_3
                      replace hm5_3 := hE184.at hm5_3
                      replace hm22_7 := hE184.at hm22_7
                      have hS := Ext.refl W183
                      refine WT_take (dd := some 126) 0 rfl (by kernel_rfl) (by kernel_rfl) (by kernel_rfl) rfl rfl rfl (fun _wq _hq => r_move (v := .int .i64 _) rfl) hS ?_
                      refine WT_take (dd := some 127) 1 rfl (by kernel_rfl) (by kernel_rfl) (by kernel_rfl) rfl rfl rfl (fun _wq _hq => r_move (v := x_hP1_3) rfl) hS ?_
                      refine WT_take (dd := some 128) 2 rfl (by kernel_rfl) (by kernel_rfl) (by kernel_rfl) rfl rfl rfl (fun _wq hq => r_lenS (v := x_hP1_3) rfl ((hq.ow ho_hP1_3)).sl tb_el27) hS ?_
                      refine WT_take (dd := some 129) 3 rfl (by kernel_rfl) (by kernel_rfl) (by kernel_rfl) rfl rfl rfl (fun _wq _hq => r_geq rfl rfl) hS ?_
                      refine WT_split (dd := some 130) 4 rfl (by kernel_rfl) (by kernel_rfl) (by kernel_rfl) rfl rfl rfl (fun wq hq => r_move (v := .bool _) rfl) hS (fun hs29_4 => ?_) (fun hs29_4 => ?_)
                      ·
                        try with_reducible replace hs29_4 := of_decide_eq_true hs29_4
                        omega
                      ·
                        try with_reducible replace hs29_4 := of_decide_eq_false hs29_4
                        refine WT_take (dd := some 131) 5 rfl (by kernel_rfl) (by kernel_rfl) (by kernel_rfl) rfl rfl rfl (fun _wq _hq => r_move (v := x_hP1_3) rfl) hS ?_
                        refine WT_take (dd := some 132) 6 rfl (by kernel_rfl) (by kernel_rfl) (by kernel_rfl) rfl rfl rfl (fun _wq _hq => r_move (v := .int .i64 _) rfl) hS ?_
                        refine WT_take (dd := some 133) 7 rfl (by kernel_rfl) (by kernel_rfl) (by kernel_rfl) rfl rfl rfl (fun _wq hq => r_idxS (v := x_hP1_3) rfl ((hq.ow ho_hP1_3)).sl rfl tb_el27 (by omega) (by first | omega | (simp only [flagsTo_len, litsTo_len, firstF_len, ptF_len, setF_len]; omega))) hS ?_
                        refine WT_take (dd := some 134) 8 rfl (by kernel_rfl) (by kernel_rfl) (by kernel_rfl) rfl rfl rfl (fun _wq hq => r_load2 rfl tb_ag34 (SlT.cell ((hq.ow ho_hP1_3)).sl encC_len ⟨0, 0⟩ (by omega) (by first | omega | (simp only [flagsTo_len, litsTo_len, firstF_len, ptF_len, setF_len]; omega)) 0 rfl) (SlT.cell ((hq.ow ho_hP1_3)).sl encC_len ⟨0, 0⟩ (by omega) (by first | omega | (simp only [flagsTo_len, litsTo_len, firstF_len, ptF_len, setF_len]; omega)) 1 rfl)) hS ?_
                        refine WT_take (dd := some 135) 9 rfl (by kernel_rfl) (by kernel_rfl) (by kernel_rfl) rfl rfl rfl (fun _wq hq => r_loadW rfl tb_ag34 rfl (hq.at hm22_7)) hS ?_
                        refine WT_take (dd := some 136) 10 rfl (by kernel_rfl) (by kernel_rfl) (by kernel_rfl) rfl rfl rfl (fun _wq _hq => tb_neq34 rfl rfl) hS ?_
                        refine WT_take (dd := some 137) 11 rfl (by kernel_rfl) (by kernel_rfl) (by kernel_rfl) rfl rfl rfl (fun _wq _hq => r_pick_f rfl (v := .bool _) rfl) hS ?_
                        refine WT_done (by kernel_rfl) ?_
                        refine hK182 _ _ ?_
                        clear hK182 K181
                        refine WC_cond (b := _) rfl (fun hc9 => ?_) (fun hc9 => ?_)
                        ·
                          try with_reducible replace hc9 := of_decide_eq_true hc9
                          exact absurd (by rw [show ((grownTo m n (covL on m n) j).length : Int).toNat = (grownTo m n (covL on m n) j).length from rfl, hn3]; exact ⟨rfl, rfl⟩) hc9
                        ·
                          try with_reducible replace hc9 := of_decide_eq_false hc9
                          refine WC_skip ?_
                          refine hK180 _ _ ?_
                          clear hK180 K179
                          refine WC_region ?_
                          refine WL_val (dd := some 138) rfl rfl rfl (r_move (v := .int .i64 _) rfl) ?_
                          refine WL_val (dd := some 139) rfl rfl rfl (r_addI rfl rfl (by omega) (by omega)) ?_
                          refine WL_val (dd := some 14) rfl rfl rfl (r_assign (v := .int .i64 _) rfl) ?_
                          refine WL_nil ?_
                          refine hK108 _ _ ?_
                          clear hK108 K107
                          refine WC_region ?_
                          refine WL_val (dd := some 101) rfl rfl rfl (r_move (v := .int .i64 _) rfl) ?_
                          refine WL_val (dd := some 102) rfl rfl rfl (r_addI rfl rfl (by omega) (by omega)) ?_
                          refine WL_val (dd := some 15) rfl rfl rfl (r_assign (v := .int .i64 _) rfl) ?_
                          refine WL_nil ?_
                          refine hJ102 _ _ (j + 1) ?_ ?_ ?_ ?_
                          · repeat (first | exact agree.mask _ _ _ | refine agree.updo ?_ rfl _ | refine agree.updL ?_ _ rfl | refine agree.maskS rfl ?_)
                          · exact ⟨rfl, (by first | exact congrArg (Value.int .i64) (by rw [hn1]; rfl) | exact congrArg (fun q : Nat => Value.int .i64 (q : Int)) (gro_same (on := on) (m := m) (n := n) (i := j) (by omega) (by have hkk : k2 = (grownTo m n (covL on m n) j).length := (by omega); subst hkk; simpa using hc8)).symm), trivial⟩
                          · exact ⟨hB, hm0_0, hm0_1, ho_hP1_3, ho_hP4_3, hm5_3, (by omega), trivial⟩
                          · first | omega | (dsimp only; omega)
                    ·
                      try with_reducible replace hc8 := of_decide_eq_false hc8
                      refine WC_skip ?_
                      refine hK108 _ _ ?_
                      clear hK108 K107
                      refine WC_region ?_
                      refine WL_val (dd := some 101) rfl rfl rfl (r_move (v := .int .i64 _) rfl) ?_
                      refine WL_val (dd := some 102) rfl rfl rfl (r_addI rfl rfl (by omega) (by omega)) ?_
                      refine WL_val (dd := some 15) rfl rfl rfl (r_assign (v := .int .i64 _) rfl) ?_
                      refine WL_nil ?_
                      refine hJ102 _ _ (j + 1) ?_ ?_ ?_ ?_
                      · repeat (first | exact agree.mask _ _ _ | refine agree.updo ?_ rfl _ | refine agree.updL ?_ _ rfl | refine agree.maskS rfl ?_)
                      · exact ⟨rfl, (by first | exact congrArg (Value.int .i64) (by rw [hn1]; rfl) | exact congrArg (fun q : Nat => Value.int .i64 (q : Int)) (gro_same (on := on) (m := m) (n := n) (i := j) (by omega) (by have hkk : k2 = (grownTo m n (covL on m n) j).length := (by omega); subst hkk; simpa using hc8)).symm), trivial⟩
                      · exact ⟨hB, hm0_0, hm0_1, ho_hP1_3, ho_hP4_3, hm5_3, (by omega), trivial⟩
                      · first | omega | (dsimp only; omega)
              ·
                try with_reducible replace hc6 := of_decide_eq_false hc6
                refine WC_exit ?_
                refine hK96 _ _ ?_
                clear hK104 K103
                clear hJ102 J101
                clear hK96 K95
                refine WC_seq (fun K185 hK186 => ?_)
                refine WC_region ?_
                refine WL_val (dd := some 140) rfl rfl rfl (r_move (v := .int .i64 _) rfl) ?_
                refine WL_val (dd := some 141) rfl rfl rfl (r_move (v := x_hP1_3) rfl) ?_
                refine WL_val (dd := some 142) rfl rfl rfl (r_lenS (v := x_hP1_3) rfl ho_hP1_3.sl tb_el27) ?_
                refine WL_val (dd := some 143) rfl rfl rfl (r_eql rfl rfl) ?_
                refine WL_split (dd := some 144) rfl rfl rfl (r_move (v := .bool _) rfl) (fun hs32_4 => ?_) (fun hs32_4 => ?_)
                ·
                  try with_reducible replace hs32_4 := of_decide_eq_true hs32_4
                  refine WL_call (dd := some 145) rfl rfl rfl (r_call0 tb_c34) (C_drawknifelaw12_knows _) (fun v32_5 W187 hE188 hP32_5 => ?_)
                  have hsz189 := (Below.size hB)
                  replace hB := below_ext hB hE188 (Nat.le_refl _)
                  replace hm0_0 := hE188.at hm0_0
                  replace hm0_1 := hE188.at hm0_1
                  replace ho_hP1_3 := hE188.ow ho_hP1_3
                  replace ho_hP4_3 := hE188.ow ho_hP4_3
                  replace hm5_3 := hE188.at hm5_3
                  clear hE188
                  clear hsz189
                  obtain rfl := hP32_5
                  refine WL_val (dd := some 146) rfl rfl rfl (r_pick_t rfl (v := .bool _) rfl) ?_
                  refine WL_val (dd := some 6) rfl rfl rfl (r_assign (v := .bool _) rfl) ?_
                  refine WL_nil ?_
                  refine hK186 _ _ ?_
                  clear hK186 K185
                  refine WC_ret ?_
                  repeat (first | refine thenQ_ret ?_ | refine blockQ_ret ?_)
                  refine ret_t (v := .bool _) rfl ?_
                  refine ⟨hB, ?_⟩
                  rfl
                ·
                  try with_reducible replace hs32_4 := of_decide_eq_false hs32_4
                  exact absurd (by have hj : j = (covL on m n).length := (by omega); subst hj; rfl) hs32_4

end Go.Proofs.Ytdbcijijhhbkaaa
