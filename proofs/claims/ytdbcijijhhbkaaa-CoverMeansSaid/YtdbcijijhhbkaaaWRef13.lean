/-
  The walks of the document's coverings.
-/
import Derived.Test.YtdbcijijhhbkaaaProg
import Derived.Test.YtdbcijijhhbkaaaWCover
import Derived.Test.YtdbcijijhhbkaaaCover4
namespace Go.Proofs.Ytdbcijijhhbkaaa
set_option linter.unusedVariables false
set_option linter.unusedSimpArgs false
open Go Go.RowKit

theorem tb_c110 : callB Try.prog 110 = true := by kernel_rfl
theorem tb_c56 : callB Try.prog 56 = true := by kernel_rfl
theorem tb_c114 : callB Try.prog 114 = true := by kernel_rfl

theorem C_drawkniferef13_Right (n : Int) (rv : Value) (vs : List Value) (L : List (List Int)) (w : World) (hrv : SlT encV 1 w rv vs) (hll : LL w vs L) (hLb : L.length ≤ 1000000) (hRb : ∀ i, (L.getD i []).length ≤ 1000000) :
    Fn Try.prog 47 #[.int .i64 n, rv] w fun v w' => v = .bool (rightM n L) := by
 refine Fn_intro (n := 69) Try.func47 rfl rfl (Nat.le_of_ble_eq_true rfl) ?_
 have hB : Below w.heap.size w w := Below.refl _ _
 have hvl := hll.len
 refine WC_seq (fun K1 hK2 => ?_)
 refine WC_region ?_
 refine WL_val (dd := some 4) rfl rfl rfl (r_assign (v := .bool false) rfl) ?_
 refine WL_nil ?_
 refine hK2 _ _ ?_
 clear hK2 K1
 refine WC_seq (fun K3 hK4 => ?_)
 refine WC_seq (fun K5 hK6 => ?_)
 refine WC_region ?_
 refine WL_val (dd := some 7) rfl rfl rfl (r_move (v := .int .i64 _) rfl) ?_
 refine WL_val (dd := some 8) rfl rfl rfl (r_lss rfl rfl) ?_
 refine WL_split (dd := some 9) rfl rfl rfl (r_move (v := .bool _) rfl) (fun hs1_2 => ?_) (fun hs1_2 => ?_)
 ·
  try with_reducible replace hs1_2 := of_decide_eq_true hs1_2
  refine WL_skip (dd := some 10) rfl rfl rfl ?_
  refine WL_skip (dd := some 11) rfl rfl rfl ?_
  refine WL_val (dd := some 12) rfl rfl rfl (r_pick_t rfl (v := .bool true) rfl) ?_
  refine WL_nil ?_
  refine hK6 _ _ ?_
  clear hK6 K5
  refine WC_cond_true rfl ?_
  refine WC_seq (fun K7 hK8 => ?_)
  refine WC_region ?_
  refine WL_val (dd := some 4) rfl rfl rfl (r_assign (v := .bool false) rfl) ?_
  refine WL_nil ?_
  refine hK8 _ _ ?_
  clear hK8 K7
  refine WC_ret ?_
  repeat (first | refine thenQ_ret ?_ | refine blockQ_ret ?_)
  try clear hK4 K3
  refine ret_t (v := .bool false) rfl ?_
  refine ⟨hB, ?_⟩
  exact rm_c (by omega)
 ·
  try with_reducible replace hs1_2 := of_decide_eq_false hs1_2
  refine WL_val (dd := some 10) rfl rfl rfl (r_move (v := .int .i64 _) rfl) ?_
  refine WL_val (dd := some 11) rfl rfl rfl (r_gtr rfl rfl) ?_
  refine WL_val (dd := some 12) rfl rfl rfl (r_pick_f rfl (v := .bool _) rfl) ?_
  refine WL_nil ?_
  refine hK6 _ _ ?_
  clear hK6 K5
  refine WC_cond (b := _) rfl (fun hc0 => ?_) (fun hc0 => ?_)
  ·
   try with_reducible replace hc0 := of_decide_eq_true hc0
   refine WC_seq (fun K9 hK10 => ?_)
   refine WC_region ?_
   refine WL_val (dd := some 4) rfl rfl rfl (r_assign (v := .bool false) rfl) ?_
   refine WL_nil ?_
   refine hK10 _ _ ?_
   clear hK10 K9
   refine WC_ret ?_
   repeat (first | refine thenQ_ret ?_ | refine blockQ_ret ?_)
   try clear hK4 K3
   refine ret_t (v := .bool false) rfl ?_
   refine ⟨hB, ?_⟩
   exact rm_c (by omega)
  ·
   try with_reducible replace hc0 := of_decide_eq_false hc0
   refine WC_skip ?_
   refine hK4 _ _ ?_
   clear hK4 K3
   refine WC_seq (fun K11 hK12 => ?_)
   refine WC_seq (fun K13 hK14 => ?_)
   refine WC_region ?_
   refine WL_val (dd := some 5) rfl rfl rfl (r_assign (v := .int .i64 0) rfl) ?_
   refine WL_nil ?_
   refine hK14 _ _ ?_
   clear hK14 K13
   refine WC_block ?_
   refine WC_loop (σ := (Nat)) [4, 5, 6, 13, 14, 15, 16, 17, 18, 19, 20, 21, 22, 23, 24, 25, 26, 27, 28, 29, 30, 31, 32, 33, 34, 35, 36, 37, 38, 39, 40, 41, 42, 43, 44, 45, 46, 47, 48, 49, 50, 51, 52, 53, 54, 55, 56, 57, 58, 59, 60, 61, 62, 63, 64, 65, 66, 67, 68] (fun i => [(5, .int .i64 (i : Int))]) (fun i W => (Below w.heap.size w W) ∧ (i ≤ L.length) ∧ (∀ q, q < i → rowOk n (L.getD q []) = true) ∧ (True)) (fun i => L.length - i) (0) ⟨rfl, trivial⟩ ⟨hB, (Nat.zero_le _), upTo_zero, trivial⟩ ?_
   clear hB
   rintro i g16 W15 ⟨hB, hi, hq, _⟩ J17 hJ18
   refine WC_seq (fun K19 hK20 => ?_)
   refine WC_seq (fun K21 hK22 => ?_)
   refine WC_region ?_
   refine WL_val (dd := some 13) rfl rfl rfl (r_move (v := .int .i64 _) rfl) ?_
   refine WL_val (dd := some 14) rfl rfl rfl (r_move (v := rv) rfl) ?_
   refine WL_val (dd := some 15) rfl rfl rfl (r_lenS (v := rv) rfl (Below.slT hB hrv) tb_el54) ?_
   refine WL_val (dd := some 16) rfl rfl rfl (r_lss rfl rfl) ?_
   refine WL_nil ?_
   refine hK22 _ _ ?_
   clear hK22 K21
   refine WC_cond (b := _) rfl (fun hc1 => ?_) (fun hc1 => ?_)
   ·
    try with_reducible replace hc1 := of_decide_eq_true hc1
    refine WC_skip ?_
    refine hK20 _ _ ?_
    clear hK20 K19
    refine WC_seq (fun K23 hK24 => ?_)
    refine WC_block ?_
    refine WC_seq (fun K25 hK26 => ?_)
    refine WC_region ?_
    refine WL_val (dd := some 6) rfl rfl rfl (r_assign (v := .int .i64 0) rfl) ?_
    refine WL_nil ?_
    refine hK26 _ _ ?_
    clear hK26 K25
    refine WC_block ?_
    refine WC_loop (σ := (Nat)) [4, 6, 19, 20, 21, 22, 23, 24, 25, 26, 27, 28, 29, 30, 31, 32, 33, 34, 35, 36, 37, 38, 39, 40, 41, 42, 43, 44, 45, 46, 47, 48, 49, 50, 51, 52, 53, 54, 55, 56, 57, 58, 59, 60, 61, 62, 63, 64, 65, 66, 67, 68] (fun k => [(6, .int .i64 (k : Int))]) (fun k W => (Below w.heap.size w W) ∧ (k ≤ (L.getD i []).length) ∧ (∀ q, q < k → 0 ≤ (L.getD i []).getD q 0 ∧ (L.getD i []).getD q 0 < n ∧ (0 < q → (L.getD i []).getD (q - 1) 0 < (L.getD i []).getD q 0)) ∧ (True)) (fun k => (L.getD i []).length - k) (0) ⟨rfl, trivial⟩ ⟨hB, (Nat.zero_le _), upTo_zero, trivial⟩ ?_
    clear hB
    rintro k g28 W27 ⟨hB, hk, hq2, _⟩ J29 hJ30
    refine WC_seq (fun K31 hK32 => ?_)
    refine WC_seq (fun K33 hK34 => ?_)
    have hRi := hRb i
    refine WC_region ?_
    refine WL_val (dd := some 19) rfl rfl rfl (r_move (v := .int .i64 _) rfl) ?_
    refine WL_val (dd := some 20) rfl rfl rfl (r_move (v := rv) rfl) ?_
    refine WL_val (dd := some 21) rfl rfl rfl (r_move (v := .int .i64 _) rfl) ?_
    refine WL_val (dd := some 22) rfl rfl rfl (r_idxS (v := rv) rfl (Below.slT hB hrv) rfl tb_el54 (by omega) (by first | omega | (simp only [flagsTo_len, litsTo_len, firstF_len, ptF_len, setF_len]; omega))) ?_
    refine WL_val (dd := some 23) rfl rfl rfl (r_load1 (v := (vs.getD i undef)) rfl tb_sc57 (SlT.cell (Below.slT hB hrv) encV_len undef (by omega) (by first | omega | (simp only [flagsTo_len, litsTo_len, firstF_len, ptF_len, setF_len]; omega)) 0 rfl)) ?_
    have hp7_4 : SlT encI 1 w ((vs.getD i undef)) (L.getD i []) := hll.get i (by omega)
    refine WL_val (dd := some 24) rfl rfl rfl (r_lenS (v := (vs.getD i undef)) rfl (Below.slT hB hp7_4) tb_el57) ?_
    refine WL_val (dd := some 25) rfl rfl rfl (r_lss rfl rfl) ?_
    refine WL_nil ?_
    refine hK34 _ _ ?_
    clear hK34 K33
    refine WC_cond (b := _) rfl (fun hc2 => ?_) (fun hc2 => ?_)
    ·
     try with_reducible replace hc2 := of_decide_eq_true hc2
     refine WC_skip ?_
     refine hK32 _ _ ?_
     clear hK32 K31
     refine WC_seq (fun K35 hK36 => ?_)
     refine WC_block ?_
     refine WC_seq (fun K37 hK38 => ?_)
     have hk1 : ((k : Int) - 1).toNat = k - 1 := by omega
     refine WC_draw Ext tb_mix (fun W39 hE40 => ?_)
     replace hB := below_ext hB hE40 (Nat.le_refl _)
     have hS := Ext.refl W39
     refine WT_take (dd := some 28) 0 rfl (by kernel_rfl) (by kernel_rfl) (by kernel_rfl) rfl rfl rfl (fun _wq _hq => r_move (v := rv) rfl) hS ?_
     refine WT_take (dd := some 29) 1 rfl (by kernel_rfl) (by kernel_rfl) (by kernel_rfl) rfl rfl rfl (fun _wq _hq => r_move (v := .int .i64 _) rfl) hS ?_
     refine WT_take (dd := some 30) 2 rfl (by kernel_rfl) (by kernel_rfl) (by kernel_rfl) rfl rfl rfl (fun _wq hq => r_idxS (v := rv) rfl (hq.slT (Below.slT hB hrv)) rfl tb_el54 (by omega) (by first | omega | (simp only [flagsTo_len, litsTo_len, firstF_len, ptF_len, setF_len]; omega))) hS ?_
     refine WT_take (dd := some 31) 3 rfl (by kernel_rfl) (by kernel_rfl) (by kernel_rfl) rfl rfl rfl (fun _wq hq => r_load1 (v := (vs.getD i undef)) rfl tb_sc57 (SlT.cell (hq.slT (Below.slT hB hrv)) encV_len undef (by omega) (by first | omega | (simp only [flagsTo_len, litsTo_len, firstF_len, ptF_len, setF_len]; omega)) 0 rfl)) hS ?_
     have hp9_3 : SlT encI 1 w ((vs.getD i undef)) (L.getD i []) := hll.get i (by omega)
     refine WT_take (dd := some 32) 4 rfl (by kernel_rfl) (by kernel_rfl) (by kernel_rfl) rfl rfl rfl (fun _wq _hq => r_move (v := .int .i64 _) rfl) hS ?_
     refine WT_take (dd := some 33) 5 rfl (by kernel_rfl) (by kernel_rfl) (by kernel_rfl) rfl rfl rfl (fun _wq hq => r_idxS (v := (vs.getD i undef)) rfl (hq.slT (Below.slT hB hp7_4)) rfl tb_el57 (by omega) (by first | omega | (simp only [flagsTo_len, litsTo_len, firstF_len, ptF_len, setF_len]; omega))) hS ?_
     refine WT_take (dd := some 34) 6 rfl (by kernel_rfl) (by kernel_rfl) (by kernel_rfl) rfl rfl rfl (fun _wq hq => r_load1 (v := .int .i64 _) rfl tb_sc3 (SlT.cell (hq.slT (Below.slT hB hp7_4)) encI_len 0 (by omega) (by first | omega | (simp only [flagsTo_len, litsTo_len, firstF_len, ptF_len, setF_len]; omega)) 0 rfl)) hS ?_
     refine WT_take (dd := some 35) 7 rfl (by kernel_rfl) (by kernel_rfl) (by kernel_rfl) rfl rfl rfl (fun _wq _hq => r_lss rfl rfl) hS ?_
     refine WT_split (dd := some 36) 8 rfl (by kernel_rfl) (by kernel_rfl) (by kernel_rfl) rfl rfl rfl (fun wq hq => r_move (v := .bool _) rfl) hS (fun hs9_8 => ?_) (fun hs9_8 => ?_)
     ·
      try with_reducible replace hs9_8 := of_decide_eq_true hs9_8
      refine WT_pass (dd := some 37) 9 rfl (by kernel_rfl) (by kernel_rfl) (by kernel_rfl) rfl rfl rfl hS ?_
      refine WT_pass (dd := some 38) 10 rfl (by kernel_rfl) (by kernel_rfl) (by kernel_rfl) rfl rfl rfl hS ?_
      refine WT_pass (dd := some 39) 11 rfl (by kernel_rfl) (by kernel_rfl) (by kernel_rfl) rfl rfl rfl hS ?_
      refine WT_pass (dd := some 40) 12 rfl (by kernel_rfl) (by kernel_rfl) (by kernel_rfl) rfl rfl rfl hS ?_
      refine WT_pass (dd := some 41) 13 rfl (by kernel_rfl) (by kernel_rfl) (by kernel_rfl) rfl rfl rfl hS ?_
      refine WT_pass (dd := some 42) 14 rfl (by kernel_rfl) (by kernel_rfl) (by kernel_rfl) rfl rfl rfl hS ?_
      refine WT_pass (dd := some 43) 15 rfl (by kernel_rfl) (by kernel_rfl) (by kernel_rfl) rfl rfl rfl hS ?_
      refine WT_pass (dd := some 44) 16 rfl (by kernel_rfl) (by kernel_rfl) (by kernel_rfl) rfl rfl rfl hS ?_
      refine WT_pass (dd := some 45) 17 rfl (by kernel_rfl) (by kernel_rfl) (by kernel_rfl) rfl rfl rfl hS ?_
      refine WT_take (dd := some 46) 18 rfl (by kernel_rfl) (by kernel_rfl) (by kernel_rfl) rfl rfl rfl (fun _wq _hq => r_pick_t rfl (v := .bool true) rfl) hS ?_
      refine WT_take (dd := some 47) 19 rfl (by kernel_rfl) (by kernel_rfl) (by kernel_rfl) rfl rfl rfl (fun _wq _hq => r_move (v := .bool true) rfl) hS ?_
      refine WT_pass (dd := some 48) 20 rfl (by kernel_rfl) (by kernel_rfl) (by kernel_rfl) rfl rfl rfl hS ?_
      refine WT_pass (dd := some 49) 21 rfl (by kernel_rfl) (by kernel_rfl) (by kernel_rfl) rfl rfl rfl hS ?_
      refine WT_pass (dd := some 50) 22 rfl (by kernel_rfl) (by kernel_rfl) (by kernel_rfl) rfl rfl rfl hS ?_
      refine WT_pass (dd := some 51) 23 rfl (by kernel_rfl) (by kernel_rfl) (by kernel_rfl) rfl rfl rfl hS ?_
      refine WT_pass (dd := some 52) 24 rfl (by kernel_rfl) (by kernel_rfl) (by kernel_rfl) rfl rfl rfl hS ?_
      refine WT_pass (dd := some 53) 25 rfl (by kernel_rfl) (by kernel_rfl) (by kernel_rfl) rfl rfl rfl hS ?_
      refine WT_pass (dd := some 54) 26 rfl (by kernel_rfl) (by kernel_rfl) (by kernel_rfl) rfl rfl rfl hS ?_
      refine WT_pass (dd := some 55) 27 rfl (by kernel_rfl) (by kernel_rfl) (by kernel_rfl) rfl rfl rfl hS ?_
      refine WT_pass (dd := some 56) 28 rfl (by kernel_rfl) (by kernel_rfl) (by kernel_rfl) rfl rfl rfl hS ?_
      refine WT_pass (dd := some 57) 29 rfl (by kernel_rfl) (by kernel_rfl) (by kernel_rfl) rfl rfl rfl hS ?_
      refine WT_pass (dd := some 58) 30 rfl (by kernel_rfl) (by kernel_rfl) (by kernel_rfl) rfl rfl rfl hS ?_
      refine WT_pass (dd := some 59) 31 rfl (by kernel_rfl) (by kernel_rfl) (by kernel_rfl) rfl rfl rfl hS ?_
      refine WT_pass (dd := some 60) 32 rfl (by kernel_rfl) (by kernel_rfl) (by kernel_rfl) rfl rfl rfl hS ?_
      refine WT_pass (dd := some 61) 33 rfl (by kernel_rfl) (by kernel_rfl) (by kernel_rfl) rfl rfl rfl hS ?_
      refine WT_pass (dd := some 62) 34 rfl (by kernel_rfl) (by kernel_rfl) (by kernel_rfl) rfl rfl rfl hS ?_
      refine WT_pass (dd := some 63) 35 rfl (by kernel_rfl) (by kernel_rfl) (by kernel_rfl) rfl rfl rfl hS ?_
      refine WT_pass (dd := some 64) 36 rfl (by kernel_rfl) (by kernel_rfl) (by kernel_rfl) rfl rfl rfl hS ?_
      refine WT_pass (dd := some 65) 37 rfl (by kernel_rfl) (by kernel_rfl) (by kernel_rfl) rfl rfl rfl hS ?_
      refine WT_pass (dd := some 66) 38 rfl (by kernel_rfl) (by kernel_rfl) (by kernel_rfl) rfl rfl rfl hS ?_
      refine WT_pass (dd := some 67) 39 rfl (by kernel_rfl) (by kernel_rfl) (by kernel_rfl) rfl rfl rfl hS ?_
      refine WT_take (dd := some 68) 40 rfl (by kernel_rfl) (by kernel_rfl) (by kernel_rfl) rfl rfl rfl (fun _wq _hq => r_pick_t rfl (v := .bool true) rfl) hS ?_
      refine WT_done (by kernel_rfl) ?_
      refine hK38 _ _ ?_
      clear hK38 K37
      refine WC_cond_true rfl ?_
      refine WC_seq (fun K41 hK42 => ?_)
      refine WC_region ?_
      refine WL_val (dd := some 4) rfl rfl rfl (r_assign (v := .bool false) rfl) ?_
      refine WL_nil ?_
      refine hK42 _ _ ?_
      clear hK42 K41
      refine WC_ret ?_
      repeat (first | refine thenQ_ret ?_ | refine blockQ_ret ?_)
      try clear hK36 K35
      try clear hJ30 J29
      try clear hK24 K23
      try clear hJ18 J17
      try clear hK12 K11
      refine ret_t (v := .bool false) rfl ?_
      refine ⟨hB, ?_⟩
      exact rm_f (i := i) (k := k) (by omega) (by omega) (fun h => Int.not_le.2 hs9_8 h.1)
     ·
      try with_reducible replace hs9_8 := of_decide_eq_false hs9_8
      refine WT_take (dd := some 37) 9 rfl (by kernel_rfl) (by kernel_rfl) (by kernel_rfl) rfl rfl rfl (fun _wq _hq => r_move (v := rv) rfl) hS ?_
      refine WT_take (dd := some 38) 10 rfl (by kernel_rfl) (by kernel_rfl) (by kernel_rfl) rfl rfl rfl (fun _wq _hq => r_move (v := .int .i64 _) rfl) hS ?_
      refine WT_take (dd := some 39) 11 rfl (by kernel_rfl) (by kernel_rfl) (by kernel_rfl) rfl rfl rfl (fun _wq hq => r_idxS (v := rv) rfl (hq.slT (Below.slT hB hrv)) rfl tb_el54 (by omega) (by first | omega | (simp only [flagsTo_len, litsTo_len, firstF_len, ptF_len, setF_len]; omega))) hS ?_
      refine WT_take (dd := some 40) 12 rfl (by kernel_rfl) (by kernel_rfl) (by kernel_rfl) rfl rfl rfl (fun _wq hq => r_load1 (v := (vs.getD i undef)) rfl tb_sc57 (SlT.cell (hq.slT (Below.slT hB hrv)) encV_len undef (by omega) (by first | omega | (simp only [flagsTo_len, litsTo_len, firstF_len, ptF_len, setF_len]; omega)) 0 rfl)) hS ?_
      have hp9_12 : SlT encI 1 w ((vs.getD i undef)) (L.getD i []) := hll.get i (by omega)
      refine WT_take (dd := some 41) 13 rfl (by kernel_rfl) (by kernel_rfl) (by kernel_rfl) rfl rfl rfl (fun _wq _hq => r_move (v := .int .i64 _) rfl) hS ?_
      refine WT_take (dd := some 42) 14 rfl (by kernel_rfl) (by kernel_rfl) (by kernel_rfl) rfl rfl rfl (fun _wq hq => r_idxS (v := (vs.getD i undef)) rfl (hq.slT (Below.slT hB hp7_4)) rfl tb_el57 (by omega) (by first | omega | (simp only [flagsTo_len, litsTo_len, firstF_len, ptF_len, setF_len]; omega))) hS ?_
      refine WT_take (dd := some 43) 15 rfl (by kernel_rfl) (by kernel_rfl) (by kernel_rfl) rfl rfl rfl (fun _wq hq => r_load1 (v := .int .i64 _) rfl tb_sc3 (SlT.cell (hq.slT (Below.slT hB hp7_4)) encI_len 0 (by omega) (by first | omega | (simp only [flagsTo_len, litsTo_len, firstF_len, ptF_len, setF_len]; omega)) 0 rfl)) hS ?_
      refine WT_take (dd := some 44) 16 rfl (by kernel_rfl) (by kernel_rfl) (by kernel_rfl) rfl rfl rfl (fun _wq _hq => r_move (v := .int .i64 _) rfl) hS ?_
      refine WT_take (dd := some 45) 17 rfl (by kernel_rfl) (by kernel_rfl) (by kernel_rfl) rfl rfl rfl (fun _wq _hq => r_geq rfl rfl) hS ?_
      refine WT_take (dd := some 46) 18 rfl (by kernel_rfl) (by kernel_rfl) (by kernel_rfl) rfl rfl rfl (fun _wq _hq => r_pick_f rfl (v := .bool _) rfl) hS ?_
      refine WT_split (dd := some 47) 19 rfl (by kernel_rfl) (by kernel_rfl) (by kernel_rfl) rfl rfl rfl (fun wq hq => r_move (v := .bool _) rfl) hS (fun hs9_19 => ?_) (fun hs9_19 => ?_)
      ·
       try with_reducible replace hs9_19 := of_decide_eq_true hs9_19
       refine WT_pass (dd := some 48) 20 rfl (by kernel_rfl) (by kernel_rfl) (by kernel_rfl) rfl rfl rfl hS ?_
       refine WT_pass (dd := some 49) 21 rfl (by kernel_rfl) (by kernel_rfl) (by kernel_rfl) rfl rfl rfl hS ?_
       refine WT_pass (dd := some 50) 22 rfl (by kernel_rfl) (by kernel_rfl) (by kernel_rfl) rfl rfl rfl hS ?_
       refine WT_pass (dd := some 51) 23 rfl (by kernel_rfl) (by kernel_rfl) (by kernel_rfl) rfl rfl rfl hS ?_
       refine WT_pass (dd := some 52) 24 rfl (by kernel_rfl) (by kernel_rfl) (by kernel_rfl) rfl rfl rfl hS ?_
       refine WT_pass (dd := some 53) 25 rfl (by kernel_rfl) (by kernel_rfl) (by kernel_rfl) rfl rfl rfl hS ?_
       refine WT_pass (dd := some 54) 26 rfl (by kernel_rfl) (by kernel_rfl) (by kernel_rfl) rfl rfl rfl hS ?_
       refine WT_pass (dd := some 55) 27 rfl (by kernel_rfl) (by kernel_rfl) (by kernel_rfl) rfl rfl rfl hS ?_
       refine WT_pass (dd := some 56) 28 rfl (by kernel_rfl) (by kernel_rfl) (by kernel_rfl) rfl rfl rfl hS ?_
       refine WT_pass (dd := some 57) 29 rfl (by kernel_rfl) (by kernel_rfl) (by kernel_rfl) rfl rfl rfl hS ?_
       refine WT_pass (dd := some 58) 30 rfl (by kernel_rfl) (by kernel_rfl) (by kernel_rfl) rfl rfl rfl hS ?_
       refine WT_pass (dd := some 59) 31 rfl (by kernel_rfl) (by kernel_rfl) (by kernel_rfl) rfl rfl rfl hS ?_
       refine WT_pass (dd := some 60) 32 rfl (by kernel_rfl) (by kernel_rfl) (by kernel_rfl) rfl rfl rfl hS ?_
       refine WT_pass (dd := some 61) 33 rfl (by kernel_rfl) (by kernel_rfl) (by kernel_rfl) rfl rfl rfl hS ?_
       refine WT_pass (dd := some 62) 34 rfl (by kernel_rfl) (by kernel_rfl) (by kernel_rfl) rfl rfl rfl hS ?_
       refine WT_pass (dd := some 63) 35 rfl (by kernel_rfl) (by kernel_rfl) (by kernel_rfl) rfl rfl rfl hS ?_
       refine WT_pass (dd := some 64) 36 rfl (by kernel_rfl) (by kernel_rfl) (by kernel_rfl) rfl rfl rfl hS ?_
       refine WT_pass (dd := some 65) 37 rfl (by kernel_rfl) (by kernel_rfl) (by kernel_rfl) rfl rfl rfl hS ?_
       refine WT_pass (dd := some 66) 38 rfl (by kernel_rfl) (by kernel_rfl) (by kernel_rfl) rfl rfl rfl hS ?_
       refine WT_pass (dd := some 67) 39 rfl (by kernel_rfl) (by kernel_rfl) (by kernel_rfl) rfl rfl rfl hS ?_
       refine WT_take (dd := some 68) 40 rfl (by kernel_rfl) (by kernel_rfl) (by kernel_rfl) rfl rfl rfl (fun _wq _hq => r_pick_t rfl (v := .bool true) rfl) hS ?_
       refine WT_done (by kernel_rfl) ?_
       refine hK38 _ _ ?_
       clear hK38 K37
       refine WC_cond_true rfl ?_
       refine WC_seq (fun K43 hK44 => ?_)
       refine WC_region ?_
       refine WL_val (dd := some 4) rfl rfl rfl (r_assign (v := .bool false) rfl) ?_
       refine WL_nil ?_
       refine hK44 _ _ ?_
       clear hK44 K43
       refine WC_ret ?_
       repeat (first | refine thenQ_ret ?_ | refine blockQ_ret ?_)
       try clear hK36 K35
       try clear hJ30 J29
       try clear hK24 K23
       try clear hJ18 J17
       try clear hK12 K11
       refine ret_t (v := .bool false) rfl ?_
       refine ⟨hB, ?_⟩
       exact rm_f (i := i) (k := k) (by omega) (by omega) (fun h => Int.not_lt.2 hs9_19 h.2.1)
      ·
       try with_reducible replace hs9_19 := of_decide_eq_false hs9_19
       refine WT_take (dd := some 48) 20 rfl (by kernel_rfl) (by kernel_rfl) (by kernel_rfl) rfl rfl rfl (fun _wq _hq => r_move (v := .int .i64 _) rfl) hS ?_
       refine WT_take (dd := some 49) 21 rfl (by kernel_rfl) (by kernel_rfl) (by kernel_rfl) rfl rfl rfl (fun _wq _hq => r_gtr rfl rfl) hS ?_
       refine WT_split (dd := some 50) 22 rfl (by kernel_rfl) (by kernel_rfl) (by kernel_rfl) rfl rfl rfl (fun wq hq => r_move (v := .bool _) rfl) hS (fun hs9_22 => ?_) (fun hs9_22 => ?_)
       ·
        try with_reducible replace hs9_22 := of_decide_eq_true hs9_22
        refine WT_take (dd := some 51) 23 rfl (by kernel_rfl) (by kernel_rfl) (by kernel_rfl) rfl rfl rfl (fun _wq _hq => r_move (v := rv) rfl) hS ?_
        refine WT_take (dd := some 52) 24 rfl (by kernel_rfl) (by kernel_rfl) (by kernel_rfl) rfl rfl rfl (fun _wq _hq => r_move (v := .int .i64 _) rfl) hS ?_
        refine WT_take (dd := some 53) 25 rfl (by kernel_rfl) (by kernel_rfl) (by kernel_rfl) rfl rfl rfl (fun _wq hq => r_idxS (v := rv) rfl (hq.slT (Below.slT hB hrv)) rfl tb_el54 (by omega) (by first | omega | (simp only [flagsTo_len, litsTo_len, firstF_len, ptF_len, setF_len]; omega))) hS ?_
        refine WT_take (dd := some 54) 26 rfl (by kernel_rfl) (by kernel_rfl) (by kernel_rfl) rfl rfl rfl (fun _wq hq => r_load1 (v := (vs.getD i undef)) rfl tb_sc57 (SlT.cell (hq.slT (Below.slT hB hrv)) encV_len undef (by omega) (by first | omega | (simp only [flagsTo_len, litsTo_len, firstF_len, ptF_len, setF_len]; omega)) 0 rfl)) hS ?_
        have hp9_26 : SlT encI 1 w ((vs.getD i undef)) (L.getD i []) := hll.get i (by omega)
        refine WT_take (dd := some 55) 27 rfl (by kernel_rfl) (by kernel_rfl) (by kernel_rfl) rfl rfl rfl (fun _wq _hq => r_move (v := .int .i64 _) rfl) hS ?_
        refine WT_take (dd := some 56) 28 rfl (by kernel_rfl) (by kernel_rfl) (by kernel_rfl) rfl rfl rfl (fun _wq hq => r_idxS (v := (vs.getD i undef)) rfl (hq.slT (Below.slT hB hp7_4)) rfl tb_el57 (by omega) (by first | omega | (simp only [flagsTo_len, litsTo_len, firstF_len, ptF_len, setF_len]; omega))) hS ?_
        refine WT_take (dd := some 57) 29 rfl (by kernel_rfl) (by kernel_rfl) (by kernel_rfl) rfl rfl rfl (fun _wq hq => r_load1 (v := .int .i64 _) rfl tb_sc3 (SlT.cell (hq.slT (Below.slT hB hp7_4)) encI_len 0 (by omega) (by first | omega | (simp only [flagsTo_len, litsTo_len, firstF_len, ptF_len, setF_len]; omega)) 0 rfl)) hS ?_
        refine WT_take (dd := some 58) 30 rfl (by kernel_rfl) (by kernel_rfl) (by kernel_rfl) rfl rfl rfl (fun _wq _hq => r_move (v := rv) rfl) hS ?_
        refine WT_take (dd := some 59) 31 rfl (by kernel_rfl) (by kernel_rfl) (by kernel_rfl) rfl rfl rfl (fun _wq _hq => r_move (v := .int .i64 _) rfl) hS ?_
        refine WT_take (dd := some 60) 32 rfl (by kernel_rfl) (by kernel_rfl) (by kernel_rfl) rfl rfl rfl (fun _wq hq => r_idxS (v := rv) rfl (hq.slT (Below.slT hB hrv)) rfl tb_el54 (by omega) (by first | omega | (simp only [flagsTo_len, litsTo_len, firstF_len, ptF_len, setF_len]; omega))) hS ?_
        refine WT_take (dd := some 61) 33 rfl (by kernel_rfl) (by kernel_rfl) (by kernel_rfl) rfl rfl rfl (fun _wq hq => r_load1 (v := (vs.getD i undef)) rfl tb_sc57 (SlT.cell (hq.slT (Below.slT hB hrv)) encV_len undef (by omega) (by first | omega | (simp only [flagsTo_len, litsTo_len, firstF_len, ptF_len, setF_len]; omega)) 0 rfl)) hS ?_
        have hp9_33 : SlT encI 1 w ((vs.getD i undef)) (L.getD i []) := hll.get i (by omega)
        refine WT_take (dd := some 62) 34 rfl (by kernel_rfl) (by kernel_rfl) (by kernel_rfl) rfl rfl rfl (fun _wq _hq => r_move (v := .int .i64 _) rfl) hS ?_
        refine WT_take (dd := some 63) 35 rfl (by kernel_rfl) (by kernel_rfl) (by kernel_rfl) rfl rfl rfl (fun _wq _hq => r_subI rfl rfl (by omega) (by omega)) hS ?_
        refine WT_take (dd := some 64) 36 rfl (by kernel_rfl) (by kernel_rfl) (by kernel_rfl) rfl rfl rfl (fun _wq hq => r_idxS (v := (vs.getD i undef)) rfl (hq.slT (Below.slT hB hp7_4)) rfl tb_el57 (by omega) (by first | omega | (simp only [flagsTo_len, litsTo_len, firstF_len, ptF_len, setF_len]; omega))) hS ?_
        refine WT_take (dd := some 65) 37 rfl (by kernel_rfl) (by kernel_rfl) (by kernel_rfl) rfl rfl rfl (fun _wq hq => r_load1 (v := .int .i64 _) rfl tb_sc3 (SlT.cell (hq.slT (Below.slT hB hp7_4)) encI_len 0 (by omega) (by first | omega | (simp only [flagsTo_len, litsTo_len, firstF_len, ptF_len, setF_len]; omega)) 0 rfl)) hS ?_
        refine WT_take (dd := some 66) 38 rfl (by kernel_rfl) (by kernel_rfl) (by kernel_rfl) rfl rfl rfl (fun _wq _hq => r_leq rfl rfl) hS ?_
        refine WT_take (dd := some 67) 39 rfl (by kernel_rfl) (by kernel_rfl) (by kernel_rfl) rfl rfl rfl (fun _wq _hq => r_pick_t rfl (v := .bool _) rfl) hS ?_
        refine WT_take (dd := some 68) 40 rfl (by kernel_rfl) (by kernel_rfl) (by kernel_rfl) rfl rfl rfl (fun _wq _hq => r_pick_f rfl (v := .bool _) rfl) hS ?_
        refine WT_done (by kernel_rfl) ?_
        refine hK38 _ _ ?_
        clear hK38 K37
        refine WC_cond (b := _) rfl (fun hc3 => ?_) (fun hc3 => ?_)
        ·
         try with_reducible replace hc3 := of_decide_eq_true hc3
         refine WC_seq (fun K45 hK46 => ?_)
         refine WC_region ?_
         refine WL_val (dd := some 4) rfl rfl rfl (r_assign (v := .bool false) rfl) ?_
         refine WL_nil ?_
         refine hK46 _ _ ?_
         clear hK46 K45
         refine WC_ret ?_
         repeat (first | refine thenQ_ret ?_ | refine blockQ_ret ?_)
         try clear hK36 K35
         try clear hJ30 J29
         try clear hK24 K23
         try clear hJ18 J17
         try clear hK12 K11
         refine ret_t (v := .bool false) rfl ?_
         refine ⟨hB, ?_⟩
         exact rm_f (i := i) (k := k) (by omega) (by omega) (fun h => by have h2 := h.2.2 (by omega); rw [hk1] at hc3; exact Int.not_lt.2 hc3 h2)
        ·
         try with_reducible replace hc3 := of_decide_eq_false hc3
         refine WC_skip ?_
         refine hK36 _ _ ?_
         clear hK36 K35
         refine WC_region ?_
         refine WL_val (dd := some 26) rfl rfl rfl (r_move (v := .int .i64 _) rfl) ?_
         refine WL_val (dd := some 27) rfl rfl rfl (r_addI rfl rfl (by omega) (by omega)) ?_
         refine WL_val (dd := some 6) rfl rfl rfl (r_assign (v := .int .i64 _) rfl) ?_
         refine WL_nil ?_
         refine hJ30 _ _ (k + 1) ?_ ?_ ?_ ?_
         · repeat (first | exact agree.mask _ _ _ | refine agree.updo ?_ rfl _ | refine agree.updL ?_ _ rfl | refine agree.maskS rfl ?_)
         · exact ⟨rfl, trivial⟩
         · exact ⟨hB, (by omega), (upTo_succ hq2 ⟨Int.not_lt.1 hs9_8, Int.not_le.1 hs9_19, fun _ => by have h := Int.not_le.1 hc3; rw [hk1] at h; exact h⟩), trivial⟩
         · first | omega | (dsimp only; omega)
       ·
        try with_reducible replace hs9_22 := of_decide_eq_false hs9_22
        refine WT_pass (dd := some 51) 23 rfl (by kernel_rfl) (by kernel_rfl) (by kernel_rfl) rfl rfl rfl hS ?_
        refine WT_pass (dd := some 52) 24 rfl (by kernel_rfl) (by kernel_rfl) (by kernel_rfl) rfl rfl rfl hS ?_
        refine WT_pass (dd := some 53) 25 rfl (by kernel_rfl) (by kernel_rfl) (by kernel_rfl) rfl rfl rfl hS ?_
        refine WT_pass (dd := some 54) 26 rfl (by kernel_rfl) (by kernel_rfl) (by kernel_rfl) rfl rfl rfl hS ?_
        refine WT_pass (dd := some 55) 27 rfl (by kernel_rfl) (by kernel_rfl) (by kernel_rfl) rfl rfl rfl hS ?_
        refine WT_pass (dd := some 56) 28 rfl (by kernel_rfl) (by kernel_rfl) (by kernel_rfl) rfl rfl rfl hS ?_
        refine WT_pass (dd := some 57) 29 rfl (by kernel_rfl) (by kernel_rfl) (by kernel_rfl) rfl rfl rfl hS ?_
        refine WT_pass (dd := some 58) 30 rfl (by kernel_rfl) (by kernel_rfl) (by kernel_rfl) rfl rfl rfl hS ?_
        refine WT_pass (dd := some 59) 31 rfl (by kernel_rfl) (by kernel_rfl) (by kernel_rfl) rfl rfl rfl hS ?_
        refine WT_pass (dd := some 60) 32 rfl (by kernel_rfl) (by kernel_rfl) (by kernel_rfl) rfl rfl rfl hS ?_
        refine WT_pass (dd := some 61) 33 rfl (by kernel_rfl) (by kernel_rfl) (by kernel_rfl) rfl rfl rfl hS ?_
        refine WT_pass (dd := some 62) 34 rfl (by kernel_rfl) (by kernel_rfl) (by kernel_rfl) rfl rfl rfl hS ?_
        refine WT_pass (dd := some 63) 35 rfl (by kernel_rfl) (by kernel_rfl) (by kernel_rfl) rfl rfl rfl hS ?_
        refine WT_pass (dd := some 64) 36 rfl (by kernel_rfl) (by kernel_rfl) (by kernel_rfl) rfl rfl rfl hS ?_
        refine WT_pass (dd := some 65) 37 rfl (by kernel_rfl) (by kernel_rfl) (by kernel_rfl) rfl rfl rfl hS ?_
        refine WT_pass (dd := some 66) 38 rfl (by kernel_rfl) (by kernel_rfl) (by kernel_rfl) rfl rfl rfl hS ?_
        refine WT_take (dd := some 67) 39 rfl (by kernel_rfl) (by kernel_rfl) (by kernel_rfl) rfl rfl rfl (fun _wq _hq => r_pick_f rfl (v := .bool false) rfl) hS ?_
        refine WT_take (dd := some 68) 40 rfl (by kernel_rfl) (by kernel_rfl) (by kernel_rfl) rfl rfl rfl (fun _wq _hq => r_pick_f rfl (v := .bool false) rfl) hS ?_
        refine WT_done (by kernel_rfl) ?_
        refine hK38 _ _ ?_
        clear hK38 K37
        refine WC_cond_false rfl ?_
        refine WC_skip ?_
        refine hK36 _ _ ?_
        clear hK36 K35
        refine WC_region ?_
        refine WL_val (dd := some 26) rfl rfl rfl (r_move (v := .int .i64 _) rfl) ?_
        refine WL_val (dd := some 27) rfl rfl rfl (r_addI rfl rfl (by omega) (by omega)) ?_
        refine WL_val (dd := some 6) rfl rfl rfl (r_assign (v := .int .i64 _) rfl) ?_
        refine WL_nil ?_
        refine hJ30 _ _ (k + 1) ?_ ?_ ?_ ?_
        · repeat (first | exact agree.mask _ _ _ | refine agree.updo ?_ rfl _ | refine agree.updL ?_ _ rfl | refine agree.maskS rfl ?_)
        · exact ⟨rfl, trivial⟩
        · exact ⟨hB, (by omega), (upTo_succ hq2 ⟨Int.not_lt.1 hs9_8, Int.not_le.1 hs9_19, fun _ => by omega⟩), trivial⟩
        · first | omega | (dsimp only; omega)
    ·
     try with_reducible replace hc2 := of_decide_eq_false hc2
     refine WC_exit ?_
     refine hK24 _ _ ?_
     clear hK32 K31
     clear hJ30 J29
     clear hK24 K23
     refine WC_region ?_
     refine WL_val (dd := some 17) rfl rfl rfl (r_move (v := .int .i64 _) rfl) ?_
     refine WL_val (dd := some 18) rfl rfl rfl (r_addI rfl rfl (by omega) (by omega)) ?_
     refine WL_val (dd := some 5) rfl rfl rfl (r_assign (v := .int .i64 _) rfl) ?_
     refine WL_nil ?_
     refine hJ18 _ _ (i + 1) ?_ ?_ ?_ ?_
     · repeat (first | exact agree.mask _ _ _ | refine agree.updo ?_ rfl _ | refine agree.updL ?_ _ rfl | refine agree.maskS rfl ?_)
     · exact ⟨rfl, trivial⟩
     · exact ⟨hB, (by omega), (upTo_succ hq (rowOk_iff.2 (fun q hq => hq2 q (by omega)))), trivial⟩
     · first | omega | (dsimp only; omega)
   ·
    try with_reducible replace hc1 := of_decide_eq_false hc1
    refine WC_exit ?_
    refine hK12 _ _ ?_
    clear hK20 K19
    clear hJ18 J17
    clear hK12 K11
    refine WC_seq (fun K47 hK48 => ?_)
    refine WC_region ?_
    refine WL_val (dd := some 4) rfl rfl rfl (r_assign (v := .bool true) rfl) ?_
    refine WL_nil ?_
    refine hK48 _ _ ?_
    clear hK48 K47
    refine WC_ret ?_
    repeat (first | refine thenQ_ret ?_ | refine blockQ_ret ?_)
    refine ret_t (v := .bool true) rfl ?_
    refine ⟨hB, ?_⟩
    obtain rfl : i = L.length := by omega
    exact vb_t (rightM_iff.2 ⟨by omega, by omega, hq⟩)

theorem C_drawkniferef13_Same (xa xb : Value) (a b : List Int) (w : World) (ha : SlT encI 1 w xa a) (hb : SlT encI 1 w xb b) (hal : a.length ≤ 1000000) (hbl : b.length ≤ 1000000) :
    Fn Try.prog 110 #[xa, xb] w fun v w' => v = .bool (decide (a = b)) := by
 refine Fn_intro (n := 26) Try.func110 rfl rfl (Nat.le_of_ble_eq_true rfl) ?_
 have hB : Below w.heap.size w w := Below.refl _ _
 refine WC_seq (fun K1 hK2 => ?_)
 refine WC_region ?_
 refine WL_val (dd := some 4) rfl rfl rfl (r_assign (v := .bool false) rfl) ?_
 refine WL_nil ?_
 refine hK2 _ _ ?_
 clear hK2 K1
 refine WC_seq (fun K3 hK4 => ?_)
 refine WC_seq (fun K5 hK6 => ?_)
 refine WC_region ?_
 refine WL_val (dd := some 6) rfl rfl rfl (r_move (v := xa) rfl) ?_
 refine WL_val (dd := some 7) rfl rfl rfl (r_lenS (v := xa) rfl (Below.slT hB ha) tb_el57) ?_
 refine WL_val (dd := some 8) rfl rfl rfl (r_move (v := xb) rfl) ?_
 refine WL_val (dd := some 9) rfl rfl rfl (r_lenS (v := xb) rfl (Below.slT hB hb) tb_el57) ?_
 refine WL_val (dd := some 10) rfl rfl rfl (r_neq rfl rfl) ?_
 refine WL_nil ?_
 refine hK6 _ _ ?_
 clear hK6 K5
 refine WC_cond (b := _) rfl (fun hc0 => ?_) (fun hc0 => ?_)
 ·
  try with_reducible replace hc0 := of_decide_eq_true hc0
  refine WC_seq (fun K7 hK8 => ?_)
  refine WC_region ?_
  refine WL_val (dd := some 4) rfl rfl rfl (r_assign (v := .bool false) rfl) ?_
  refine WL_nil ?_
  refine hK8 _ _ ?_
  clear hK8 K7
  refine WC_ret ?_
  repeat (first | refine thenQ_ret ?_ | refine blockQ_ret ?_)
  try clear hK4 K3
  refine ret_t (v := .bool false) rfl ?_
  refine ⟨hB, ?_⟩
  exact sm_0 hc0
 ·
  try with_reducible replace hc0 := of_decide_eq_false hc0
  refine WC_skip ?_
  refine hK4 _ _ ?_
  clear hK4 K3
  refine WC_seq (fun K9 hK10 => ?_)
  refine WC_seq (fun K11 hK12 => ?_)
  refine WC_region ?_
  refine WL_val (dd := some 5) rfl rfl rfl (r_assign (v := .int .i64 0) rfl) ?_
  refine WL_nil ?_
  refine hK12 _ _ ?_
  clear hK12 K11
  refine WC_block ?_
  refine WC_loop (σ := (Nat)) [4, 5, 11, 12, 13, 14, 15, 16, 17, 18, 19, 20, 21, 22, 23, 24, 25] (fun k => [(5, .int .i64 (k : Int))]) (fun k W => (Below w.heap.size w W) ∧ (k ≤ a.length) ∧ (∀ q, q < k → a.getD q 0 = b.getD q 0) ∧ (True)) (fun k => a.length - k) (0) ⟨rfl, trivial⟩ ⟨hB, (Nat.zero_le _), upTo_zero, trivial⟩ ?_
  clear hB
  rintro k g14 W13 ⟨hB, hk, hq, _⟩ J15 hJ16
  refine WC_seq (fun K17 hK18 => ?_)
  refine WC_seq (fun K19 hK20 => ?_)
  refine WC_region ?_
  refine WL_val (dd := some 11) rfl rfl rfl (r_move (v := .int .i64 _) rfl) ?_
  refine WL_val (dd := some 12) rfl rfl rfl (r_move (v := xa) rfl) ?_
  refine WL_val (dd := some 13) rfl rfl rfl (r_lenS (v := xa) rfl (Below.slT hB ha) tb_el57) ?_
  refine WL_val (dd := some 14) rfl rfl rfl (r_lss rfl rfl) ?_
  refine WL_nil ?_
  refine hK20 _ _ ?_
  clear hK20 K19
  refine WC_cond (b := _) rfl (fun hc1 => ?_) (fun hc1 => ?_)
  ·
   try with_reducible replace hc1 := of_decide_eq_true hc1
   refine WC_skip ?_
   refine hK18 _ _ ?_
   clear hK18 K17
   refine WC_seq (fun K21 hK22 => ?_)
   refine WC_block ?_
   refine WC_seq (fun K23 hK24 => ?_)
   refine WC_draw Ext tb_mix (fun W25 hE26 => ?_)
   replace hB := below_ext hB hE26 (Nat.le_refl _)
   have hS := Ext.refl W25
   refine WT_take (dd := some 17) 0 rfl (by kernel_rfl) (by kernel_rfl) (by kernel_rfl) rfl rfl rfl (fun _wq _hq => r_move (v := xa) rfl) hS ?_
   refine WT_take (dd := some 18) 1 rfl (by kernel_rfl) (by kernel_rfl) (by kernel_rfl) rfl rfl rfl (fun _wq _hq => r_move (v := .int .i64 _) rfl) hS ?_
   refine WT_take (dd := some 19) 2 rfl (by kernel_rfl) (by kernel_rfl) (by kernel_rfl) rfl rfl rfl (fun _wq hq => r_idxS (v := xa) rfl (hq.slT (Below.slT hB ha)) rfl tb_el57 (by omega) (by first | omega | (simp only [flagsTo_len, litsTo_len, firstF_len, ptF_len, setF_len]; omega))) hS ?_
   refine WT_take (dd := some 20) 3 rfl (by kernel_rfl) (by kernel_rfl) (by kernel_rfl) rfl rfl rfl (fun _wq hq => r_load1 (v := .int .i64 _) rfl tb_sc3 (SlT.cell (hq.slT (Below.slT hB ha)) encI_len 0 (by omega) (by first | omega | (simp only [flagsTo_len, litsTo_len, firstF_len, ptF_len, setF_len]; omega)) 0 rfl)) hS ?_
   refine WT_take (dd := some 21) 4 rfl (by kernel_rfl) (by kernel_rfl) (by kernel_rfl) rfl rfl rfl (fun _wq _hq => r_move (v := xb) rfl) hS ?_
   refine WT_take (dd := some 22) 5 rfl (by kernel_rfl) (by kernel_rfl) (by kernel_rfl) rfl rfl rfl (fun _wq _hq => r_move (v := .int .i64 _) rfl) hS ?_
   refine WT_take (dd := some 23) 6 rfl (by kernel_rfl) (by kernel_rfl) (by kernel_rfl) rfl rfl rfl (fun _wq hq => r_idxS (v := xb) rfl (hq.slT (Below.slT hB hb)) rfl tb_el57 (by omega) (by first | omega | (simp only [flagsTo_len, litsTo_len, firstF_len, ptF_len, setF_len]; omega))) hS ?_
   refine WT_take (dd := some 24) 7 rfl (by kernel_rfl) (by kernel_rfl) (by kernel_rfl) rfl rfl rfl (fun _wq hq => r_load1 (v := .int .i64 _) rfl tb_sc3 (SlT.cell (hq.slT (Below.slT hB hb)) encI_len 0 (by omega) (by first | omega | (simp only [flagsTo_len, litsTo_len, firstF_len, ptF_len, setF_len]; omega)) 0 rfl)) hS ?_
   refine WT_take (dd := some 25) 8 rfl (by kernel_rfl) (by kernel_rfl) (by kernel_rfl) rfl rfl rfl (fun _wq _hq => r_neq rfl rfl) hS ?_
   refine WT_done (by kernel_rfl) ?_
   refine hK24 _ _ ?_
   clear hK24 K23
   refine WC_cond (b := _) rfl (fun hc2 => ?_) (fun hc2 => ?_)
   ·
    try with_reducible replace hc2 := of_decide_eq_true hc2
    refine WC_seq (fun K27 hK28 => ?_)
    refine WC_region ?_
    refine WL_val (dd := some 4) rfl rfl rfl (r_assign (v := .bool false) rfl) ?_
    refine WL_nil ?_
    refine hK28 _ _ ?_
    clear hK28 K27
    refine WC_ret ?_
    repeat (first | refine thenQ_ret ?_ | refine blockQ_ret ?_)
    try clear hK22 K21
    try clear hJ16 J15
    try clear hK10 K9
    refine ret_t (v := .bool false) rfl ?_
    refine ⟨hB, ?_⟩
    exact sm_1 (k := k) (d := 0) hc2
   ·
    try with_reducible replace hc2 := of_decide_eq_false hc2
    refine WC_skip ?_
    refine hK22 _ _ ?_
    clear hK22 K21
    refine WC_region ?_
    refine WL_val (dd := some 15) rfl rfl rfl (r_move (v := .int .i64 _) rfl) ?_
    refine WL_val (dd := some 16) rfl rfl rfl (r_addI rfl rfl (by omega) (by omega)) ?_
    refine WL_val (dd := some 5) rfl rfl rfl (r_assign (v := .int .i64 _) rfl) ?_
    refine WL_nil ?_
    refine hJ16 _ _ (k + 1) ?_ ?_ ?_ ?_
    · repeat (first | exact agree.mask _ _ _ | refine agree.updo ?_ rfl _ | refine agree.updL ?_ _ rfl | refine agree.maskS rfl ?_)
    · exact ⟨rfl, trivial⟩
    · exact ⟨hB, (by omega), (upTo_succ hq (Decidable.of_not_not hc2)), trivial⟩
    · first | omega | (dsimp only; omega)
  ·
   try with_reducible replace hc1 := of_decide_eq_false hc1
   refine WC_exit ?_
   refine hK10 _ _ ?_
   clear hK18 K17
   clear hJ16 J15
   clear hK10 K9
   refine WC_seq (fun K29 hK30 => ?_)
   refine WC_region ?_
   refine WL_val (dd := some 4) rfl rfl rfl (r_assign (v := .bool true) rfl) ?_
   refine WL_nil ?_
   refine hK30 _ _ ?_
   clear hK30 K29
   refine WC_ret ?_
   repeat (first | refine thenQ_ret ?_ | refine blockQ_ret ?_)
   refine ret_t (v := .bool true) rfl ?_
   refine ⟨hB, ?_⟩
   exact sm_2 (k := k) (by omega) (by omega) hq

theorem C_drawkniferef13_SameRows (xa xb : Value) (va vb : List Value) (a b : List (List Int)) (w : World) (ha : SlT encV 1 w xa va) (hb : SlT encV 1 w xb vb) (hla : LL w va a) (hlb : LL w vb b) (hal : a.length ≤ 1000000) (hbl : b.length ≤ 1000000) (hra : ∀ i, (a.getD i []).length ≤ 1000000) (hrb : ∀ i, (b.getD i []).length ≤ 1000000) :
    Fn Try.prog 54 #[xa, xb] w fun v w' => v = .bool (decide (a = b)) := by
 refine Fn_intro (n := 27) Try.func54 rfl rfl (Nat.le_of_ble_eq_true rfl) ?_
 have hB : Below w.heap.size w w := Below.refl _ _
 have hva := hla.len
 have hvb := hlb.len
 refine WC_seq (fun K1 hK2 => ?_)
 refine WC_region ?_
 refine WL_val (dd := some 4) rfl rfl rfl (r_assign (v := .bool false) rfl) ?_
 refine WL_nil ?_
 refine hK2 _ _ ?_
 clear hK2 K1
 refine WC_seq (fun K3 hK4 => ?_)
 refine WC_seq (fun K5 hK6 => ?_)
 refine WC_region ?_
 refine WL_val (dd := some 6) rfl rfl rfl (r_move (v := xa) rfl) ?_
 refine WL_val (dd := some 7) rfl rfl rfl (r_lenS (v := xa) rfl (Below.slT hB ha) tb_el54) ?_
 refine WL_val (dd := some 8) rfl rfl rfl (r_move (v := xb) rfl) ?_
 refine WL_val (dd := some 9) rfl rfl rfl (r_lenS (v := xb) rfl (Below.slT hB hb) tb_el54) ?_
 refine WL_val (dd := some 10) rfl rfl rfl (r_neq rfl rfl) ?_
 refine WL_nil ?_
 refine hK6 _ _ ?_
 clear hK6 K5
 refine WC_cond (b := _) rfl (fun hc0 => ?_) (fun hc0 => ?_)
 ·
  try with_reducible replace hc0 := of_decide_eq_true hc0
  refine WC_seq (fun K7 hK8 => ?_)
  refine WC_region ?_
  refine WL_val (dd := some 4) rfl rfl rfl (r_assign (v := .bool false) rfl) ?_
  refine WL_nil ?_
  refine hK8 _ _ ?_
  clear hK8 K7
  refine WC_ret ?_
  repeat (first | refine thenQ_ret ?_ | refine blockQ_ret ?_)
  try clear hK4 K3
  refine ret_t (v := .bool false) rfl ?_
  refine ⟨hB, ?_⟩
  exact sm_0 (fun h => hc0 (by omega))
 ·
  try with_reducible replace hc0 := of_decide_eq_false hc0
  refine WC_skip ?_
  refine hK4 _ _ ?_
  clear hK4 K3
  refine WC_seq (fun K9 hK10 => ?_)
  refine WC_seq (fun K11 hK12 => ?_)
  refine WC_region ?_
  refine WL_val (dd := some 5) rfl rfl rfl (r_assign (v := .int .i64 0) rfl) ?_
  refine WL_nil ?_
  refine hK12 _ _ ?_
  clear hK12 K11
  refine WC_block ?_
  refine WC_loop (σ := (Nat)) [4, 5, 11, 12, 13, 14, 15, 16, 17, 18, 19, 20, 21, 22, 23, 24, 25, 26] (fun k => [(5, .int .i64 (k : Int))]) (fun k W => (Below w.heap.size w W) ∧ (k ≤ a.length) ∧ (∀ q, q < k → a.getD q [] = b.getD q []) ∧ (True)) (fun k => a.length - k) (0) ⟨rfl, trivial⟩ ⟨hB, (Nat.zero_le _), upTo_zero, trivial⟩ ?_
  clear hB
  rintro k g14 W13 ⟨hB, hk, hq, _⟩ J15 hJ16
  refine WC_seq (fun K17 hK18 => ?_)
  refine WC_seq (fun K19 hK20 => ?_)
  refine WC_region ?_
  refine WL_val (dd := some 11) rfl rfl rfl (r_move (v := .int .i64 _) rfl) ?_
  refine WL_val (dd := some 12) rfl rfl rfl (r_move (v := xa) rfl) ?_
  refine WL_val (dd := some 13) rfl rfl rfl (r_lenS (v := xa) rfl (Below.slT hB ha) tb_el54) ?_
  refine WL_val (dd := some 14) rfl rfl rfl (r_lss rfl rfl) ?_
  refine WL_nil ?_
  refine hK20 _ _ ?_
  clear hK20 K19
  refine WC_cond (b := _) rfl (fun hc1 => ?_) (fun hc1 => ?_)
  ·
   try with_reducible replace hc1 := of_decide_eq_true hc1
   refine WC_skip ?_
   refine hK18 _ _ ?_
   clear hK18 K17
   refine WC_seq (fun K21 hK22 => ?_)
   refine WC_block ?_
   refine WC_seq (fun K23 hK24 => ?_)
   have h1 := hra k
   have h2 := hrb k
   refine WC_draw Ext tb_mix (fun W25 hE26 => ?_)
   replace hB := below_ext hB hE26 (Nat.le_refl _)
   have hS := Ext.refl W25
   refine WT_take (dd := some 17) 0 rfl (by kernel_rfl) (by kernel_rfl) (by kernel_rfl) rfl rfl rfl (fun _wq _hq => r_move (v := xa) rfl) hS ?_
   refine WT_take (dd := some 18) 1 rfl (by kernel_rfl) (by kernel_rfl) (by kernel_rfl) rfl rfl rfl (fun _wq _hq => r_move (v := .int .i64 _) rfl) hS ?_
   refine WT_take (dd := some 19) 2 rfl (by kernel_rfl) (by kernel_rfl) (by kernel_rfl) rfl rfl rfl (fun _wq hq => r_idxS (v := xa) rfl (hq.slT (Below.slT hB ha)) rfl tb_el54 (by omega) (by first | omega | (simp only [flagsTo_len, litsTo_len, firstF_len, ptF_len, setF_len]; omega))) hS ?_
   refine WT_take (dd := some 20) 3 rfl (by kernel_rfl) (by kernel_rfl) (by kernel_rfl) rfl rfl rfl (fun _wq hq => r_load1 (v := (va.getD k undef)) rfl tb_sc57 (SlT.cell (hq.slT (Below.slT hB ha)) encV_len undef (by omega) (by first | omega | (simp only [flagsTo_len, litsTo_len, firstF_len, ptF_len, setF_len]; omega)) 0 rfl)) hS ?_
   have hp6_3 : SlT encI 1 w ((va.getD k undef)) (a.getD k []) := hla.get k (by omega)
   refine WT_take (dd := some 21) 4 rfl (by kernel_rfl) (by kernel_rfl) (by kernel_rfl) rfl rfl rfl (fun _wq _hq => r_move (v := xb) rfl) hS ?_
   refine WT_take (dd := some 22) 5 rfl (by kernel_rfl) (by kernel_rfl) (by kernel_rfl) rfl rfl rfl (fun _wq _hq => r_move (v := .int .i64 _) rfl) hS ?_
   refine WT_take (dd := some 23) 6 rfl (by kernel_rfl) (by kernel_rfl) (by kernel_rfl) rfl rfl rfl (fun _wq hq => r_idxS (v := xb) rfl (hq.slT (Below.slT hB hb)) rfl tb_el54 (by omega) (by first | omega | (simp only [flagsTo_len, litsTo_len, firstF_len, ptF_len, setF_len]; omega))) hS ?_
   refine WT_take (dd := some 24) 7 rfl (by kernel_rfl) (by kernel_rfl) (by kernel_rfl) rfl rfl rfl (fun _wq hq => r_load1 (v := (vb.getD k undef)) rfl tb_sc57 (SlT.cell (hq.slT (Below.slT hB hb)) encV_len undef (by omega) (by first | omega | (simp only [flagsTo_len, litsTo_len, firstF_len, ptF_len, setF_len]; omega)) 0 rfl)) hS ?_
   have hp6_7 : SlT encI 1 w ((vb.getD k undef)) (b.getD k []) := hlb.get k (by omega)
   refine WT_one (dd := some 25) 8 (by kernel_rfl) rfl rfl rfl rfl (Yd.call (r_call2 tb_c110 (v0 := (va.getD k undef)) rfl (v1 := (vb.getD k undef)) rfl) (C_drawkniferef13_Same _ _ _ _ _ (Below.slT hB hp6_3) (Below.slT hB hp6_7) (by first | assumption | omega) (by first | assumption | omega)) (fun v6_8 W27 hE28 hP6_8 => ⟨.inl (hS.trans hE28), ?_⟩))
   have hsz29 := (Below.size hB)
   have sv30_hB := hB
   replace hB := below_ext hB hE28 (Nat.le_refl _)
   replace hS := hS.trans hE28
   clear hE28
   clear hsz29
   obtain rfl := hP6_8
   refine WT_take (dd := some 26) 9 rfl (by kernel_rfl) (by kernel_rfl) (by kernel_rfl) rfl rfl rfl (fun _wq _hq => r_not rfl) hS ?_
   refine WT_done (by kernel_rfl) ?_
   try clear sv30_hB
   refine hK24 _ _ ?_
   clear hK24 K23
   refine WC_cond (b := _) rfl (fun hc2 => ?_) (fun hc2 => ?_)
   ·
    try with_reducible replace hc2 := of_decide_eq_true hc2
    refine WC_seq (fun K31 hK32 => ?_)
    refine WC_region ?_
    refine WL_val (dd := some 4) rfl rfl rfl (r_assign (v := .bool false) rfl) ?_
    refine WL_nil ?_
    refine hK32 _ _ ?_
    clear hK32 K31
    refine WC_ret ?_
    repeat (first | refine thenQ_ret ?_ | refine blockQ_ret ?_)
    try clear hK22 K21
    try clear hJ16 J15
    try clear hK10 K9
    refine ret_t (v := .bool false) rfl ?_
    refine ⟨hB, ?_⟩
    exact sm_1 (k := k) (d := []) (of_decide_eq_false (not_t hc2))
   ·
    try with_reducible replace hc2 := of_decide_eq_false hc2
    refine WC_skip ?_
    refine hK22 _ _ ?_
    clear hK22 K21
    refine WC_region ?_
    refine WL_val (dd := some 15) rfl rfl rfl (r_move (v := .int .i64 _) rfl) ?_
    refine WL_val (dd := some 16) rfl rfl rfl (r_addI rfl rfl (by omega) (by omega)) ?_
    refine WL_val (dd := some 5) rfl rfl rfl (r_assign (v := .int .i64 _) rfl) ?_
    refine WL_nil ?_
    refine hJ16 _ _ (k + 1) ?_ ?_ ?_ ?_
    · repeat (first | exact agree.mask _ _ _ | refine agree.updo ?_ rfl _ | refine agree.updL ?_ _ rfl | refine agree.maskS rfl ?_)
    · exact ⟨rfl, trivial⟩
    · exact ⟨hB, (by omega), (upTo_succ hq (of_decide_eq_true (not_f hc2))), trivial⟩
    · first | omega | (dsimp only; omega)
  ·
   try with_reducible replace hc1 := of_decide_eq_false hc1
   refine WC_exit ?_
   refine hK10 _ _ ?_
   clear hK18 K17
   clear hJ16 J15
   clear hK10 K9
   refine WC_seq (fun K33 hK34 => ?_)
   refine WC_region ?_
   refine WL_val (dd := some 4) rfl rfl rfl (r_assign (v := .bool true) rfl) ?_
   refine WL_nil ?_
   refine hK34 _ _ ?_
   clear hK34 K33
   refine WC_ret ?_
   repeat (first | refine thenQ_ret ?_ | refine blockQ_ret ?_)
   refine ret_t (v := .bool true) rfl ?_
   refine ⟨hB, ?_⟩
   exact sm_2 (k := k) (by omega) (by omega) hq

theorem C_drawkniferef13_ahead (xa xb : Value) (a b : List Int) (w : World) (ha : SlT encI 1 w xa a) (hb : SlT encI 1 w xb b) (hal : a.length ≤ 1000000) (hbl : b.length ≤ 1000000) :
    Fn Try.prog 114 #[xa, xb] w fun v w' => v = .bool (aheadB a b) := by
 refine Fn_intro (n := 48) Try.func114 rfl rfl (Nat.le_of_ble_eq_true rfl) ?_
 have hB : Below w.heap.size w w := Below.refl _ _
 refine WC_seq (fun K1 hK2 => ?_)
 refine WC_region ?_
 refine WL_val (dd := some 4) rfl rfl rfl (r_assign (v := .bool false) rfl) ?_
 refine WL_nil ?_
 refine hK2 _ _ ?_
 clear hK2 K1
 refine WC_seq (fun K3 hK4 => ?_)
 refine WC_seq (fun K5 hK6 => ?_)
 refine WC_region ?_
 refine WL_val (dd := some 6) rfl rfl rfl (r_move (v := xa) rfl) ?_
 refine WL_val (dd := some 7) rfl rfl rfl (r_lenS (v := xa) rfl (Below.slT hB ha) tb_el57) ?_
 refine WL_val (dd := some 8) rfl rfl rfl (r_move (v := xb) rfl) ?_
 refine WL_val (dd := some 9) rfl rfl rfl (r_lenS (v := xb) rfl (Below.slT hB hb) tb_el57) ?_
 refine WL_val (dd := some 10) rfl rfl rfl (r_lss rfl rfl) ?_
 refine WL_nil ?_
 refine hK6 _ _ ?_
 clear hK6 K5
 refine WC_cond (b := _) rfl (fun hc0 => ?_) (fun hc0 => ?_)
 ·
  try with_reducible replace hc0 := of_decide_eq_true hc0
  refine WC_seq (fun K7 hK8 => ?_)
  refine WC_region ?_
  refine WL_val (dd := some 4) rfl rfl rfl (r_assign (v := .bool true) rfl) ?_
  refine WL_nil ?_
  refine hK8 _ _ ?_
  clear hK8 K7
  refine WC_ret ?_
  repeat (first | refine thenQ_ret ?_ | refine blockQ_ret ?_)
  try clear hK4 K3
  refine ret_t (v := .bool true) rfl ?_
  refine ⟨hB, ?_⟩
  exact vb_t (ah_lt (by omega))
 ·
  try with_reducible replace hc0 := of_decide_eq_false hc0
  refine WC_skip ?_
  refine hK4 _ _ ?_
  clear hK4 K3
  refine WC_seq (fun K9 hK10 => ?_)
  refine WC_seq (fun K11 hK12 => ?_)
  refine WC_region ?_
  refine WL_val (dd := some 11) rfl rfl rfl (r_move (v := xa) rfl) ?_
  refine WL_val (dd := some 12) rfl rfl rfl (r_lenS (v := xa) rfl (Below.slT hB ha) tb_el57) ?_
  refine WL_val (dd := some 13) rfl rfl rfl (r_move (v := xb) rfl) ?_
  refine WL_val (dd := some 14) rfl rfl rfl (r_lenS (v := xb) rfl (Below.slT hB hb) tb_el57) ?_
  refine WL_val (dd := some 15) rfl rfl rfl (r_gtr rfl rfl) ?_
  refine WL_nil ?_
  refine hK12 _ _ ?_
  clear hK12 K11
  refine WC_cond (b := _) rfl (fun hc1 => ?_) (fun hc1 => ?_)
  ·
   try with_reducible replace hc1 := of_decide_eq_true hc1
   refine WC_seq (fun K13 hK14 => ?_)
   refine WC_region ?_
   refine WL_val (dd := some 4) rfl rfl rfl (r_assign (v := .bool false) rfl) ?_
   refine WL_nil ?_
   refine hK14 _ _ ?_
   clear hK14 K13
   refine WC_ret ?_
   repeat (first | refine thenQ_ret ?_ | refine blockQ_ret ?_)
   try clear hK10 K9
   refine ret_t (v := .bool false) rfl ?_
   refine ⟨hB, ?_⟩
   exact vb_f (by rw [ah_gt (by omega)]; decide)
  ·
   try with_reducible replace hc1 := of_decide_eq_false hc1
   refine WC_skip ?_
   refine hK10 _ _ ?_
   clear hK10 K9
   refine WC_seq (fun K15 hK16 => ?_)
   refine WC_region ?_
   refine WL_val (dd := some 5) rfl rfl rfl (r_assign (v := .int .i64 0) rfl) ?_
   refine WL_nil ?_
   refine hK16 _ _ ?_
   clear hK16 K15
   refine WC_seq (fun K17 hK18 => ?_)
   refine WC_block ?_
   refine WC_loop (σ := (Nat)) [5, 16, 17, 18, 19, 20, 21, 22, 23, 24, 25, 26, 27, 28, 29, 30, 31, 32] (fun k => [(5, .int .i64 (k : Int))]) (fun k W => (Below w.heap.size w W) ∧ (k ≤ a.length) ∧ (∀ q, q < k → a.getD q 0 = b.getD q 0) ∧ (True)) (fun k => a.length - k) (0) ⟨rfl, trivial⟩ ⟨hB, (Nat.zero_le _), upTo_zero, trivial⟩ ?_
   clear hB
   rintro k g20 W19 ⟨hB, hk, hq, _⟩ J21 hJ22
   refine WC_seq (fun K23 hK24 => ?_)
   refine WC_seq (fun K25 hK26 => ?_)
   refine WC_draw Ext tb_mix (fun W27 hE28 => ?_)
   replace hB := below_ext hB hE28 (Nat.le_refl _)
   have hS := Ext.refl W27
   refine WT_take (dd := some 16) 0 rfl (by kernel_rfl) (by kernel_rfl) (by kernel_rfl) rfl rfl rfl (fun _wq _hq => r_move (v := .int .i64 _) rfl) hS ?_
   refine WT_take (dd := some 17) 1 rfl (by kernel_rfl) (by kernel_rfl) (by kernel_rfl) rfl rfl rfl (fun _wq _hq => r_move (v := xa) rfl) hS ?_
   refine WT_take (dd := some 18) 2 rfl (by kernel_rfl) (by kernel_rfl) (by kernel_rfl) rfl rfl rfl (fun _wq hq => r_lenS (v := xa) rfl (hq.slT (Below.slT hB ha)) tb_el57) hS ?_
   refine WT_take (dd := some 19) 3 rfl (by kernel_rfl) (by kernel_rfl) (by kernel_rfl) rfl rfl rfl (fun _wq _hq => r_lss rfl rfl) hS ?_
   refine WT_split (dd := some 20) 4 rfl (by kernel_rfl) (by kernel_rfl) (by kernel_rfl) rfl rfl rfl (fun wq hq => r_move (v := .bool _) rfl) hS (fun hs6_4 => ?_) (fun hs6_4 => ?_)
   ·
    try with_reducible replace hs6_4 := of_decide_eq_true hs6_4
    refine WT_take (dd := some 21) 5 rfl (by kernel_rfl) (by kernel_rfl) (by kernel_rfl) rfl rfl rfl (fun _wq _hq => r_move (v := xa) rfl) hS ?_
    refine WT_take (dd := some 22) 6 rfl (by kernel_rfl) (by kernel_rfl) (by kernel_rfl) rfl rfl rfl (fun _wq _hq => r_move (v := .int .i64 _) rfl) hS ?_
    refine WT_take (dd := some 23) 7 rfl (by kernel_rfl) (by kernel_rfl) (by kernel_rfl) rfl rfl rfl (fun _wq hq => r_idxS (v := xa) rfl (hq.slT (Below.slT hB ha)) rfl tb_el57 (by omega) (by first | omega | (simp only [flagsTo_len, litsTo_len, firstF_len, ptF_len, setF_len]; omega))) hS ?_
    refine WT_take (dd := some 24) 8 rfl (by kernel_rfl) (by kernel_rfl) (by kernel_rfl) rfl rfl rfl (fun _wq hq => r_load1 (v := .int .i64 _) rfl tb_sc3 (SlT.cell (hq.slT (Below.slT hB ha)) encI_len 0 (by omega) (by first | omega | (simp only [flagsTo_len, litsTo_len, firstF_len, ptF_len, setF_len]; omega)) 0 rfl)) hS ?_
    refine WT_take (dd := some 25) 9 rfl (by kernel_rfl) (by kernel_rfl) (by kernel_rfl) rfl rfl rfl (fun _wq _hq => r_move (v := xb) rfl) hS ?_
    refine WT_take (dd := some 26) 10 rfl (by kernel_rfl) (by kernel_rfl) (by kernel_rfl) rfl rfl rfl (fun _wq _hq => r_move (v := .int .i64 _) rfl) hS ?_
    refine WT_take (dd := some 27) 11 rfl (by kernel_rfl) (by kernel_rfl) (by kernel_rfl) rfl rfl rfl (fun _wq hq => r_idxS (v := xb) rfl (hq.slT (Below.slT hB hb)) rfl tb_el57 (by omega) (by first | omega | (simp only [flagsTo_len, litsTo_len, firstF_len, ptF_len, setF_len]; omega))) hS ?_
    refine WT_take (dd := some 28) 12 rfl (by kernel_rfl) (by kernel_rfl) (by kernel_rfl) rfl rfl rfl (fun _wq hq => r_load1 (v := .int .i64 _) rfl tb_sc3 (SlT.cell (hq.slT (Below.slT hB hb)) encI_len 0 (by omega) (by first | omega | (simp only [flagsTo_len, litsTo_len, firstF_len, ptF_len, setF_len]; omega)) 0 rfl)) hS ?_
    refine WT_take (dd := some 29) 13 rfl (by kernel_rfl) (by kernel_rfl) (by kernel_rfl) rfl rfl rfl (fun _wq _hq => r_eql rfl rfl) hS ?_
    refine WT_take (dd := some 30) 14 rfl (by kernel_rfl) (by kernel_rfl) (by kernel_rfl) rfl rfl rfl (fun _wq _hq => r_pick_t rfl (v := .bool _) rfl) hS ?_
    refine WT_done (by kernel_rfl) ?_
    refine hK26 _ _ ?_
    clear hK26 K25
    refine WC_cond (b := _) rfl (fun hc2 => ?_) (fun hc2 => ?_)
    ·
     try with_reducible replace hc2 := of_decide_eq_true hc2
     refine WC_skip ?_
     refine hK24 _ _ ?_
     clear hK24 K23
     refine WC_block ?_
     refine WC_region ?_
     refine WL_val (dd := some 31) rfl rfl rfl (r_move (v := .int .i64 _) rfl) ?_
     refine WL_val (dd := some 32) rfl rfl rfl (r_addI rfl rfl (by omega) (by omega)) ?_
     refine WL_val (dd := some 5) rfl rfl rfl (r_assign (v := .int .i64 _) rfl) ?_
     refine WL_nil ?_
     refine hJ22 _ _ (k + 1) ?_ ?_ ?_ ?_
     · repeat (first | exact agree.mask _ _ _ | refine agree.updo ?_ rfl _ | refine agree.updL ?_ _ rfl | refine agree.maskS rfl ?_)
     · exact ⟨rfl, trivial⟩
     · exact ⟨hB, (by omega), (upTo_succ hq hc2), trivial⟩
     · first | omega | (dsimp only; omega)
    ·
     try with_reducible replace hc2 := of_decide_eq_false hc2
     refine WC_exit ?_
     refine hK18 _ _ ?_
     clear hK24 K23
     clear hJ22 J21
     clear hK18 K17
     refine WC_seq (fun K29 hK30 => ?_)
     refine WC_draw Ext tb_mix (fun W31 hE32 => ?_)
     replace hB := below_ext hB hE32 (Nat.le_refl _)
     have hS := Ext.refl W31
     refine WT_take (dd := some 33) 0 rfl (by kernel_rfl) (by kernel_rfl) (by kernel_rfl) rfl rfl rfl (fun _wq _hq => r_move (v := .int .i64 _) rfl) hS ?_
     refine WT_take (dd := some 34) 1 rfl (by kernel_rfl) (by kernel_rfl) (by kernel_rfl) rfl rfl rfl (fun _wq _hq => r_move (v := xa) rfl) hS ?_
     refine WT_take (dd := some 35) 2 rfl (by kernel_rfl) (by kernel_rfl) (by kernel_rfl) rfl rfl rfl (fun _wq hq => r_lenS (v := xa) rfl (hq.slT (Below.slT hB ha)) tb_el57) hS ?_
     refine WT_take (dd := some 36) 3 rfl (by kernel_rfl) (by kernel_rfl) (by kernel_rfl) rfl rfl rfl (fun _wq _hq => r_lss rfl rfl) hS ?_
     refine WT_split (dd := some 37) 4 rfl (by kernel_rfl) (by kernel_rfl) (by kernel_rfl) rfl rfl rfl (fun wq hq => r_move (v := .bool _) rfl) hS (fun hs8_4 => ?_) (fun hs8_4 => ?_)
     ·
      try with_reducible replace hs8_4 := of_decide_eq_true hs8_4
      refine WT_take (dd := some 38) 5 rfl (by kernel_rfl) (by kernel_rfl) (by kernel_rfl) rfl rfl rfl (fun _wq _hq => r_move (v := xa) rfl) hS ?_
      refine WT_take (dd := some 39) 6 rfl (by kernel_rfl) (by kernel_rfl) (by kernel_rfl) rfl rfl rfl (fun _wq _hq => r_move (v := .int .i64 _) rfl) hS ?_
      refine WT_take (dd := some 40) 7 rfl (by kernel_rfl) (by kernel_rfl) (by kernel_rfl) rfl rfl rfl (fun _wq hq => r_idxS (v := xa) rfl (hq.slT (Below.slT hB ha)) rfl tb_el57 (by omega) (by first | omega | (simp only [flagsTo_len, litsTo_len, firstF_len, ptF_len, setF_len]; omega))) hS ?_
      refine WT_take (dd := some 41) 8 rfl (by kernel_rfl) (by kernel_rfl) (by kernel_rfl) rfl rfl rfl (fun _wq hq => r_load1 (v := .int .i64 _) rfl tb_sc3 (SlT.cell (hq.slT (Below.slT hB ha)) encI_len 0 (by omega) (by first | omega | (simp only [flagsTo_len, litsTo_len, firstF_len, ptF_len, setF_len]; omega)) 0 rfl)) hS ?_
      refine WT_take (dd := some 42) 9 rfl (by kernel_rfl) (by kernel_rfl) (by kernel_rfl) rfl rfl rfl (fun _wq _hq => r_move (v := xb) rfl) hS ?_
      refine WT_take (dd := some 43) 10 rfl (by kernel_rfl) (by kernel_rfl) (by kernel_rfl) rfl rfl rfl (fun _wq _hq => r_move (v := .int .i64 _) rfl) hS ?_
      refine WT_take (dd := some 44) 11 rfl (by kernel_rfl) (by kernel_rfl) (by kernel_rfl) rfl rfl rfl (fun _wq hq => r_idxS (v := xb) rfl (hq.slT (Below.slT hB hb)) rfl tb_el57 (by omega) (by first | omega | (simp only [flagsTo_len, litsTo_len, firstF_len, ptF_len, setF_len]; omega))) hS ?_
      refine WT_take (dd := some 45) 12 rfl (by kernel_rfl) (by kernel_rfl) (by kernel_rfl) rfl rfl rfl (fun _wq hq => r_load1 (v := .int .i64 _) rfl tb_sc3 (SlT.cell (hq.slT (Below.slT hB hb)) encI_len 0 (by omega) (by first | omega | (simp only [flagsTo_len, litsTo_len, firstF_len, ptF_len, setF_len]; omega)) 0 rfl)) hS ?_
      refine WT_take (dd := some 46) 13 rfl (by kernel_rfl) (by kernel_rfl) (by kernel_rfl) rfl rfl rfl (fun _wq _hq => r_lss rfl rfl) hS ?_
      refine WT_take (dd := some 47) 14 rfl (by kernel_rfl) (by kernel_rfl) (by kernel_rfl) rfl rfl rfl (fun _wq _hq => r_pick_t rfl (v := .bool _) rfl) hS ?_
      refine WT_take (dd := some 4) 15 rfl (by kernel_rfl) (by kernel_rfl) (by kernel_rfl) rfl rfl rfl (fun _wq _hq => r_assign (v := .bool _) rfl) hS ?_
      refine WT_done (by kernel_rfl) ?_
      refine hK30 _ _ ?_
      clear hK30 K29
      refine WC_ret ?_
      repeat (first | refine thenQ_ret ?_ | refine blockQ_ret ?_)
      refine ret_t (v := .bool _) rfl ?_
      refine ⟨hB, ?_⟩
      exact ah_r1 (k := k) (by omega) (by omega) hq hc2
     ·
      try with_reducible replace hs8_4 := of_decide_eq_false hs8_4
      exact absurd hs6_4 hs8_4
   ·
    try with_reducible replace hs6_4 := of_decide_eq_false hs6_4
    refine WT_pass (dd := some 21) 5 rfl (by kernel_rfl) (by kernel_rfl) (by kernel_rfl) rfl rfl rfl hS ?_
    refine WT_pass (dd := some 22) 6 rfl (by kernel_rfl) (by kernel_rfl) (by kernel_rfl) rfl rfl rfl hS ?_
    refine WT_pass (dd := some 23) 7 rfl (by kernel_rfl) (by kernel_rfl) (by kernel_rfl) rfl rfl rfl hS ?_
    refine WT_pass (dd := some 24) 8 rfl (by kernel_rfl) (by kernel_rfl) (by kernel_rfl) rfl rfl rfl hS ?_
    refine WT_pass (dd := some 25) 9 rfl (by kernel_rfl) (by kernel_rfl) (by kernel_rfl) rfl rfl rfl hS ?_
    refine WT_pass (dd := some 26) 10 rfl (by kernel_rfl) (by kernel_rfl) (by kernel_rfl) rfl rfl rfl hS ?_
    refine WT_pass (dd := some 27) 11 rfl (by kernel_rfl) (by kernel_rfl) (by kernel_rfl) rfl rfl rfl hS ?_
    refine WT_pass (dd := some 28) 12 rfl (by kernel_rfl) (by kernel_rfl) (by kernel_rfl) rfl rfl rfl hS ?_
    refine WT_pass (dd := some 29) 13 rfl (by kernel_rfl) (by kernel_rfl) (by kernel_rfl) rfl rfl rfl hS ?_
    refine WT_take (dd := some 30) 14 rfl (by kernel_rfl) (by kernel_rfl) (by kernel_rfl) rfl rfl rfl (fun _wq _hq => r_pick_f rfl (v := .bool false) rfl) hS ?_
    refine WT_done (by kernel_rfl) ?_
    refine hK26 _ _ ?_
    clear hK26 K25
    refine WC_cond_false rfl ?_
    refine WC_exit ?_
    refine hK18 _ _ ?_
    clear hK24 K23
    clear hJ22 J21
    clear hK18 K17
    refine WC_seq (fun K33 hK34 => ?_)
    refine WC_draw Ext tb_mix (fun W35 hE36 => ?_)
    replace hB := below_ext hB hE36 (Nat.le_refl _)
    have hS := Ext.refl W35
    refine WT_take (dd := some 33) 0 rfl (by kernel_rfl) (by kernel_rfl) (by kernel_rfl) rfl rfl rfl (fun _wq _hq => r_move (v := .int .i64 _) rfl) hS ?_
    refine WT_take (dd := some 34) 1 rfl (by kernel_rfl) (by kernel_rfl) (by kernel_rfl) rfl rfl rfl (fun _wq _hq => r_move (v := xa) rfl) hS ?_
    refine WT_take (dd := some 35) 2 rfl (by kernel_rfl) (by kernel_rfl) (by kernel_rfl) rfl rfl rfl (fun _wq hq => r_lenS (v := xa) rfl (hq.slT (Below.slT hB ha)) tb_el57) hS ?_
    refine WT_take (dd := some 36) 3 rfl (by kernel_rfl) (by kernel_rfl) (by kernel_rfl) rfl rfl rfl (fun _wq _hq => r_lss rfl rfl) hS ?_
    refine WT_split (dd := some 37) 4 rfl (by kernel_rfl) (by kernel_rfl) (by kernel_rfl) rfl rfl rfl (fun wq hq => r_move (v := .bool _) rfl) hS (fun hs8_4 => ?_) (fun hs8_4 => ?_)
    ·
     try with_reducible replace hs8_4 := of_decide_eq_true hs8_4
     exact absurd hs8_4 hs6_4
    ·
     try with_reducible replace hs8_4 := of_decide_eq_false hs8_4
     refine WT_pass (dd := some 38) 5 rfl (by kernel_rfl) (by kernel_rfl) (by kernel_rfl) rfl rfl rfl hS ?_
     refine WT_pass (dd := some 39) 6 rfl (by kernel_rfl) (by kernel_rfl) (by kernel_rfl) rfl rfl rfl hS ?_
     refine WT_pass (dd := some 40) 7 rfl (by kernel_rfl) (by kernel_rfl) (by kernel_rfl) rfl rfl rfl hS ?_
     refine WT_pass (dd := some 41) 8 rfl (by kernel_rfl) (by kernel_rfl) (by kernel_rfl) rfl rfl rfl hS ?_
     refine WT_pass (dd := some 42) 9 rfl (by kernel_rfl) (by kernel_rfl) (by kernel_rfl) rfl rfl rfl hS ?_
     refine WT_pass (dd := some 43) 10 rfl (by kernel_rfl) (by kernel_rfl) (by kernel_rfl) rfl rfl rfl hS ?_
     refine WT_pass (dd := some 44) 11 rfl (by kernel_rfl) (by kernel_rfl) (by kernel_rfl) rfl rfl rfl hS ?_
     refine WT_pass (dd := some 45) 12 rfl (by kernel_rfl) (by kernel_rfl) (by kernel_rfl) rfl rfl rfl hS ?_
     refine WT_pass (dd := some 46) 13 rfl (by kernel_rfl) (by kernel_rfl) (by kernel_rfl) rfl rfl rfl hS ?_
     refine WT_take (dd := some 47) 14 rfl (by kernel_rfl) (by kernel_rfl) (by kernel_rfl) rfl rfl rfl (fun _wq _hq => r_pick_f rfl (v := .bool false) rfl) hS ?_
     refine WT_take (dd := some 4) 15 rfl (by kernel_rfl) (by kernel_rfl) (by kernel_rfl) rfl rfl rfl (fun _wq _hq => r_assign (v := .bool false) rfl) hS ?_
     refine WT_done (by kernel_rfl) ?_
     refine hK34 _ _ ?_
     clear hK34 K33
     refine WC_ret ?_
     repeat (first | refine thenQ_ret ?_ | refine blockQ_ret ?_)
     refine ret_t (v := .bool false) rfl ?_
     refine ⟨hB, ?_⟩
     exact ah_r2 (k := k) (by omega) (by omega) hq

theorem C_drawkniferef13_May (S : Sp) (onV mayV : Value) (xa : Value) (l : List Rw) (w : World) (hon : SlT encS 4 w onV S.on) (hmay : SlT encS 4 w mayV S.may) (hl : SlT encR 3 w xa l) (hlb : l.length ≤ 1000000) (hlr : RowB l) :
    Fn Try.prog 53 #[.agg #[.int .i64 S.n, onV, mayV], xa] w fun v w' => v = .int .i64 (mayM S l) := by
 refine Fn_intro (n := 27) Try.func53 rfl rfl (Nat.le_of_ble_eq_true rfl) ?_
 have hB : Below w.heap.size w w := Below.refl _ _
 refine WC_seq (fun K1 hK2 => ?_)
 refine WC_region ?_
 refine WL_step (dd := some 2) rfl rfl rfl (Y_box (c := #[_, _, _]) rfl rfl (fun b0_0 W3 hb4 hE5 hm0_0 => ?_))
 have lo_b0_0 : w.heap.size ≤ b0_0 := hb4 ▸ (Below.size hB)
 clear hb4
 replace hB := below_ext hB hE5 (Nat.le_refl _)
 clear hE5
 refine WL_val (dd := some 4) rfl rfl rfl (r_assign (v := .int .i64 0) rfl) ?_
 refine WL_nil ?_
 refine hK2 _ _ ?_
 clear hK2 K1
 refine WC_seq (fun K6 hK7 => ?_)
 refine WC_seq (fun K8 hK9 => ?_)
 refine WC_region ?_
 refine WL_val (dd := some 6) rfl rfl rfl (r_loadW rfl tb_ag64 rfl hm0_0) ?_
 refine WL_call (dd := some 7) rfl rfl rfl (r_call1 tb_c56 (v0 := .agg #[_, _, _]) rfl) (C_drawkniferef04_Right S _ _  _ (Below.slT hB hon) (Below.slT hB hmay) ) (fun v1_1 W10 hE11 hP1_1 => ?_)
 have hsz12 := (Below.size hB)
 replace hB := below_ext hB hE11 (Nat.le_refl _)
 replace hm0_0 := hE11.at hm0_0
 clear hE11
 clear hsz12
 obtain rfl := hP1_1
 refine WL_val (dd := some 8) rfl rfl rfl (r_not rfl) ?_
 refine WL_nil ?_
 refine hK9 _ _ ?_
 clear hK9 K8
 refine WC_cond (b := _) rfl (fun hc0 => ?_) (fun hc0 => ?_)
 ·
  try with_reducible replace hc0 := of_decide_eq_true hc0
  refine WC_seq (fun K13 hK14 => ?_)
  refine WC_region ?_
  refine WL_val (dd := some 4) rfl rfl rfl (r_assign (v := .int .i64 1) rfl) ?_
  refine WL_nil ?_
  refine hK14 _ _ ?_
  clear hK14 K13
  refine WC_ret ?_
  repeat (first | refine thenQ_ret ?_ | refine blockQ_ret ?_)
  try clear hK7 K6
  refine ret_t (v := .int .i64 1) rfl ?_
  refine ⟨hB, ?_⟩
  rw [may_1 (by rw [not_t hc0]; decide)]
 ·
  try with_reducible replace hc0 := of_decide_eq_false hc0
  refine WC_skip ?_
  refine hK7 _ _ ?_
  clear hK7 K6
  refine WC_seq (fun K15 hK16 => ?_)
  refine WC_seq (fun K17 hK18 => ?_)
  have hr : rightS S = true := not_f hc0
  refine WC_region ?_
  refine WL_val (dd := some 5) rfl rfl rfl (r_assign (v := .int .i64 0) rfl) ?_
  refine WL_nil ?_
  refine hK18 _ _ ?_
  clear hK18 K17
  refine WC_block ?_
  refine WC_loop (σ := (Nat)) [4, 5, 9, 10, 11, 12, 13, 14, 15, 16, 17, 18, 19, 20, 21, 22, 23] (fun k => [(5, .int .i64 (k : Int))]) (fun k W => (Below w.heap.size w W) ∧ (At W b0_0 _ 64) ∧ (k ≤ l.length) ∧ (∀ q, q < k → rightB (l.getD q ⟨⟨0, 0⟩, 0⟩).c.m (l.getD q ⟨⟨0, 0⟩, 0⟩).c.v S.n = true) ∧ (True)) (fun k => l.length - k) (0) ⟨rfl, trivial⟩ ⟨hB, hm0_0, (Nat.zero_le _), upTo_zero, trivial⟩ ?_
  clear hB hm0_0
  rintro k g20 W19 ⟨hB, hm0_0, hk, hq, _⟩ J21 hJ22
  refine WC_seq (fun K23 hK24 => ?_)
  refine WC_seq (fun K25 hK26 => ?_)
  refine WC_region ?_
  refine WL_val (dd := some 9) rfl rfl rfl (r_move (v := .int .i64 _) rfl) ?_
  refine WL_val (dd := some 10) rfl rfl rfl (r_move (v := xa) rfl) ?_
  refine WL_val (dd := some 11) rfl rfl rfl (r_lenS (v := xa) rfl (Below.slT hB hl) tb_el65) ?_
  refine WL_val (dd := some 12) rfl rfl rfl (r_lss rfl rfl) ?_
  refine WL_nil ?_
  refine hK26 _ _ ?_
  clear hK26 K25
  refine WC_cond (b := _) rfl (fun hc1 => ?_) (fun hc1 => ?_)
  ·
   try with_reducible replace hc1 := of_decide_eq_true hc1
   refine WC_skip ?_
   refine hK24 _ _ ?_
   clear hK24 K23
   refine WC_seq (fun K27 hK28 => ?_)
   refine WC_block ?_
   refine WC_seq (fun K29 hK30 => ?_)
   obtain ⟨hb1, hb2, hb3⟩ := hlr.get (k := k) (by omega)
   refine WC_draw Ext tb_mix (fun W31 hE32 => ?_)
   replace hB := below_ext hB hE32 (Nat.le_refl _)
   replace hm0_0 := hE32.at hm0_0
   have hS := Ext.refl W31
   refine WT_take (dd := some 15) 0 rfl (by kernel_rfl) (by kernel_rfl) (by kernel_rfl) rfl rfl rfl (fun _wq _hq => r_move (v := xa) rfl) hS ?_
   refine WT_take (dd := some 16) 1 rfl (by kernel_rfl) (by kernel_rfl) (by kernel_rfl) rfl rfl rfl (fun _wq _hq => r_move (v := .int .i64 _) rfl) hS ?_
   refine WT_take (dd := some 17) 2 rfl (by kernel_rfl) (by kernel_rfl) (by kernel_rfl) rfl rfl rfl (fun _wq hq => r_idxS (v := xa) rfl (hq.slT (Below.slT hB hl)) rfl tb_el65 (by omega) (by first | omega | (simp only [flagsTo_len, litsTo_len, firstF_len, ptF_len, setF_len]; omega))) hS ?_
   refine WT_take (dd := some 18) 3 rfl (by kernel_rfl) (by kernel_rfl) (by kernel_rfl) rfl rfl rfl (fun _wq _hq => r_fieldAddr (b := _) (o := _) rfl tb_fo79_0) hS ?_
   refine WT_take (dd := some 19) 4 rfl (by kernel_rfl) (by kernel_rfl) (by kernel_rfl) rfl rfl rfl (fun _wq hq => r_load2 rfl tb_ag34 (SlT.cell (hq.slT (Below.slT hB hl)) encR_len ⟨⟨0, 0⟩, 0⟩ (by omega) (by first | omega | (simp only [flagsTo_len, litsTo_len, firstF_len, ptF_len, setF_len]; omega)) 0 rfl) (SlT.cell (hq.slT (Below.slT hB hl)) encR_len ⟨⟨0, 0⟩, 0⟩ (by omega) (by first | omega | (simp only [flagsTo_len, litsTo_len, firstF_len, ptF_len, setF_len]; omega)) 1 rfl)) hS ?_
   refine WT_take (dd := some 20) 5 rfl (by kernel_rfl) (by kernel_rfl) (by kernel_rfl) rfl rfl rfl (fun _wq _hq => r_fieldAddr (b := _) (o := _) rfl tb_fo64_0) hS ?_
   refine WT_take (dd := some 21) 6 rfl (by kernel_rfl) (by kernel_rfl) (by kernel_rfl) rfl rfl rfl (fun _wq hq => r_load1 (v := .int .i64 _) rfl tb_sc3 (At.cell (hq.at hm0_0) rfl)) hS ?_
   refine WT_one (dd := some 22) 7 (by kernel_rfl) rfl rfl rfl rfl (Yd.call (r_call2 tb_c92 (v0 := .agg #[_, _]) rfl (v1 := .int .i64 _) rfl) (C_drawkniferef02_Right _ _ _ _ hb1 hb2) (fun v6_7 W33 hE34 hP6_7 => ⟨.inl (hS.trans hE34), ?_⟩))
   have hsz35 := (Below.size hB)
   have sv36_hB := hB
   have sv36_hm0_0 := hm0_0
   replace hB := below_ext hB hE34 (Nat.le_refl _)
   replace hm0_0 := hE34.at hm0_0
   replace hS := hS.trans hE34
   clear hE34
   clear hsz35
   obtain rfl := hP6_7
   refine WT_take (dd := some 23) 8 rfl (by kernel_rfl) (by kernel_rfl) (by kernel_rfl) rfl rfl rfl (fun _wq _hq => r_not rfl) hS ?_
   refine WT_done (by kernel_rfl) ?_
   try clear sv36_hB sv36_hm0_0
   refine hK30 _ _ ?_
   clear hK30 K29
   refine WC_cond (b := _) rfl (fun hc2 => ?_) (fun hc2 => ?_)
   ·
    try with_reducible replace hc2 := of_decide_eq_true hc2
    refine WC_seq (fun K37 hK38 => ?_)
    refine WC_region ?_
    refine WL_val (dd := some 4) rfl rfl rfl (r_assign (v := .int .i64 1) rfl) ?_
    refine WL_nil ?_
    refine hK38 _ _ ?_
    clear hK38 K37
    refine WC_ret ?_
    repeat (first | refine thenQ_ret ?_ | refine blockQ_ret ?_)
    try clear hK28 K27
    try clear hJ22 J21
    try clear hK16 K15
    refine ret_t (v := .int .i64 1) rfl ?_
    refine ⟨hB, ?_⟩
    rw [may_2 (k := k) (by omega) (fun q => by have := (not_t hc2).symm.trans q; cases this)]
   ·
    try with_reducible replace hc2 := of_decide_eq_false hc2
    refine WC_skip ?_
    refine hK28 _ _ ?_
    clear hK28 K27
    refine WC_region ?_
    refine WL_val (dd := some 13) rfl rfl rfl (r_move (v := .int .i64 _) rfl) ?_
    refine WL_val (dd := some 14) rfl rfl rfl (r_addI rfl rfl (by omega) (by omega)) ?_
    refine WL_val (dd := some 5) rfl rfl rfl (r_assign (v := .int .i64 _) rfl) ?_
    refine WL_nil ?_
    refine hJ22 _ _ (k + 1) ?_ ?_ ?_ ?_
    · repeat (first | exact agree.mask _ _ _ | refine agree.updo ?_ rfl _ | refine agree.updL ?_ _ rfl | refine agree.maskS rfl ?_)
    · exact ⟨rfl, trivial⟩
    · exact ⟨hB, hm0_0, (by omega), (upTo_succ hq (not_f hc2)), trivial⟩
    · first | omega | (dsimp only; omega)
  ·
   try with_reducible replace hc1 := of_decide_eq_false hc1
   refine WC_exit ?_
   refine hK16 _ _ ?_
   clear hK24 K23
   clear hJ22 J21
   clear hK16 K15
   refine WC_seq (fun K39 hK40 => ?_)
   refine WC_seq (fun K41 hK42 => ?_)
   refine WC_region ?_
   refine WL_val (dd := some 24) rfl rfl rfl (r_move (v := xa) rfl) ?_
   refine WL_val (dd := some 25) rfl rfl rfl (r_lenS (v := xa) rfl (Below.slT hB hl) tb_el65) ?_
   refine WL_val (dd := some 26) rfl rfl rfl (r_gtr rfl rfl) ?_
   refine WL_nil ?_
   refine hK42 _ _ ?_
   clear hK42 K41
   refine WC_cond (b := _) rfl (fun hc3 => ?_) (fun hc3 => ?_)
   ·
    try with_reducible replace hc3 := of_decide_eq_true hc3
    refine WC_seq (fun K43 hK44 => ?_)
    refine WC_region ?_
    refine WL_val (dd := some 4) rfl rfl rfl (r_assign (v := .int .i64 3) rfl) ?_
    refine WL_nil ?_
    refine hK44 _ _ ?_
    clear hK44 K43
    refine WC_ret ?_
    repeat (first | refine thenQ_ret ?_ | refine blockQ_ret ?_)
    try clear hK40 K39
    refine ret_t (v := .int .i64 3) rfl ?_
    refine ⟨hB, ?_⟩
    obtain rfl : k = l.length := by omega
    rw [may_3 hr hq (by omega)]
   ·
    try with_reducible replace hc3 := of_decide_eq_false hc3
    refine WC_skip ?_
    refine hK40 _ _ ?_
    clear hK40 K39
    refine WC_seq (fun K45 hK46 => ?_)
    refine WC_region ?_
    refine WL_val (dd := some 4) rfl rfl rfl (r_assign (v := .int .i64 0) rfl) ?_
    refine WL_nil ?_
    refine hK46 _ _ ?_
    clear hK46 K45
    refine WC_ret ?_
    repeat (first | refine thenQ_ret ?_ | refine blockQ_ret ?_)
    refine ret_t (v := .int .i64 0) rfl ?_
    refine ⟨hB, ?_⟩
    obtain rfl : k = l.length := by omega
    rw [may_0 hr hq (by omega)]

theorem C_drawkniferef13_Solves (rv : Value) (vs : List Value) (L : List (List Int)) (xc : Value) (cols : List Int) (w : World) (hrv : SlT encV 1 w rv vs) (hll : LL w vs L) (hLb : L.length ≤ 1000000) (hRb : ∀ i, (L.getD i []).length ≤ 1000000) (hc : SlT encI 1 w xc cols) (hcb : cols.length ≤ 1000000) :
    Fn Try.prog 50 #[rv, xc] w fun v w' => v = .bool (solvesB L cols) := by
 refine Fn_intro (n := 47) Try.func50 rfl rfl (Nat.le_of_ble_eq_true rfl) ?_
 have hB : Below w.heap.size w w := Below.refl _ _
 have hvl := hll.len
 refine WC_seq (fun K1 hK2 => ?_)
 refine WC_region ?_
 refine WL_val (dd := some 4) rfl rfl rfl (r_assign (v := .bool false) rfl) ?_
 refine WL_nil ?_
 refine hK2 _ _ ?_
 clear hK2 K1
 refine WC_seq (fun K3 hK4 => ?_)
 refine WC_seq (fun K5 hK6 => ?_)
 refine WC_region ?_
 refine WL_val (dd := some 5) rfl rfl rfl (r_assign (v := .int .i64 0) rfl) ?_
 refine WL_nil ?_
 refine hK6 _ _ ?_
 clear hK6 K5
 refine WC_block ?_
 refine WC_loop (σ := (Nat)) [4, 5, 6, 7, 8, 9, 10, 11, 12, 13, 14, 15, 16, 17, 18, 19, 20, 21, 22, 23, 24, 25, 26, 27, 28, 29, 30, 31, 32, 33, 34, 35, 36, 37, 38, 39, 40, 41, 42, 43, 44, 45, 46] (fun i => [(5, .int .i64 (i : Int))]) (fun i W => (Below w.heap.size w W) ∧ (i ≤ L.length) ∧ (∀ q, q < i → ((L.getD q []).any fun c => decide (c ∈ cols)) = true) ∧ (True)) (fun i => L.length - i) (0) ⟨rfl, trivial⟩ ⟨hB, (Nat.zero_le _), upTo_zero, trivial⟩ ?_
 clear hB
 rintro i g8 W7 ⟨hB, hi, hq, _⟩ J9 hJ10
 refine WC_seq (fun K11 hK12 => ?_)
 refine WC_seq (fun K13 hK14 => ?_)
 refine WC_region ?_
 refine WL_val (dd := some 9) rfl rfl rfl (r_move (v := .int .i64 _) rfl) ?_
 refine WL_val (dd := some 10) rfl rfl rfl (r_move (v := rv) rfl) ?_
 refine WL_val (dd := some 11) rfl rfl rfl (r_lenS (v := rv) rfl (Below.slT hB hrv) tb_el54) ?_
 refine WL_val (dd := some 12) rfl rfl rfl (r_lss rfl rfl) ?_
 refine WL_nil ?_
 refine hK14 _ _ ?_
 clear hK14 K13
 refine WC_cond (b := _) rfl (fun hc0 => ?_) (fun hc0 => ?_)
 ·
  try with_reducible replace hc0 := of_decide_eq_true hc0
  refine WC_skip ?_
  refine hK12 _ _ ?_
  clear hK12 K11
  refine WC_seq (fun K15 hK16 => ?_)
  refine WC_block ?_
  refine WC_seq (fun K17 hK18 => ?_)
  refine WC_region ?_
  refine WL_val (dd := some 6) rfl rfl rfl (r_assign (v := .bool false) rfl) ?_
  refine WL_nil ?_
  refine hK18 _ _ ?_
  clear hK18 K17
  refine WC_seq (fun K19 hK20 => ?_)
  refine WC_seq (fun K21 hK22 => ?_)
  refine WC_region ?_
  refine WL_val (dd := some 7) rfl rfl rfl (r_assign (v := .int .i64 0) rfl) ?_
  refine WL_nil ?_
  refine hK22 _ _ ?_
  clear hK22 K21
  refine WC_block ?_
  refine WC_loop (σ := (Nat)) [6, 7, 8, 15, 16, 17, 18, 19, 20, 21, 22, 23, 24, 25, 26, 27, 28, 29, 30, 31, 32, 33, 34, 35, 36, 37, 38, 39, 40, 41, 42, 43, 44] (fun k => [(7, .int .i64 (k : Int)), (6, .bool (anyTo (L.getD i []) cols k))]) (fun k W => (Below w.heap.size w W) ∧ (k ≤ (L.getD i []).length) ∧ (True)) (fun k => (L.getD i []).length - k) (0) ⟨rfl, congrArg Value.bool (any_zero _ _), trivial⟩ ⟨hB, (Nat.zero_le _), trivial⟩ ?_
  clear hB
  rintro k g24 W23 ⟨hB, hk, _⟩ J25 hJ26
  refine WC_seq (fun K27 hK28 => ?_)
  refine WC_seq (fun K29 hK30 => ?_)
  have hRi := hRb i
  refine WC_region ?_
  refine WL_val (dd := some 15) rfl rfl rfl (r_move (v := .int .i64 _) rfl) ?_
  refine WL_val (dd := some 16) rfl rfl rfl (r_move (v := rv) rfl) ?_
  refine WL_val (dd := some 17) rfl rfl rfl (r_move (v := .int .i64 _) rfl) ?_
  refine WL_val (dd := some 18) rfl rfl rfl (r_idxS (v := rv) rfl (Below.slT hB hrv) rfl tb_el54 (by omega) (by first | omega | (simp only [flagsTo_len, litsTo_len, firstF_len, ptF_len, setF_len]; omega))) ?_
  refine WL_val (dd := some 19) rfl rfl rfl (r_load1 (v := (vs.getD i undef)) rfl tb_sc57 (SlT.cell (Below.slT hB hrv) encV_len undef (by omega) (by first | omega | (simp only [flagsTo_len, litsTo_len, firstF_len, ptF_len, setF_len]; omega)) 0 rfl)) ?_
  have hp6_4 : SlT encI 1 w ((vs.getD i undef)) (L.getD i []) := hll.get i (by omega)
  refine WL_val (dd := some 20) rfl rfl rfl (r_lenS (v := (vs.getD i undef)) rfl (Below.slT hB hp6_4) tb_el57) ?_
  refine WL_val (dd := some 21) rfl rfl rfl (r_lss rfl rfl) ?_
  refine WL_nil ?_
  refine hK30 _ _ ?_
  clear hK30 K29
  refine WC_cond (b := _) rfl (fun hc1 => ?_) (fun hc1 => ?_)
  ·
   try with_reducible replace hc1 := of_decide_eq_true hc1
   refine WC_skip ?_
   refine hK28 _ _ ?_
   clear hK28 K27
   refine WC_seq (fun K31 hK32 => ?_)
   refine WC_block ?_
   refine WC_seq (fun K33 hK34 => ?_)
   refine WC_region ?_
   refine WL_val (dd := some 8) rfl rfl rfl (r_assign (v := .int .i64 0) rfl) ?_
   refine WL_nil ?_
   refine hK34 _ _ ?_
   clear hK34 K33
   refine WC_block ?_
   refine WC_loop (σ := (Nat)) [6, 8, 24, 25, 26, 27, 28, 29, 30, 31, 32, 33, 34, 35, 36, 37, 38, 39, 40, 41, 42, 43, 44] (fun c => [(8, .int .i64 (c : Int)), (6, .bool (anyTo (L.getD i []) cols k || anyEq ((L.getD i []).getD k 0) cols c))]) (fun c W => (Below w.heap.size w W) ∧ (c ≤ cols.length) ∧ (True)) (fun c => cols.length - c) (0) ⟨rfl, congrArg Value.bool (sv_zero _ _ _), trivial⟩ ⟨hB, (Nat.zero_le _), trivial⟩ ?_
   clear hB
   rintro c g36 W35 ⟨hB, hcc, _⟩ J37 hJ38
   refine WC_seq (fun K39 hK40 => ?_)
   refine WC_seq (fun K41 hK42 => ?_)
   refine WC_region ?_
   refine WL_val (dd := some 24) rfl rfl rfl (r_move (v := .int .i64 _) rfl) ?_
   refine WL_val (dd := some 25) rfl rfl rfl (r_move (v := xc) rfl) ?_
   refine WL_val (dd := some 26) rfl rfl rfl (r_lenS (v := xc) rfl (Below.slT hB hc) tb_el57) ?_
   refine WL_val (dd := some 27) rfl rfl rfl (r_lss rfl rfl) ?_
   refine WL_nil ?_
   refine hK42 _ _ ?_
   clear hK42 K41
   refine WC_cond (b := _) rfl (fun hc2 => ?_) (fun hc2 => ?_)
   ·
    try with_reducible replace hc2 := of_decide_eq_true hc2
    refine WC_skip ?_
    refine hK40 _ _ ?_
    clear hK40 K39
    refine WC_seq (fun K43 hK44 => ?_)
    refine WC_block ?_
    refine WC_draw Ext tb_mix (fun W45 hE46 => ?_)
    replace hB := below_ext hB hE46 (Nat.le_refl _)
    have hS := Ext.refl W45
    refine WT_take (dd := some 30) 0 rfl (by kernel_rfl) (by kernel_rfl) (by kernel_rfl) rfl rfl rfl (fun _wq _hq => r_move (v := .bool _) rfl) hS ?_
    refine WT_split (dd := some 31) 1 rfl (by kernel_rfl) (by kernel_rfl) (by kernel_rfl) rfl rfl rfl (fun wq hq => r_move (v := .bool _) rfl) hS (fun hs11_1 => ?_) (fun hs11_1 => ?_)
    ·
     try with_reducible replace hs11_1 := of_decide_eq_true hs11_1
     refine WT_pass (dd := some 32) 2 rfl (by kernel_rfl) (by kernel_rfl) (by kernel_rfl) rfl rfl rfl hS ?_
     refine WT_pass (dd := some 33) 3 rfl (by kernel_rfl) (by kernel_rfl) (by kernel_rfl) rfl rfl rfl hS ?_
     refine WT_pass (dd := some 34) 4 rfl (by kernel_rfl) (by kernel_rfl) (by kernel_rfl) rfl rfl rfl hS ?_
     refine WT_pass (dd := some 35) 5 rfl (by kernel_rfl) (by kernel_rfl) (by kernel_rfl) rfl rfl rfl hS ?_
     refine WT_pass (dd := some 36) 6 rfl (by kernel_rfl) (by kernel_rfl) (by kernel_rfl) rfl rfl rfl hS ?_
     refine WT_pass (dd := some 37) 7 rfl (by kernel_rfl) (by kernel_rfl) (by kernel_rfl) rfl rfl rfl hS ?_
     refine WT_pass (dd := some 38) 8 rfl (by kernel_rfl) (by kernel_rfl) (by kernel_rfl) rfl rfl rfl hS ?_
     refine WT_pass (dd := some 39) 9 rfl (by kernel_rfl) (by kernel_rfl) (by kernel_rfl) rfl rfl rfl hS ?_
     refine WT_pass (dd := some 40) 10 rfl (by kernel_rfl) (by kernel_rfl) (by kernel_rfl) rfl rfl rfl hS ?_
     refine WT_pass (dd := some 41) 11 rfl (by kernel_rfl) (by kernel_rfl) (by kernel_rfl) rfl rfl rfl hS ?_
     refine WT_pass (dd := some 42) 12 rfl (by kernel_rfl) (by kernel_rfl) (by kernel_rfl) rfl rfl rfl hS ?_
     refine WT_pass (dd := some 43) 13 rfl (by kernel_rfl) (by kernel_rfl) (by kernel_rfl) rfl rfl rfl hS ?_
     refine WT_take (dd := some 44) 14 rfl (by kernel_rfl) (by kernel_rfl) (by kernel_rfl) rfl rfl rfl (fun _wq _hq => r_pick_t rfl (v := .bool true) rfl) hS ?_
     refine WT_take (dd := some 6) 15 rfl (by kernel_rfl) (by kernel_rfl) (by kernel_rfl) rfl rfl rfl (fun _wq _hq => r_assign (v := .bool true) rfl) hS ?_
     refine WT_done (by kernel_rfl) ?_
     refine hK44 _ _ ?_
     clear hK44 K43
     refine WC_region ?_
     refine WL_val (dd := some 28) rfl rfl rfl (r_move (v := .int .i64 _) rfl) ?_
     refine WL_val (dd := some 29) rfl rfl rfl (r_addI rfl rfl (by omega) (by omega)) ?_
     refine WL_val (dd := some 8) rfl rfl rfl (r_assign (v := .int .i64 _) rfl) ?_
     refine WL_nil ?_
     refine hJ38 _ _ (c + 1) ?_ ?_ ?_ ?_
     · repeat (first | exact agree.mask _ _ _ | refine agree.updo ?_ rfl _ | refine agree.updL ?_ _ rfl | refine agree.maskS rfl ?_)
     · exact ⟨rfl, (by first | exact congrArg Value.bool (sv_t (by omega) hs11_1) | exact congrArg Value.bool (sv_f (by omega) hs11_1)), trivial⟩
     · exact ⟨hB, (by omega), trivial⟩
     · first | omega | (dsimp only; omega)
    ·
     try with_reducible replace hs11_1 := of_decide_eq_false hs11_1
     refine WT_take (dd := some 32) 2 rfl (by kernel_rfl) (by kernel_rfl) (by kernel_rfl) rfl rfl rfl (fun _wq _hq => r_move (v := rv) rfl) hS ?_
     refine WT_take (dd := some 33) 3 rfl (by kernel_rfl) (by kernel_rfl) (by kernel_rfl) rfl rfl rfl (fun _wq _hq => r_move (v := .int .i64 _) rfl) hS ?_
     refine WT_take (dd := some 34) 4 rfl (by kernel_rfl) (by kernel_rfl) (by kernel_rfl) rfl rfl rfl (fun _wq hq => r_idxS (v := rv) rfl (hq.slT (Below.slT hB hrv)) rfl tb_el54 (by omega) (by first | omega | (simp only [flagsTo_len, litsTo_len, firstF_len, ptF_len, setF_len]; omega))) hS ?_
     refine WT_take (dd := some 35) 5 rfl (by kernel_rfl) (by kernel_rfl) (by kernel_rfl) rfl rfl rfl (fun _wq hq => r_load1 (v := (vs.getD i undef)) rfl tb_sc57 (SlT.cell (hq.slT (Below.slT hB hrv)) encV_len undef (by omega) (by first | omega | (simp only [flagsTo_len, litsTo_len, firstF_len, ptF_len, setF_len]; omega)) 0 rfl)) hS ?_
     have hp11_5 : SlT encI 1 w ((vs.getD i undef)) (L.getD i []) := hll.get i (by omega)
     refine WT_take (dd := some 36) 6 rfl (by kernel_rfl) (by kernel_rfl) (by kernel_rfl) rfl rfl rfl (fun _wq _hq => r_move (v := .int .i64 _) rfl) hS ?_
     refine WT_take (dd := some 37) 7 rfl (by kernel_rfl) (by kernel_rfl) (by kernel_rfl) rfl rfl rfl (fun _wq hq => r_idxS (v := (vs.getD i undef)) rfl (hq.slT (Below.slT hB hp6_4)) rfl tb_el57 (by omega) (by first | omega | (simp only [flagsTo_len, litsTo_len, firstF_len, ptF_len, setF_len]; omega))) hS ?_
     refine WT_take (dd := some 38) 8 rfl (by kernel_rfl) (by kernel_rfl) (by kernel_rfl) rfl rfl rfl (fun _wq hq => r_load1 (v := .int .i64 _) rfl tb_sc3 (SlT.cell (hq.slT (Below.slT hB hp6_4)) encI_len 0 (by omega) (by first | omega | (simp only [flagsTo_len, litsTo_len, firstF_len, ptF_len, setF_len]; omega)) 0 rfl)) hS ?_
     refine WT_take (dd := some 39) 9 rfl (by kernel_rfl) (by kernel_rfl) (by kernel_rfl) rfl rfl rfl (fun _wq _hq => r_move (v := xc) rfl) hS ?_
     refine WT_take (dd := some 40) 10 rfl (by kernel_rfl) (by kernel_rfl) (by kernel_rfl) rfl rfl rfl (fun _wq _hq => r_move (v := .int .i64 _) rfl) hS ?_
     refine WT_take (dd := some 41) 11 rfl (by kernel_rfl) (by kernel_rfl) (by kernel_rfl) rfl rfl rfl (fun _wq hq => r_idxS (v := xc) rfl (hq.slT (Below.slT hB hc)) rfl tb_el57 (by omega) (by first | omega | (simp only [flagsTo_len, litsTo_len, firstF_len, ptF_len, setF_len]; omega))) hS ?_
     refine WT_take (dd := some 42) 12 rfl (by kernel_rfl) (by kernel_rfl) (by kernel_rfl) rfl rfl rfl (fun _wq hq => r_load1 (v := .int .i64 _) rfl tb_sc3 (SlT.cell (hq.slT (Below.slT hB hc)) encI_len 0 (by omega) (by first | omega | (simp only [flagsTo_len, litsTo_len, firstF_len, ptF_len, setF_len]; omega)) 0 rfl)) hS ?_
     refine WT_take (dd := some 43) 13 rfl (by kernel_rfl) (by kernel_rfl) (by kernel_rfl) rfl rfl rfl (fun _wq _hq => r_eql rfl rfl) hS ?_
     refine WT_take (dd := some 44) 14 rfl (by kernel_rfl) (by kernel_rfl) (by kernel_rfl) rfl rfl rfl (fun _wq _hq => r_pick_f rfl (v := .bool _) rfl) hS ?_
     refine WT_take (dd := some 6) 15 rfl (by kernel_rfl) (by kernel_rfl) (by kernel_rfl) rfl rfl rfl (fun _wq _hq => r_assign (v := .bool _) rfl) hS ?_
     refine WT_done (by kernel_rfl) ?_
     refine hK44 _ _ ?_
     clear hK44 K43
     refine WC_region ?_
     refine WL_val (dd := some 28) rfl rfl rfl (r_move (v := .int .i64 _) rfl) ?_
     refine WL_val (dd := some 29) rfl rfl rfl (r_addI rfl rfl (by omega) (by omega)) ?_
     refine WL_val (dd := some 8) rfl rfl rfl (r_assign (v := .int .i64 _) rfl) ?_
     refine WL_nil ?_
     refine hJ38 _ _ (c + 1) ?_ ?_ ?_ ?_
     · repeat (first | exact agree.mask _ _ _ | refine agree.updo ?_ rfl _ | refine agree.updL ?_ _ rfl | refine agree.maskS rfl ?_)
     · exact ⟨rfl, (by first | exact congrArg Value.bool (sv_t (by omega) hs11_1) | exact congrArg Value.bool (sv_f (by omega) hs11_1)), trivial⟩
     · exact ⟨hB, (by omega), trivial⟩
     · first | omega | (dsimp only; omega)
   ·
    try with_reducible replace hc2 := of_decide_eq_false hc2
    refine WC_exit ?_
    refine hK32 _ _ ?_
    clear hK40 K39
    clear hJ38 J37
    clear hK32 K31
    refine WC_region ?_
    refine WL_val (dd := some 22) rfl rfl rfl (r_move (v := .int .i64 _) rfl) ?_
    refine WL_val (dd := some 23) rfl rfl rfl (r_addI rfl rfl (by omega) (by omega)) ?_
    refine WL_val (dd := some 7) rfl rfl rfl (r_assign (v := .int .i64 _) rfl) ?_
    refine WL_nil ?_
    refine hJ26 _ _ (k + 1) ?_ ?_ ?_ ?_
    · repeat (first | exact agree.mask _ _ _ | refine agree.updo ?_ rfl _ | refine agree.updL ?_ _ rfl | refine agree.maskS rfl ?_)
    · exact ⟨rfl, congrArg Value.bool (sv_end (by omega) (by omega)), trivial⟩
    · exact ⟨hB, (by omega), trivial⟩
    · first | omega | (dsimp only; omega)
  ·
   try with_reducible replace hc1 := of_decide_eq_false hc1
   refine WC_exit ?_
   refine hK20 _ _ ?_
   clear hK28 K27
   clear hJ26 J25
   clear hK20 K19
   refine WC_seq (fun K47 hK48 => ?_)
   refine WC_region ?_
   refine WL_val (dd := some 45) rfl rfl rfl (r_move (v := .bool _) rfl) ?_
   refine WL_val (dd := some 46) rfl rfl rfl (r_not rfl) ?_
   refine WL_nil ?_
   refine hK48 _ _ ?_
   clear hK48 K47
   refine WC_cond (b := _) rfl (fun hc3 => ?_) (fun hc3 => ?_)
   ·
    try with_reducible replace hc3 := of_decide_eq_true hc3
    refine WC_seq (fun K49 hK50 => ?_)
    refine WC_region ?_
    refine WL_val (dd := some 4) rfl rfl rfl (r_assign (v := .bool false) rfl) ?_
    refine WL_nil ?_
    refine hK50 _ _ ?_
    clear hK50 K49
    refine WC_ret ?_
    repeat (first | refine thenQ_ret ?_ | refine blockQ_ret ?_)
    try clear hK16 K15
    try clear hJ10 J9
    try clear hK4 K3
    refine ret_t (v := .bool false) rfl ?_
    refine ⟨hB, ?_⟩
    rw [solvesB_no (i := i) (by omega) (any_end (by omega) (not_t hc3))]
   ·
    try with_reducible replace hc3 := of_decide_eq_false hc3
    refine WC_skip ?_
    refine hK16 _ _ ?_
    clear hK16 K15
    refine WC_region ?_
    refine WL_val (dd := some 13) rfl rfl rfl (r_move (v := .int .i64 _) rfl) ?_
    refine WL_val (dd := some 14) rfl rfl rfl (r_addI rfl rfl (by omega) (by omega)) ?_
    refine WL_val (dd := some 5) rfl rfl rfl (r_assign (v := .int .i64 _) rfl) ?_
    refine WL_nil ?_
    refine hJ10 _ _ (i + 1) ?_ ?_ ?_ ?_
    · repeat (first | exact agree.mask _ _ _ | refine agree.updo ?_ rfl _ | refine agree.updL ?_ _ rfl | refine agree.maskS rfl ?_)
    · exact ⟨rfl, trivial⟩
    · exact ⟨hB, (by omega), (upTo_succ hq (any_end (by omega) (not_f hc3))), trivial⟩
    · first | omega | (dsimp only; omega)
 ·
  try with_reducible replace hc0 := of_decide_eq_false hc0
  refine WC_exit ?_
  refine hK4 _ _ ?_
  clear hK12 K11
  clear hJ10 J9
  clear hK4 K3
  refine WC_seq (fun K51 hK52 => ?_)
  refine WC_region ?_
  refine WL_val (dd := some 4) rfl rfl rfl (r_assign (v := .bool true) rfl) ?_
  refine WL_nil ?_
  refine hK52 _ _ ?_
  clear hK52 K51
  refine WC_ret ?_
  repeat (first | refine thenQ_ret ?_ | refine blockQ_ret ?_)
  refine ret_t (v := .bool true) rfl ?_
  refine ⟨hB, ?_⟩
  obtain rfl : i = L.length := by omega
  rw [solvesB_all hq]

theorem C_drawkniferef13_Rows (S : Sp) (onV mayV : Value) (xa : Value) (l : List Rw) (w : World) (hon : SlT encS 4 w onV S.on) (hmay : SlT encS 4 w mayV S.may) (hl : SlT encR 3 w xa l) (hlb : l.length ≤ 1000000) (hlr : RowB l) (hr : rightS S = true) (hl4 : l.length ≤ 4000) :
    Fn Try.prog 55 #[.agg #[.int .i64 S.n, onV, mayV], xa] w fun v w' => ∃ vs, OwT encV 1 57 w' w.heap.size v vs ∧ LL w' vs (rowsA S l) := by
 refine Fn_intro (n := 138) Try.func55 rfl rfl (Nat.le_of_ble_eq_true rfl) ?_
 have hB : Below w.heap.size w w := Below.refl _ _
 obtain ⟨h0, h8, h1, h5, h6, _⟩ := rightS_iff.1 hr
 have hal := rowsA_len S l
 have hlim := rows_lim (l := l) hr
 refine WC_seq (fun K1 hK2 => ?_)
 refine WC_region ?_
 refine WL_step (dd := some 2) rfl rfl rfl (Y_box (c := #[_, _, _]) rfl rfl (fun b0_0 W3 hb4 hE5 hm0_0 => ?_))
 have lo_b0_0 : w.heap.size ≤ b0_0 := hb4 ▸ (Below.size hB)
 clear hb4
 replace hB := below_ext hB hE5 (Nat.le_refl _)
 clear hE5
 refine WL_val (dd := some 4) rfl rfl rfl (r_assign (v := .slice none 0 0) rfl) ?_
 refine WL_nil ?_
 refine hK2 _ _ ?_
 clear hK2 K1
 refine WC_seq (fun K6 hK7 => ?_)
 refine WC_region ?_
 refine WL_val (dd := some 5) rfl rfl rfl (r_assign (v := .slice none 0 0) rfl) ?_
 refine WL_nil ?_
 refine hK7 _ _ ?_
 clear hK7 K6
 refine WC_seq (fun K8 hK9 => ?_)
 refine WC_seq (fun K10 hK11 => ?_)
 refine WC_region ?_
 refine WL_val (dd := some 6) rfl rfl rfl (r_assign (v := .int .i64 0) rfl) ?_
 refine WL_nil ?_
 refine hK11 _ _ ?_
 clear hK11 K10
 refine WC_block ?_
 refine WC_loop (σ := (Nat) × (Value) × (List Value)) [5, 6, 7, 8, 9, 10, 11, 12, 17, 18, 19, 20, 21, 22, 23, 24, 25, 26, 27, 28, 29, 30, 31, 32, 33, 34, 35, 36, 37, 38, 39, 40, 41, 42, 43, 44, 45, 46, 47, 48, 49, 50, 51, 52, 53, 54, 55, 56, 57, 58, 59, 60, 61, 62, 63, 64, 65, 66, 67, 68, 69, 70, 71, 72, 73, 74, 75, 76, 77, 78, 79, 80, 81, 82, 83, 84, 85] (fun (o, va, vs) => [(6, .int .i64 (o : Int)), (5, va)]) (fun sg W => match sg with | (o, va, vs) => (Below w.heap.size w W) ∧ (At W b0_0 _ 64) ∧ (OwT encV 1 57 W w.heap.size va vs) ∧ (LO 3 w.heap.size W vs (mOuts S l o)) ∧ (o ≤ S.on.length) ∧ (True)) (fun (o, va, vs) => S.on.length - o) ((0, .slice none 0 0, [])) ⟨rfl, rfl, trivial⟩ ⟨hB, hm0_0, OwT.nil, LO.nil, (Nat.zero_le _), trivial⟩ ?_
 clear hB hm0_0
 rintro ⟨o, va, vs⟩ g13 W12 ⟨hB, hm0_0, hall, hLO, ho, _⟩ J14 hJ15
 refine WC_seq (fun K16 hK17 => ?_)
 refine WC_seq (fun K18 hK19 => ?_)
 refine WC_region ?_
 refine WL_val (dd := some 17) rfl rfl rfl (r_move (v := .int .i64 _) rfl) ?_
 refine WL_val (dd := some 18) rfl rfl rfl (r_fieldAddr (b := _) (o := _) rfl tb_fo64_1) ?_
 refine WL_val (dd := some 19) rfl rfl rfl (r_load1 (v := onV) rfl tb_sc62 (At.cell hm0_0 rfl)) ?_
 refine WL_val (dd := some 20) rfl rfl rfl (r_lenS (v := onV) rfl (Below.slT hB hon) tb_el62) ?_
 refine WL_val (dd := some 21) rfl rfl rfl (r_lss rfl rfl) ?_
 refine WL_nil ?_
 refine hK19 _ _ ?_
 clear hK19 K18
 refine WC_cond (b := _) rfl (fun hc0 => ?_) (fun hc0 => ?_)
 ·
  try with_reducible replace hc0 := of_decide_eq_true hc0
  refine WC_skip ?_
  refine hK17 _ _ ?_
  clear hK17 K16
  refine WC_seq (fun K20 hK21 => ?_)
  refine WC_block ?_
  refine WC_seq (fun K22 hK23 => ?_)
  refine WC_region ?_
  refine WL_val (dd := some 24) rfl rfl rfl (r_fieldAddr (b := _) (o := _) rfl tb_fo64_1) ?_
  refine WL_val (dd := some 25) rfl rfl rfl (r_load1 (v := onV) rfl tb_sc62 (At.cell hm0_0 rfl)) ?_
  refine WL_val (dd := some 26) rfl rfl rfl (r_move (v := .int .i64 _) rfl) ?_
  refine WL_val (dd := some 27) rfl rfl rfl (r_idxS (v := onV) rfl (Below.slT hB hon) rfl tb_el62 (by omega) (by first | omega | (simp only [flagsTo_len, litsTo_len, firstF_len, ptF_len, setF_len]; omega))) ?_
  refine WL_val (dd := some 28) rfl rfl rfl (r_load4 rfl tb_ag24 (SlT.cell (Below.slT hB hon) encS_len 0 (by omega) (by first | omega | (simp only [flagsTo_len, litsTo_len, firstF_len, ptF_len, setF_len]; omega)) 0 rfl) (SlT.cell (Below.slT hB hon) encS_len 0 (by omega) (by first | omega | (simp only [flagsTo_len, litsTo_len, firstF_len, ptF_len, setF_len]; omega)) 1 rfl) (SlT.cell (Below.slT hB hon) encS_len 0 (by omega) (by first | omega | (simp only [flagsTo_len, litsTo_len, firstF_len, ptF_len, setF_len]; omega)) 2 rfl) (SlT.cell (Below.slT hB hon) encS_len 0 (by omega) (by first | omega | (simp only [flagsTo_len, litsTo_len, firstF_len, ptF_len, setF_len]; omega)) 3 rfl)) ?_
  refine WL_call (dd := some 29) rfl rfl rfl (r_call1 tb_c111 (v0 := .agg #[_, _, _, _]) rfl) (C_drawkniferef01_List (S.on.getD o 0) _) (fun v5_5 W24 hE25 hP5_5 => ?_)
  have hsz26 := (Below.size hB)
  replace hB := below_ext hB hE25 (Nat.le_refl _)
  replace hm0_0 := hE25.at hm0_0
  replace hall := hE25.ow hall
  replace hLO := LO.ext hE25 hLO
  clear hE25
  replace hP5_5 := OwT.mono hP5_5 hsz26
  clear hsz26
  refine WL_val (dd := some 7) rfl rfl rfl (r_assign (v := v5_5) rfl) ?_
  refine WL_nil ?_
  refine hK23 _ _ ?_
  clear hK23 K22
  refine WC_seq (fun K27 hK28 => ?_)
  refine WC_region ?_
  refine WL_val (dd := some 8) rfl rfl rfl (r_assign (v := .int .i64 0) rfl) ?_
  refine WL_nil ?_
  refine hK28 _ _ ?_
  clear hK28 K27
  refine WC_block ?_
  refine WC_loop (σ := (Nat) × (Value) × (List Value)) [5, 8, 9, 10, 11, 12, 30, 31, 32, 33, 34, 35, 36, 37, 38, 39, 40, 41, 42, 43, 44, 45, 46, 47, 48, 49, 50, 51, 52, 53, 54, 55, 56, 57, 58, 59, 60, 61, 62, 63, 64, 65, 66, 67, 68, 69, 70, 71, 72, 73, 74, 75, 76, 77, 78, 79, 80, 81, 82, 83, 84, 85] (fun (k, va2, vs2) => [(8, .int .i64 (k : Int)), (5, va2)]) (fun sg W => match sg with | (k, va2, vs2) => (Below w.heap.size w W) ∧ (At W b0_0 _ 64) ∧ (OwT encI 1 3 W w.heap.size v5_5 _) ∧ (OwT encV 1 57 W w.heap.size va2 vs2) ∧ (LO 3 w.heap.size W vs2 (mPts l o (listS (S.on.getD o 0)) (mOuts S l o) k)) ∧ (k ≤ (listS (S.on.getD o 0)).length) ∧ (True)) (fun (k, va2, vs2) => (listS (S.on.getD o 0)).length - k) ((0, va, vs)) ⟨rfl, rfl, trivial⟩ ⟨hB, hm0_0, hP5_5, hall, hLO, (Nat.zero_le _), trivial⟩ ?_
  clear hB hm0_0 hall hLO hP5_5
  rintro ⟨k, va2, vs2⟩ g30 W29 ⟨hB, hm0_0, hP5_5, hall2, hLO2, hk, _⟩ J31 hJ32
  refine WC_seq (fun K33 hK34 => ?_)
  refine WC_seq (fun K35 hK36 => ?_)
  refine WC_region ?_
  refine WL_val (dd := some 30) rfl rfl rfl (r_move (v := .int .i64 _) rfl) ?_
  refine WL_val (dd := some 31) rfl rfl rfl (r_move (v := v5_5) rfl) ?_
  refine WL_val (dd := some 32) rfl rfl rfl (r_lenS (v := v5_5) rfl hP5_5.sl tb_el57) ?_
  refine WL_val (dd := some 33) rfl rfl rfl (r_lss rfl rfl) ?_
  refine WL_nil ?_
  refine hK36 _ _ ?_
  clear hK36 K35
  refine WC_cond (b := _) rfl (fun hc1 => ?_) (fun hc1 => ?_)
  ·
   try with_reducible replace hc1 := of_decide_eq_true hc1
   refine WC_skip ?_
   refine hK34 _ _ ?_
   clear hK34 K33
   refine WC_seq (fun K37 hK38 => ?_)
   refine WC_block ?_
   refine WC_seq (fun K39 hK40 => ?_)
   have hz42 := Below.slT hB hon
   have hz43 := Below.slT hB hmay
   have hz44 := Below.slT hB hl
   have hBo41 := hB
   replace hB := Below.refl W29.heap.size W29
   have hls := listS_len (S.on.getD o 0)
   obtain ⟨p, hp2, hpb, hpe⟩ := listS_get (s := S.on.getD o 0) (i := k) (by omega)
   have hrk : rowC l o (((listS (S.on.getD o 0)).getD k 0).toNat) = (rowC l o p) := by rw [hpe, Int.toNat_natCast]
   have hkl := mPts_lim (S := S) (l := l) (o := o) (k := k) (by omega) (by omega)
   have hvl := hLO2.len
   refine WC_region ?_
   refine WL_val (dd := some 9) rfl rfl rfl (r_assign (v := .slice none 0 0) rfl) ?_
   refine WL_nil ?_
   refine hK40 _ _ ?_
   clear hK40 K39
   refine WC_seq (fun K45 hK46 => ?_)
   refine WC_seq (fun K47 hK48 => ?_)
   refine WC_region ?_
   refine WL_val (dd := some 10) rfl rfl rfl (r_assign (v := .int .i64 0) rfl) ?_
   refine WL_nil ?_
   refine hK48 _ _ ?_
   clear hK48 K47
   refine WC_block ?_
   refine WC_loop (σ := (Nat) × (Value)) [9, 10, 36, 37, 38, 39, 40, 41, 42, 43, 44, 45, 46, 47, 48, 49, 50, 51, 52, 53, 54, 55, 56, 57, 58, 59, 60, 61, 62, 63, 64] (fun (c, v0) => [(10, .int .i64 (c : Int)), (9, v0)]) (fun sg W => match sg with | (c, v0) => (Below W29.heap.size W29 W) ∧ (OwT encI 1 3 W W29.heap.size v0 (rowTo l o p c)) ∧ (c ≤ l.length) ∧ (True)) (fun (c, v0) => l.length - c) ((0, .slice none 0 0)) ⟨rfl, rfl, trivial⟩ ⟨hB, OwT.nil, (Nat.zero_le _), trivial⟩ ?_
   clear hB
   rintro ⟨c, v0⟩ g50 W49 ⟨hB, hrow, hcl, _⟩ J51 hJ52
   refine WC_seq (fun K53 hK54 => ?_)
   refine WC_seq (fun K55 hK56 => ?_)
   refine WC_region ?_
   refine WL_val (dd := some 36) rfl rfl rfl (r_move (v := .int .i64 _) rfl) ?_
   refine WL_val (dd := some 37) rfl rfl rfl (r_move (v := xa) rfl) ?_
   refine WL_val (dd := some 38) rfl rfl rfl (r_lenS (v := xa) rfl (Below.slT hB hz44) tb_el65) ?_
   refine WL_val (dd := some 39) rfl rfl rfl (r_lss rfl rfl) ?_
   refine WL_nil ?_
   refine hK56 _ _ ?_
   clear hK56 K55
   refine WC_cond (b := _) rfl (fun hc2 => ?_) (fun hc2 => ?_)
   ·
    try with_reducible replace hc2 := of_decide_eq_true hc2
    refine WC_skip ?_
    refine hK54 _ _ ?_
    clear hK54 K53
    refine WC_seq (fun K57 hK58 => ?_)
    refine WC_block ?_
    refine WC_seq (fun K59 hK60 => ?_)
    obtain ⟨hb1, hb2, hb3⟩ := hlr.get (k := c) (by omega)
    refine WC_draw Ext tb_mix (fun W61 hE62 => ?_)
    replace hB := below_ext hB hE62 (Nat.le_refl _)
    replace hrow := hE62.ow hrow
    have hS := Ext.refl W61
    refine WT_take (dd := some 42) 0 rfl (by kernel_rfl) (by kernel_rfl) (by kernel_rfl) rfl rfl rfl (fun _wq _hq => r_move (v := xa) rfl) hS ?_
    refine WT_take (dd := some 43) 1 rfl (by kernel_rfl) (by kernel_rfl) (by kernel_rfl) rfl rfl rfl (fun _wq _hq => r_move (v := .int .i64 _) rfl) hS ?_
    refine WT_take (dd := some 44) 2 rfl (by kernel_rfl) (by kernel_rfl) (by kernel_rfl) rfl rfl rfl (fun _wq hq => r_idxS (v := xa) rfl (hq.slT (Below.slT hB hz44)) rfl tb_el65 (by omega) (by first | omega | (simp only [flagsTo_len, litsTo_len, firstF_len, ptF_len, setF_len]; omega))) hS ?_
    refine WT_take (dd := some 45) 3 rfl (by kernel_rfl) (by kernel_rfl) (by kernel_rfl) rfl rfl rfl (fun _wq _hq => r_fieldAddr (b := _) (o := _) rfl tb_fo79_1) hS ?_
    refine WT_take (dd := some 46) 4 rfl (by kernel_rfl) (by kernel_rfl) (by kernel_rfl) rfl rfl rfl (fun _wq hq => r_load1 (v := .int .u8 _) rfl tb_sc5 (SlT.cell (hq.slT (Below.slT hB hz44)) encR_len ⟨⟨0, 0⟩, 0⟩ (by omega) (by first | omega | (simp only [flagsTo_len, litsTo_len, firstF_len, ptF_len, setF_len]; omega)) 2 rfl)) hS ?_
    refine WT_take (dd := some 47) 5 rfl (by kernel_rfl) (by kernel_rfl) (by kernel_rfl) rfl rfl rfl (fun _wq _hq => r_move (v := .int .i64 _) rfl) hS ?_
    refine WT_one (dd := some 48) 6 (by kernel_rfl) rfl rfl rfl rfl (Yd.call (r_call2 tb_c112 (v0 := .int .u8 _) rfl (v1 := .int .i64 _) rfl) (C_drawkniferef04_Bit _ _ _ hb3 (by omega)) (fun v13_6 W63 hE64 hP13_6 => ⟨.inl (hS.trans hE64), ?_⟩))
    have hsz65 := (Below.size hB)
    have sv66_hB := hB
    have sv66_hrow := hrow
    replace hB := below_ext hB hE64 (Nat.le_refl _)
    replace hrow := hE64.ow hrow
    replace hS := hS.trans hE64
    clear hE64
    clear hsz65
    obtain rfl := hP13_6
    refine WT_split (dd := some 49) 7 rfl (by kernel_rfl) (by kernel_rfl) (by kernel_rfl) rfl rfl rfl (fun wq hq => r_move (v := .bool _) rfl) hS (fun hs13_7 => ?_) (fun hs13_7 => ?_)
    ·
     try with_reducible replace hs13_7 := of_decide_eq_true hs13_7
     refine WT_take (dd := some 50) 8 rfl (by kernel_rfl) (by kernel_rfl) (by kernel_rfl) rfl rfl rfl (fun _wq _hq => r_move (v := xa) rfl) hS ?_
     refine WT_take (dd := some 51) 9 rfl (by kernel_rfl) (by kernel_rfl) (by kernel_rfl) rfl rfl rfl (fun _wq _hq => r_move (v := .int .i64 _) rfl) hS ?_
     refine WT_take (dd := some 52) 10 rfl (by kernel_rfl) (by kernel_rfl) (by kernel_rfl) rfl rfl rfl (fun _wq hq => r_idxS (v := xa) rfl (hq.slT (Below.slT sv66_hB hz44)) rfl tb_el65 (by omega) (by first | omega | (simp only [flagsTo_len, litsTo_len, firstF_len, ptF_len, setF_len]; omega))) hS ?_
     refine WT_take (dd := some 53) 11 rfl (by kernel_rfl) (by kernel_rfl) (by kernel_rfl) rfl rfl rfl (fun _wq _hq => r_fieldAddr (b := _) (o := _) rfl tb_fo79_0) hS ?_
     refine WT_take (dd := some 54) 12 rfl (by kernel_rfl) (by kernel_rfl) (by kernel_rfl) rfl rfl rfl (fun _wq hq => r_load2 rfl tb_ag34 (SlT.cell (hq.slT (Below.slT sv66_hB hz44)) encR_len ⟨⟨0, 0⟩, 0⟩ (by omega) (by first | omega | (simp only [flagsTo_len, litsTo_len, firstF_len, ptF_len, setF_len]; omega)) 0 rfl) (SlT.cell (hq.slT (Below.slT sv66_hB hz44)) encR_len ⟨⟨0, 0⟩, 0⟩ (by omega) (by first | omega | (simp only [flagsTo_len, litsTo_len, firstF_len, ptF_len, setF_len]; omega)) 1 rfl)) hS ?_
     refine WT_take (dd := some 55) 13 rfl (by kernel_rfl) (by kernel_rfl) (by kernel_rfl) rfl rfl rfl (fun _wq _hq => r_move (v := v5_5) rfl) hS ?_
     refine WT_take (dd := some 56) 14 rfl (by kernel_rfl) (by kernel_rfl) (by kernel_rfl) rfl rfl rfl (fun _wq _hq => r_move (v := .int .i64 _) rfl) hS ?_
     refine WT_take (dd := some 57) 15 rfl (by kernel_rfl) (by kernel_rfl) (by kernel_rfl) rfl rfl rfl (fun _wq hq => r_idxS (v := v5_5) rfl ((hq.ow (Below.ow sv66_hB hP5_5))).sl rfl tb_el57 (by omega) (by first | omega | (simp only [flagsTo_len, litsTo_len, firstF_len, ptF_len, setF_len]; omega))) hS ?_
     refine WT_take (dd := some 58) 16 rfl (by kernel_rfl) (by kernel_rfl) (by kernel_rfl) rfl rfl rfl (fun _wq hq => r_load1 (v := .int .i64 (p : Int)) rfl tb_sc3 (SlT.cell ((hq.ow (Below.ow sv66_hB hP5_5))).sl encI_len 0 (by omega) (by first | omega | (simp only [flagsTo_len, litsTo_len, firstF_len, ptF_len, setF_len]; omega)) 0 (congrArg (fun z : Int => some (Value.int .i64 z)) hpe))) hS ?_
     refine WT_one (dd := some 59) 17 (by kernel_rfl) rfl rfl rfl rfl (Yd.call (r_call2 tb_c113 (v0 := .agg #[_, _]) rfl (v1 := .int .i64 (p : Int)) rfl) (C_drawkniferef02_Has _ _ p _ hb1 hb2 hp2) (fun v13_17 W67 hE68 hP13_17 => ⟨.inl (hS.trans hE68), ?_⟩))
     have hsz69 := (Below.size hB)
     replace hB := below_ext hB hE68 (Nat.le_refl _)
     replace hrow := hE68.ow hrow
     replace hS := hS.trans hE68
     clear hE68
     clear hsz69
     obtain rfl := hP13_17
     refine WT_take (dd := some 60) 18 rfl (by kernel_rfl) (by kernel_rfl) (by kernel_rfl) rfl rfl rfl (fun _wq _hq => r_pick_t rfl (v := .bool _) rfl) hS ?_
     refine WT_done (by kernel_rfl) ?_
     try clear sv66_hB sv66_hrow
     refine hK60 _ _ ?_
     clear hK60 K59
     refine WC_cond (b := _) rfl (fun hc3 => ?_) (fun hc3 => ?_)
     ·
      try with_reducible replace hc3 := of_decide_eq_true hc3
      have hrl := rowTo_len l o p c
      refine WC_region ?_
      refine WL_val (dd := some 61) rfl rfl rfl (r_move (v := v0) rfl) ?_
      refine WL_val (dd := some 62) rfl rfl rfl (r_move (v := .int .i64 _) rfl) ?_
      refine WL_step (dd := some 63) rfl rfl rfl (Y_lit1 (u := .int .i64 _) rfl tb_el57 tb_zs3 rfl (by decide) (by decide) (fun b14_2 W70 hb71 hE72 hm14_2 => ?_))
      have lo_b14_2 : W29.heap.size ≤ b14_2 := hb71 ▸ (Below.size hB)
      have no_v0_b14_2 := OwT.neB (b := b14_2) hrow (Nat.le_of_eq hb71.symm)
      clear hb71
      replace hB := below_ext hB hE72 (Nat.le_refl _)
      replace hrow := hE72.ow hrow
      clear hE72
      refine WL_step (dd := some 64) rfl rfl rfl (Y_append (v := v0) (v2 := .slice (some ⟨b14_2, 0, none⟩) 1 1) rfl rfl tb_el57 tb_zs3 (by decide) hrow (sl_lit1 hm14_2 rfl) rfl (by have := Below.size hB; omega) (by first | omega | (simp; omega) | (simp only [flagsTo_len, litsTo_len, firstF_len, ptF_len, setF_len]; omega)) (by first | omega | (simp; omega) | (simp only [flagsTo_len, litsTo_len, firstF_len, ptF_len, setF_len]; omega)) (fun v14_3 W73 hG74 ho14_3 => ?_))
      replace ho14_3 := OwT.snoc (enc := encI) (x := _) rfl rfl rfl rfl ho14_3
      clear hm14_2
      replace hB := below_grown hB hG74 (Nat.le_refl _) (fun j hj => (OwT.lt hrow j hj))
      clear hG74
      clear hrow
      refine WL_val (dd := some 9) rfl rfl rfl (r_assign (v := v14_3) rfl) ?_
      refine WL_nil ?_
      refine hK58 _ _ ?_
      clear hK58 K57
      refine WC_region ?_
      refine WL_val (dd := some 40) rfl rfl rfl (r_move (v := .int .i64 _) rfl) ?_
      refine WL_val (dd := some 41) rfl rfl rfl (r_addI rfl rfl (by omega) (by omega)) ?_
      refine WL_val (dd := some 10) rfl rfl rfl (r_assign (v := .int .i64 _) rfl) ?_
      refine WL_nil ?_
      refine hJ52 _ _ ((c + 1, v14_3)) ?_ ?_ ?_ ?_
      · repeat (first | exact agree.mask _ _ _ | refine agree.updo ?_ rfl _ | refine agree.updL ?_ _ rfl | refine agree.maskS rfl ?_)
      · exact ⟨rfl, rfl, trivial⟩
      · exact ⟨hB, (by first | (rw [← rowTo_t (cv_tt (l := l) (c := c) (o := o) (p := p) hs13_7 hc3)]; exact ho14_3) | (rw [← rowTo_f (cv_tf (l := l) (c := c) (o := o) (p := p) hs13_7 hc3)]; exact ho14_3) | (rw [← rowTo_f (cv_ff (l := l) (c := c) (o := o) (p := p) hs13_7)]; exact ho14_3)), (by omega), trivial⟩
      · show l.length - (c + 1) < l.length - c; omega
     ·
      try with_reducible replace hc3 := of_decide_eq_false hc3
      refine WC_skip ?_
      refine hK58 _ _ ?_
      clear hK58 K57
      refine WC_region ?_
      refine WL_val (dd := some 40) rfl rfl rfl (r_move (v := .int .i64 _) rfl) ?_
      refine WL_val (dd := some 41) rfl rfl rfl (r_addI rfl rfl (by omega) (by omega)) ?_
      refine WL_val (dd := some 10) rfl rfl rfl (r_assign (v := .int .i64 _) rfl) ?_
      refine WL_nil ?_
      refine hJ52 _ _ ((c + 1, v0)) ?_ ?_ ?_ ?_
      · repeat (first | exact agree.mask _ _ _ | refine agree.updo ?_ rfl _ | refine agree.updL ?_ _ rfl | refine agree.maskS rfl ?_)
      · exact ⟨rfl, rfl, trivial⟩
      · exact ⟨hB, (by first | (rw [← rowTo_t (cv_tt (l := l) (c := c) (o := o) (p := p) hs13_7 hc3)]; exact hrow) | (rw [← rowTo_f (cv_tf (l := l) (c := c) (o := o) (p := p) hs13_7 hc3)]; exact hrow) | (rw [← rowTo_f (cv_ff (l := l) (c := c) (o := o) (p := p) hs13_7)]; exact hrow)), (by omega), trivial⟩
      · show l.length - (c + 1) < l.length - c; omega
    ·
     try with_reducible replace hs13_7 := of_decide_eq_false hs13_7
     refine WT_pass (dd := some 50) 8 rfl (by kernel_rfl) (by kernel_rfl) (by kernel_rfl) rfl rfl rfl hS ?_
     refine WT_pass (dd := some 51) 9 rfl (by kernel_rfl) (by kernel_rfl) (by kernel_rfl) rfl rfl rfl hS ?_
     refine WT_pass (dd := some 52) 10 rfl (by kernel_rfl) (by kernel_rfl) (by kernel_rfl) rfl rfl rfl hS ?_
     refine WT_pass (dd := some 53) 11 rfl (by kernel_rfl) (by kernel_rfl) (by kernel_rfl) rfl rfl rfl hS ?_
     refine WT_pass (dd := some 54) 12 rfl (by kernel_rfl) (by kernel_rfl) (by kernel_rfl) rfl rfl rfl hS ?_
     refine WT_pass (dd := some 55) 13 rfl (by kernel_rfl) (by kernel_rfl) (by kernel_rfl) rfl rfl rfl hS ?_
     refine WT_pass (dd := some 56) 14 rfl (by kernel_rfl) (by kernel_rfl) (by kernel_rfl) rfl rfl rfl hS ?_
     refine WT_pass (dd := some 57) 15 rfl (by kernel_rfl) (by kernel_rfl) (by kernel_rfl) rfl rfl rfl hS ?_
     refine WT_pass (dd := some 58) 16 rfl (by kernel_rfl) (by kernel_rfl) (by kernel_rfl) rfl rfl rfl hS ?_
     refine WT_pass (dd := some 59) 17 rfl (by kernel_rfl) (by kernel_rfl) (by kernel_rfl) rfl rfl rfl hS ?_
     refine WT_take (dd := some 60) 18 rfl (by kernel_rfl) (by kernel_rfl) (by kernel_rfl) rfl rfl rfl (fun _wq _hq => r_pick_f rfl (v := .bool false) rfl) hS ?_
     refine WT_done (by kernel_rfl) ?_
     try clear sv66_hB sv66_hrow
     refine hK60 _ _ ?_
     clear hK60 K59
     refine WC_cond_false rfl ?_
     refine WC_skip ?_
     refine hK58 _ _ ?_
     clear hK58 K57
     refine WC_region ?_
     refine WL_val (dd := some 40) rfl rfl rfl (r_move (v := .int .i64 _) rfl) ?_
     refine WL_val (dd := some 41) rfl rfl rfl (r_addI rfl rfl (by omega) (by omega)) ?_
     refine WL_val (dd := some 10) rfl rfl rfl (r_assign (v := .int .i64 _) rfl) ?_
     refine WL_nil ?_
     refine hJ52 _ _ ((c + 1, v0)) ?_ ?_ ?_ ?_
     · repeat (first | exact agree.mask _ _ _ | refine agree.updo ?_ rfl _ | refine agree.updL ?_ _ rfl | refine agree.maskS rfl ?_)
     · exact ⟨rfl, rfl, trivial⟩
     · exact ⟨hB, (by first | (rw [← rowTo_t (cv_tt (l := l) (c := c) (o := o) (p := p) hs13_7 hc3)]; exact hrow) | (rw [← rowTo_f (cv_tf (l := l) (c := c) (o := o) (p := p) hs13_7 hc3)]; exact hrow) | (rw [← rowTo_f (cv_ff (l := l) (c := c) (o := o) (p := p) hs13_7)]; exact hrow)), (by omega), trivial⟩
     · show l.length - (c + 1) < l.length - c; omega
   ·
    try with_reducible replace hc2 := of_decide_eq_false hc2
    refine WC_exit ?_
    refine hK46 _ _ ?_
    clear hK54 K53
    clear hJ52 J51
    clear hK46 K45
    refine WC_seq (fun K76 hK77 => ?_)
    obtain rfl : c = l.length := by omega
    have hrl := rowTo_len l o p l.length
    refine WC_region ?_
    refine WL_val (dd := some 11) rfl rfl rfl (r_assign (v := .bool false) rfl) ?_
    refine WL_nil ?_
    refine hK77 _ _ ?_
    clear hK77 K76
    refine WC_seq (fun K78 hK79 => ?_)
    refine WC_seq (fun K80 hK81 => ?_)
    refine WC_region ?_
    refine WL_val (dd := some 12) rfl rfl rfl (r_assign (v := .int .i64 0) rfl) ?_
    refine WL_nil ?_
    refine hK81 _ _ ?_
    clear hK81 K80
    refine WC_block ?_
    refine WC_loop (σ := (Nat)) [11, 12, 65, 66, 67, 68, 69, 70, 71, 72, 73, 74, 75, 76, 77, 78, 79] (fun j => [(12, .int .i64 (j : Int)), (11, .bool (mtB (mPts l o (listS (S.on.getD o 0)) (mOuts S l o) k) (rowC l o p) j))]) (fun j W => (Below W29.heap.size W29 W) ∧ (OwT encI 1 3 W W29.heap.size v0 _) ∧ (j ≤ (mPts l o (listS (S.on.getD o 0)) (mOuts S l o) k).length) ∧ (True)) (fun j => (mPts l o (listS (S.on.getD o 0)) (mOuts S l o) k).length - j) (0) ⟨rfl, congrArg Value.bool (mt_zero _ _), trivial⟩ ⟨hB, hrow, (Nat.zero_le _), trivial⟩ ?_
    clear hB hrow
    rintro j g83 W82 ⟨hB, hrow, hj, _⟩ J84 hJ85
    refine WC_seq (fun K86 hK87 => ?_)
    refine WC_seq (fun K88 hK89 => ?_)
    refine WC_region ?_
    refine WL_val (dd := some 65) rfl rfl rfl (r_move (v := .int .i64 _) rfl) ?_
    refine WL_val (dd := some 66) rfl rfl rfl (r_move (v := va2) rfl) ?_
    refine WL_val (dd := some 67) rfl rfl rfl (r_lenS (v := va2) rfl ((Below.ow hB hall2)).sl tb_el54) ?_
    refine WL_val (dd := some 68) rfl rfl rfl (r_lss rfl rfl) ?_
    refine WL_nil ?_
    refine hK89 _ _ ?_
    clear hK89 K88
    refine WC_cond (b := _) rfl (fun hc4 => ?_) (fun hc4 => ?_)
    ·
     try with_reducible replace hc4 := of_decide_eq_true hc4
     refine WC_skip ?_
     refine hK87 _ _ ?_
     clear hK87 K86
     refine WC_seq (fun K90 hK91 => ?_)
     refine WC_block ?_
     have hml := mpt_len (S := S) (l := l) (pts := listS (S.on.getD o 0)) o k j
     refine WC_region ?_
     refine WL_val (dd := some 71) rfl rfl rfl (r_move (v := .bool _) rfl) ?_
     refine WL_split (dd := some 72) rfl rfl rfl (r_move (v := .bool _) rfl) (fun hs19_1 => ?_) (fun hs19_1 => ?_)
     ·
      try with_reducible replace hs19_1 := of_decide_eq_true hs19_1
      refine WL_skip (dd := some 73) rfl rfl rfl ?_
      refine WL_skip (dd := some 74) rfl rfl rfl ?_
      refine WL_skip (dd := some 75) rfl rfl rfl ?_
      refine WL_skip (dd := some 76) rfl rfl rfl ?_
      refine WL_skip (dd := some 77) rfl rfl rfl ?_
      refine WL_skip (dd := some 78) rfl rfl rfl ?_
      refine WL_val (dd := some 79) rfl rfl rfl (r_pick_t rfl (v := .bool true) rfl) ?_
      refine WL_val (dd := some 11) rfl rfl rfl (r_assign (v := .bool true) rfl) ?_
      refine WL_nil ?_
      refine hK91 _ _ ?_
      clear hK91 K90
      refine WC_region ?_
      refine WL_val (dd := some 69) rfl rfl rfl (r_move (v := .int .i64 _) rfl) ?_
      refine WL_val (dd := some 70) rfl rfl rfl (r_addI rfl rfl (by omega) (by omega)) ?_
      refine WL_val (dd := some 12) rfl rfl rfl (r_assign (v := .int .i64 _) rfl) ?_
      refine WL_nil ?_
      refine hJ85 _ _ (j + 1) ?_ ?_ ?_ ?_
      · repeat (first | exact agree.mask _ _ _ | refine agree.updo ?_ rfl _ | refine agree.updL ?_ _ rfl | refine agree.maskS rfl ?_)
      · exact ⟨rfl, (by first | exact congrArg Value.bool (mt_t (by omega) hs19_1) | exact congrArg Value.bool (mt_f (by omega) hs19_1)), trivial⟩
      · exact ⟨hB, hrow, (by omega), trivial⟩
      · first | omega | (dsimp only; omega)
     ·
      try with_reducible replace hs19_1 := of_decide_eq_false hs19_1
      refine WL_val (dd := some 73) rfl rfl rfl (r_move (v := va2) rfl) ?_
      refine WL_val (dd := some 74) rfl rfl rfl (r_move (v := .int .i64 _) rfl) ?_
      refine WL_val (dd := some 75) rfl rfl rfl (r_idxS (v := va2) rfl ((Below.ow hB hall2)).sl rfl tb_el54 (by omega) (by first | omega | (simp only [flagsTo_len, litsTo_len, firstF_len, ptF_len, setF_len]; omega))) ?_
      refine WL_val (dd := some 76) rfl rfl rfl (r_load1 (v := (vs2.getD j undef)) rfl tb_sc57 (SlT.cell ((Below.ow hB hall2)).sl encV_len undef (by omega) (by first | omega | (simp only [flagsTo_len, litsTo_len, firstF_len, ptF_len, setF_len]; omega)) 0 rfl)) ?_
      have hp19_5 : SlT encI 1 W29 ((vs2.getD j undef)) ((mPts l o (listS (S.on.getD o 0)) (mOuts S l o) k).getD j []) := (LO.ll hLO2).get j (by omega)
      refine WL_val (dd := some 77) rfl rfl rfl (r_move (v := v0) rfl) ?_
      refine WL_call (dd := some 78) rfl rfl rfl (r_call2 tb_c110 (v0 := (vs2.getD j undef)) rfl (v1 := v0) rfl) (C_drawkniferef13_Same _ _ _ _ _ (Below.slT hB hp19_5) hrow.sl (by first | assumption | omega) (by first | assumption | omega)) (fun v19_7 W92 hE93 hP19_7 => ?_)
      have hsz94 := (Below.size hB)
      replace hB := below_ext hB hE93 (Nat.le_refl _)
      replace hrow := hE93.ow hrow
      clear hE93
      clear hsz94
      obtain rfl := hP19_7
      refine WL_val (dd := some 79) rfl rfl rfl (r_pick_f rfl (v := .bool _) rfl) ?_
      refine WL_val (dd := some 11) rfl rfl rfl (r_assign (v := .bool _) rfl) ?_
      refine WL_nil ?_
      refine hK91 _ _ ?_
      clear hK91 K90
      refine WC_region ?_
      refine WL_val (dd := some 69) rfl rfl rfl (r_move (v := .int .i64 _) rfl) ?_
      refine WL_val (dd := some 70) rfl rfl rfl (r_addI rfl rfl (by omega) (by omega)) ?_
      refine WL_val (dd := some 12) rfl rfl rfl (r_assign (v := .int .i64 _) rfl) ?_
      refine WL_nil ?_
      refine hJ85 _ _ (j + 1) ?_ ?_ ?_ ?_
      · repeat (first | exact agree.mask _ _ _ | refine agree.updo ?_ rfl _ | refine agree.updL ?_ _ rfl | refine agree.maskS rfl ?_)
      · exact ⟨rfl, (by first | exact congrArg Value.bool (mt_t (by omega) hs19_1) | exact congrArg Value.bool (mt_f (by omega) hs19_1)), trivial⟩
      · exact ⟨hB, hrow, (by omega), trivial⟩
      · first | omega | (dsimp only; omega)
    ·
     try with_reducible replace hc4 := of_decide_eq_false hc4
     refine WC_exit ?_
     refine hK79 _ _ ?_
     clear hK87 K86
     clear hJ85 J84
     clear hK79 K78
     refine WC_seq (fun K95 hK96 => ?_)
     have hje : j = (mPts l o (listS (S.on.getD o 0)) (mOuts S l o) k).length := by omega
     refine WC_region ?_
     refine WL_val (dd := some 80) rfl rfl rfl (r_move (v := .bool _) rfl) ?_
     refine WL_val (dd := some 81) rfl rfl rfl (r_not rfl) ?_
     refine WL_nil ?_
     refine hK96 _ _ ?_
     clear hK96 K95
     refine WC_cond (b := _) rfl (fun hc5 => ?_) (fun hc5 => ?_)
     ·
      try with_reducible replace hc5 := of_decide_eq_true hc5
      try clear hz42
      try clear hz43
      try clear hz44
      replace hm0_0 := Below.atI hB hm0_0
      replace hP5_5 := Below.ow hB hP5_5
      replace hall2 := Below.ow hB hall2
      replace hLO2 := LO.below hB hLO2
      have hzs := Nat.le_trans (Nat.le_refl _) (Below.size hBo41)
      replace hrow := OwT.mono hrow hzs
      replace hB := Below.trans hBo41 (Below.mono hB hzs)
      clear hBo41 hzs
      refine WC_region ?_
      refine WL_val (dd := some 82) rfl rfl rfl (r_move (v := va2) rfl) ?_
      refine WL_val (dd := some 83) rfl rfl rfl (r_move (v := v0) rfl) ?_
      refine WL_step (dd := some 84) rfl rfl rfl (Y_lit1 (u := v0) rfl tb_el54 tb_zs57 (by rw [SlT.cells hrow.sl]; rfl) (by decide) (by decide) (fun b21_2 W97 hb98 hE99 hm21_2 => ?_))
      have lo_b21_2 : w.heap.size ≤ b21_2 := hb98 ▸ (Below.size hB)
      have no_va2_b21_2 := OwT.neB (b := b21_2) hall2 (Nat.le_of_eq hb98.symm)
      clear hb98
      replace hm0_0 := hE99.at hm0_0
      replace hP5_5 := hE99.ow hP5_5
      replace hall2 := hE99.ow hall2
      replace hLO2 := LO.ext hE99 hLO2
      replace hB := below_ext hB hE99 (Nat.le_refl _)
      replace hrow := hE99.ow hrow
      clear hE99
      rw [SlT.cells hrow.sl] at hm21_2
      refine WL_step (dd := some 85) rfl rfl rfl (Y_append (v := va2) (v2 := .slice (some ⟨b21_2, 0, none⟩) 1 1) rfl rfl tb_el54 tb_zs57 (by decide) hall2 (sl_lit1 hm21_2 rfl) (by simp only [List.all_cons, List.all_nil, SlT.one hrow.sl, Bool.and_true]) (by have := Below.size hB; omega) (by first | omega | (simp; omega) | (simp only [flagsTo_len, litsTo_len, firstF_len, ptF_len, setF_len]; omega)) (by first | omega | (simp; omega) | (simp only [flagsTo_len, litsTo_len, firstF_len, ptF_len, setF_len]; omega)) (fun v21_3 W100 hG101 ho21_3 => ?_))
      replace ho21_3 := OwT.snoc (enc := encV) (x := v0) rfl rfl rfl rfl ho21_3
      clear hm21_2
      replace hm0_0 := At.grownOw hm0_0 hall2 hG101 (by decide)
      replace hP5_5 := OwT.grownOw hP5_5 hall2 hG101 (by decide)
      replace hLO2 := LO.grownOw hLO2 hall2 hG101 (by decide)
      replace hB := below_grown hB hG101 (Nat.le_refl _) (fun j hj => (OwT.lt hall2 j hj))
      replace hrow := OwT.grownOw hrow hall2 hG101 (by decide)
      clear hG101
      clear hall2
      refine WL_val (dd := some 5) rfl rfl rfl (r_assign (v := v21_3) rfl) ?_
      refine WL_nil ?_
      refine hK38 _ _ ?_
      clear hK38 K37
      refine WC_region ?_
      refine WL_val (dd := some 34) rfl rfl rfl (r_move (v := .int .i64 _) rfl) ?_
      refine WL_val (dd := some 35) rfl rfl rfl (r_addI rfl rfl (by omega) (by omega)) ?_
      refine WL_val (dd := some 8) rfl rfl rfl (r_assign (v := .int .i64 _) rfl) ?_
      refine WL_nil ?_
      refine hJ32 _ _ ((k + 1, v21_3, vs2 ++ [v0])) ?_ ?_ ?_ ?_
      · repeat (first | exact agree.mask _ _ _ | refine agree.updo ?_ rfl _ | refine agree.updL ?_ _ rfl | refine agree.maskS rfl ?_)
      · exact ⟨rfl, rfl, trivial⟩
      · exact ⟨hB, hm0_0, hP5_5, ho21_3, (by rw [mPts, hrk, mt_new hje (not_t hc5)]; exact LO.snoc hLO2 hrow), (by omega), trivial⟩
      · show (listS (S.on.getD o 0)).length - (k + 1) < (listS (S.on.getD o 0)).length - k; omega
     ·
      try with_reducible replace hc5 := of_decide_eq_false hc5
      refine WC_skip ?_
      refine hK38 _ _ ?_
      clear hK38 K37
      refine WC_region ?_
      refine WL_val (dd := some 34) rfl rfl rfl (r_move (v := .int .i64 _) rfl) ?_
      refine WL_val (dd := some 35) rfl rfl rfl (r_addI rfl rfl (by omega) (by omega)) ?_
      refine WL_val (dd := some 8) rfl rfl rfl (r_assign (v := .int .i64 _) rfl) ?_
      refine WL_nil ?_
      try clear hz42
      try clear hz43
      try clear hz44
      replace hm0_0 := Below.atI hB hm0_0
      replace hP5_5 := Below.ow hB hP5_5
      replace hall2 := Below.ow hB hall2
      replace hLO2 := LO.below hB hLO2
      have hzs := Nat.le_trans (Nat.le_refl _) (Below.size hBo41)
      replace hrow := OwT.mono hrow hzs
      replace hB := Below.trans hBo41 (Below.mono hB hzs)
      clear hBo41 hzs
      refine hJ32 _ _ ((k + 1, va2, vs2)) ?_ ?_ ?_ ?_
      · repeat (first | exact agree.mask _ _ _ | refine agree.updo ?_ rfl _ | refine agree.updL ?_ _ rfl | refine agree.maskS rfl ?_)
      · exact ⟨rfl, rfl, trivial⟩
      · exact ⟨hB, hm0_0, hP5_5, hall2, (by rw [mPts, hrk, mt_old hje (not_f hc5)]; exact hLO2), (by omega), trivial⟩
      · show (listS (S.on.getD o 0)).length - (k + 1) < (listS (S.on.getD o 0)).length - k; omega
  ·
   try with_reducible replace hc1 := of_decide_eq_false hc1
   refine WC_exit ?_
   refine hK21 _ _ ?_
   clear hK34 K33
   clear hJ32 J31
   clear hK21 K20
   obtain rfl : k = (listS (S.on.getD o 0)).length := by omega
   refine WC_region ?_
   refine WL_val (dd := some 22) rfl rfl rfl (r_move (v := .int .i64 _) rfl) ?_
   refine WL_val (dd := some 23) rfl rfl rfl (r_addI rfl rfl (by omega) (by omega)) ?_
   refine WL_val (dd := some 6) rfl rfl rfl (r_assign (v := .int .i64 _) rfl) ?_
   refine WL_nil ?_
   refine hJ15 _ _ ((o + 1, va2, vs2)) ?_ ?_ ?_ ?_
   · repeat (first | exact agree.mask _ _ _ | refine agree.updo ?_ rfl _ | refine agree.updL ?_ _ rfl | refine agree.maskS rfl ?_)
   · exact ⟨rfl, rfl, trivial⟩
   · exact ⟨hB, hm0_0, hall2, hLO2, (by omega), trivial⟩
   · show S.on.length - (o + 1) < S.on.length - o; omega
 ·
  try with_reducible replace hc0 := of_decide_eq_false hc0
  refine WC_exit ?_
  refine hK9 _ _ ?_
  clear hK17 K16
  clear hJ15 J14
  clear hK9 K8
  refine WC_seq (fun K103 hK104 => ?_)
  have hz106 := Below.slT hB hon
  have hz107 := Below.slT hB hmay
  have hz108 := Below.slT hB hl
  have hBo105 := hB
  replace hB := Below.refl W12.heap.size W12
  obtain rfl : o = S.on.length := by omega
  have hvl := hLO.len
  refine WC_region ?_
  refine WL_val (dd := some 13) rfl rfl rfl (r_assign (v := .slice none 0 0) rfl) ?_
  refine WL_nil ?_
  refine hK104 _ _ ?_
  clear hK104 K103
  refine WC_seq (fun K109 hK110 => ?_)
  refine WC_block ?_
  refine WC_loop (σ := (Nat) × (Value) × (List Value)) [13, 14, 15, 16, 86, 87, 88, 89, 90, 91, 92, 93, 94, 95, 96, 97, 98, 99, 100, 101, 102, 103, 104, 105, 106, 107, 108, 109, 110, 111, 112, 113, 114, 115, 116, 117, 118, 119, 120, 121, 122, 123, 124, 125, 126, 127, 128, 129, 130, 131, 132, 133, 134, 135, 136] (fun (m, vo, vos) => [(13, vo)]) (fun sg W => match sg with | (m, vo, vos) => (Below W12.heap.size W12 W) ∧ (OwT encV 1 57 W W12.heap.size vo vos) ∧ (m ≤ (rowsA S l).length) ∧ (LL W12 vos ((rowsA S l).take m)) ∧ (True)) (fun (m, vo, vos) => (rowsA S l).length - m) ((0, .slice none 0 0, [])) ⟨rfl, trivial⟩ ⟨hB, OwT.nil, (Nat.zero_le _), (LL.nil _), trivial⟩ ?_
  clear hB
  rintro ⟨m, vo, vos⟩ g112 W111 ⟨hB, hout, hm, hll, _⟩ J113 hJ114
  refine WC_seq (fun K115 hK116 => ?_)
  refine WC_seq (fun K117 hK118 => ?_)
  have hvo := hll.len
  rw [List.length_take] at hvo
  refine WC_region ?_
  refine WL_val (dd := some 86) rfl rfl rfl (r_move (v := vo) rfl) ?_
  refine WL_val (dd := some 87) rfl rfl rfl (r_lenS (v := vo) rfl hout.sl tb_el54) ?_
  refine WL_val (dd := some 88) rfl rfl rfl (r_move (v := va) rfl) ?_
  refine WL_val (dd := some 89) rfl rfl rfl (r_lenS (v := va) rfl ((Below.ow hB hall)).sl tb_el54) ?_
  refine WL_val (dd := some 90) rfl rfl rfl (r_lss rfl rfl) ?_
  refine WL_nil ?_
  refine hK118 _ _ ?_
  clear hK118 K117
  refine WC_cond (b := _) rfl (fun hc6 => ?_) (fun hc6 => ?_)
  ·
   try with_reducible replace hc6 := of_decide_eq_true hc6
   refine WC_skip ?_
   refine hK116 _ _ ?_
   clear hK116 K115
   refine WC_block ?_
   refine WC_seq (fun K119 hK120 => ?_)
   refine WC_region ?_
   refine WL_val (dd := some 14) rfl rfl rfl (r_assign (v := .int .i64 _) rfl) ?_
   refine WL_nil ?_
   refine hK120 _ _ ?_
   clear hK120 K119
   refine WC_seq (fun K121 hK122 => ?_)
   refine WC_seq (fun K123 hK124 => ?_)
   refine WC_region ?_
   refine WL_val (dd := some 15) rfl rfl rfl (r_assign (v := .int .i64 0) rfl) ?_
   refine WL_nil ?_
   refine hK124 _ _ ?_
   clear hK124 K123
   refine WC_block ?_
   refine WC_loop (σ := (Nat) × (Int)) [14, 15, 16, 91, 92, 93, 94, 95, 96, 97, 98, 99, 100, 101, 102, 103, 104, 105, 106, 107, 108, 109, 110, 111, 112, 113, 114, 115, 116, 117, 118, 119, 120, 121, 122, 123, 124, 125, 126, 127, 128, 129] (fun (q, b) => [(15, .int .i64 (q : Int)), (14, .int .i64 b)]) (fun sg W => match sg with | (q, b) => (Below W12.heap.size W12 W) ∧ (OwT encV 1 57 W W12.heap.size vo _) ∧ (q ≤ (mOuts S l S.on.length).length) ∧ (BestAt (rowsA S l) (mOuts S l S.on.length) m q b) ∧ (True)) (fun (q, b) => (mOuts S l S.on.length).length - q) ((0, -1)) ⟨rfl, rfl, trivial⟩ ⟨hB, hout, (Nat.zero_le _), (best_zero _ _ _), trivial⟩ ?_
   clear hB hout
   rintro ⟨q, b⟩ g126 W125 ⟨hB, hout, hq, hbest, _⟩ J127 hJ128
   refine WC_seq (fun K129 hK130 => ?_)
   refine WC_seq (fun K131 hK132 => ?_)
   refine WC_region ?_
   refine WL_val (dd := some 91) rfl rfl rfl (r_move (v := .int .i64 _) rfl) ?_
   refine WL_val (dd := some 92) rfl rfl rfl (r_move (v := va) rfl) ?_
   refine WL_val (dd := some 93) rfl rfl rfl (r_lenS (v := va) rfl ((Below.ow hB hall)).sl tb_el54) ?_
   refine WL_val (dd := some 94) rfl rfl rfl (r_lss rfl rfl) ?_
   refine WL_nil ?_
   refine hK132 _ _ ?_
   clear hK132 K131
   refine WC_cond (b := _) rfl (fun hc7 => ?_) (fun hc7 => ?_)
   ·
    try with_reducible replace hc7 := of_decide_eq_true hc7
    refine WC_skip ?_
    refine hK130 _ _ ?_
    clear hK130 K129
    refine WC_seq (fun K133 hK134 => ?_)
    refine WC_block ?_
    refine WC_seq (fun K135 hK136 => ?_)
    have hvo := hll.len
    rw [List.length_take] at hvo
    have hla := fun h0 : 0 < m => LL.last hll (by omega) h0
    have hl1 := met_len (S := S) (l := l) S.on.length q
    have hl2 := rows_len (S := S) (l := l) (m - 1)
    refine WC_draw Ext tb_mix (fun W137 hE138 => ?_)
    replace hB := below_ext hB hE138 (Nat.le_refl _)
    replace hout := hE138.ow hout
    have hS := Ext.refl W137
    refine WT_take (dd := some 97) 0 rfl (by kernel_rfl) (by kernel_rfl) (by kernel_rfl) rfl rfl rfl (fun _wq _hq => r_move (v := vo) rfl) hS ?_
    refine WT_take (dd := some 98) 1 rfl (by kernel_rfl) (by kernel_rfl) (by kernel_rfl) rfl rfl rfl (fun _wq hq => r_lenS (v := vo) rfl ((hq.ow hout)).sl tb_el54) hS ?_
    refine WT_take (dd := some 99) 2 rfl (by kernel_rfl) (by kernel_rfl) (by kernel_rfl) rfl rfl rfl (fun _wq _hq => r_eql rfl rfl) hS ?_
    refine WT_split (dd := some 100) 3 rfl (by kernel_rfl) (by kernel_rfl) (by kernel_rfl) rfl rfl rfl (fun wq hq => r_move (v := .bool _) rfl) hS (fun hs28_3 => ?_) (fun hs28_3 => ?_)
    ·
     try with_reducible replace hs28_3 := of_decide_eq_true hs28_3
     refine WT_pass (dd := some 101) 4 rfl (by kernel_rfl) (by kernel_rfl) (by kernel_rfl) rfl rfl rfl hS ?_
     refine WT_pass (dd := some 102) 5 rfl (by kernel_rfl) (by kernel_rfl) (by kernel_rfl) rfl rfl rfl hS ?_
     refine WT_pass (dd := some 103) 6 rfl (by kernel_rfl) (by kernel_rfl) (by kernel_rfl) rfl rfl rfl hS ?_
     refine WT_pass (dd := some 104) 7 rfl (by kernel_rfl) (by kernel_rfl) (by kernel_rfl) rfl rfl rfl hS ?_
     refine WT_pass (dd := some 105) 8 rfl (by kernel_rfl) (by kernel_rfl) (by kernel_rfl) rfl rfl rfl hS ?_
     refine WT_pass (dd := some 106) 9 rfl (by kernel_rfl) (by kernel_rfl) (by kernel_rfl) rfl rfl rfl hS ?_
     refine WT_pass (dd := some 107) 10 rfl (by kernel_rfl) (by kernel_rfl) (by kernel_rfl) rfl rfl rfl hS ?_
     refine WT_pass (dd := some 108) 11 rfl (by kernel_rfl) (by kernel_rfl) (by kernel_rfl) rfl rfl rfl hS ?_
     refine WT_pass (dd := some 109) 12 rfl (by kernel_rfl) (by kernel_rfl) (by kernel_rfl) rfl rfl rfl hS ?_
     refine WT_pass (dd := some 110) 13 rfl (by kernel_rfl) (by kernel_rfl) (by kernel_rfl) rfl rfl rfl hS ?_
     refine WT_pass (dd := some 111) 14 rfl (by kernel_rfl) (by kernel_rfl) (by kernel_rfl) rfl rfl rfl hS ?_
     refine WT_take (dd := some 112) 15 rfl (by kernel_rfl) (by kernel_rfl) (by kernel_rfl) rfl rfl rfl (fun _wq _hq => r_pick_t rfl (v := .bool true) rfl) hS ?_
     refine WT_take (dd := some 16) 16 rfl (by kernel_rfl) (by kernel_rfl) (by kernel_rfl) rfl rfl rfl (fun _wq _hq => r_assign (v := .bool true) rfl) hS ?_
     refine WT_done (by kernel_rfl) ?_
     refine hK136 _ _ ?_
     clear hK136 K135
     refine WC_seq (fun K139 hK140 => ?_)
     have hbq := best_lt hbest
     have hl3 := met_len (S := S) (l := l) S.on.length b.toNat
     refine WC_draw Ext tb_mix (fun W141 hE142 => ?_)
     replace hB := below_ext hB hE142 (Nat.le_refl _)
     replace hout := hE142.ow hout
     have hS := Ext.refl W141
     refine WT_take (dd := some 113) 0 rfl (by kernel_rfl) (by kernel_rfl) (by kernel_rfl) rfl rfl rfl (fun _wq _hq => r_move (v := .bool true) rfl) hS ?_
     refine WT_take (dd := some 114) 1 rfl (by kernel_rfl) (by kernel_rfl) (by kernel_rfl) rfl rfl rfl (fun _wq _hq => r_move (v := .bool true) rfl) hS ?_
     refine WT_take (dd := some 115) 2 rfl (by kernel_rfl) (by kernel_rfl) (by kernel_rfl) rfl rfl rfl (fun _wq _hq => r_move (v := .int .i64 _) rfl) hS ?_
     refine WT_take (dd := some 116) 3 rfl (by kernel_rfl) (by kernel_rfl) (by kernel_rfl) rfl rfl rfl (fun _wq _hq => r_lss rfl rfl) hS ?_
     refine WT_split (dd := some 117) 4 rfl (by kernel_rfl) (by kernel_rfl) (by kernel_rfl) rfl rfl rfl (fun wq hq => r_move (v := .bool _) rfl) hS (fun hs29_4 => ?_) (fun hs29_4 => ?_)
     ·
      try with_reducible replace hs29_4 := of_decide_eq_true hs29_4
      refine WT_pass (dd := some 118) 5 rfl (by kernel_rfl) (by kernel_rfl) (by kernel_rfl) rfl rfl rfl hS ?_
      refine WT_pass (dd := some 119) 6 rfl (by kernel_rfl) (by kernel_rfl) (by kernel_rfl) rfl rfl rfl hS ?_
      refine WT_pass (dd := some 120) 7 rfl (by kernel_rfl) (by kernel_rfl) (by kernel_rfl) rfl rfl rfl hS ?_
      refine WT_pass (dd := some 121) 8 rfl (by kernel_rfl) (by kernel_rfl) (by kernel_rfl) rfl rfl rfl hS ?_
      refine WT_pass (dd := some 122) 9 rfl (by kernel_rfl) (by kernel_rfl) (by kernel_rfl) rfl rfl rfl hS ?_
      refine WT_pass (dd := some 123) 10 rfl (by kernel_rfl) (by kernel_rfl) (by kernel_rfl) rfl rfl rfl hS ?_
      refine WT_pass (dd := some 124) 11 rfl (by kernel_rfl) (by kernel_rfl) (by kernel_rfl) rfl rfl rfl hS ?_
      refine WT_pass (dd := some 125) 12 rfl (by kernel_rfl) (by kernel_rfl) (by kernel_rfl) rfl rfl rfl hS ?_
      refine WT_pass (dd := some 126) 13 rfl (by kernel_rfl) (by kernel_rfl) (by kernel_rfl) rfl rfl rfl hS ?_
      refine WT_take (dd := some 127) 14 rfl (by kernel_rfl) (by kernel_rfl) (by kernel_rfl) rfl rfl rfl (fun _wq _hq => r_pick_t rfl (v := .bool true) rfl) hS ?_
      refine WT_take (dd := some 128) 15 rfl (by kernel_rfl) (by kernel_rfl) (by kernel_rfl) rfl rfl rfl (fun _wq _hq => r_pick_t rfl (v := .bool true) rfl) hS ?_
      refine WT_done (by kernel_rfl) ?_
      refine hK140 _ _ ?_
      clear hK140 K139
      refine WC_cond_true rfl ?_
      refine WC_region ?_
      refine WL_val (dd := some 129) rfl rfl rfl (r_move (v := .int .i64 _) rfl) ?_
      refine WL_val (dd := some 14) rfl rfl rfl (r_assign (v := .int .i64 _) rfl) ?_
      refine WL_nil ?_
      refine hK134 _ _ ?_
      clear hK134 K133
      refine WC_region ?_
      refine WL_val (dd := some 95) rfl rfl rfl (r_move (v := .int .i64 _) rfl) ?_
      refine WL_val (dd := some 96) rfl rfl rfl (r_addI rfl rfl (by omega) (by omega)) ?_
      refine WL_val (dd := some 15) rfl rfl rfl (r_assign (v := .int .i64 _) rfl) ?_
      refine WL_nil ?_
      refine hJ128 _ _ ((q + 1, (q : Int))) ?_ ?_ ?_ ?_
      · repeat (first | exact agree.mask _ _ _ | refine agree.updo ?_ rfl _ | refine agree.updL ?_ _ rfl | refine agree.maskS rfl ?_)
      · exact ⟨rfl, rfl, trivial⟩
      · exact ⟨hB, hout, (by omega), (best_first hbest hs29_4 (by first | exact beh_1 hs29_1 | exact beh_0 (by omega))), trivial⟩
      · show (mOuts S l S.on.length).length - (q + 1) < (mOuts S l S.on.length).length - q; omega
     ·
      try with_reducible replace hs29_4 := of_decide_eq_false hs29_4
      refine WT_take (dd := some 118) 5 rfl (by kernel_rfl) (by kernel_rfl) (by kernel_rfl) rfl rfl rfl (fun _wq _hq => r_move (v := va) rfl) hS ?_
      refine WT_take (dd := some 119) 6 rfl (by kernel_rfl) (by kernel_rfl) (by kernel_rfl) rfl rfl rfl (fun _wq _hq => r_move (v := .int .i64 _) rfl) hS ?_
      refine WT_take (dd := some 120) 7 rfl (by kernel_rfl) (by kernel_rfl) (by kernel_rfl) rfl rfl rfl (fun _wq hq => r_idxS (v := va) rfl ((hq.ow (Below.ow hB hall))).sl rfl tb_el54 (by omega) (by first | omega | (simp only [flagsTo_len, litsTo_len, firstF_len, ptF_len, setF_len]; omega))) hS ?_
      refine WT_take (dd := some 121) 8 rfl (by kernel_rfl) (by kernel_rfl) (by kernel_rfl) rfl rfl rfl (fun _wq hq => r_load1 (v := (vs.getD q undef)) rfl tb_sc57 (SlT.cell ((hq.ow (Below.ow hB hall))).sl encV_len undef (by omega) (by first | omega | (simp only [flagsTo_len, litsTo_len, firstF_len, ptF_len, setF_len]; omega)) 0 rfl)) hS ?_
      have hp29_8 : SlT encI 1 W12 ((vs.getD q undef)) ((mOuts S l S.on.length).getD q []) := (LO.ll hLO).get q (by omega)
      refine WT_take (dd := some 122) 9 rfl (by kernel_rfl) (by kernel_rfl) (by kernel_rfl) rfl rfl rfl (fun _wq _hq => r_move (v := va) rfl) hS ?_
      refine WT_take (dd := some 123) 10 rfl (by kernel_rfl) (by kernel_rfl) (by kernel_rfl) rfl rfl rfl (fun _wq _hq => r_move (v := .int .i64 _) rfl) hS ?_
      refine WT_take (dd := some 124) 11 rfl (by kernel_rfl) (by kernel_rfl) (by kernel_rfl) rfl rfl rfl (fun _wq hq => r_idxS (v := va) rfl ((hq.ow (Below.ow hB hall))).sl rfl tb_el54 (by omega) (by first | omega | (simp only [flagsTo_len, litsTo_len, firstF_len, ptF_len, setF_len]; omega))) hS ?_
      refine WT_take (dd := some 125) 12 rfl (by kernel_rfl) (by kernel_rfl) (by kernel_rfl) rfl rfl rfl (fun _wq hq => r_load1 (v := (vs.getD b.toNat undef)) rfl tb_sc57 (SlT.cell ((hq.ow (Below.ow hB hall))).sl encV_len undef (by omega) (by first | omega | (simp only [flagsTo_len, litsTo_len, firstF_len, ptF_len, setF_len]; omega)) 0 rfl)) hS ?_
      have hp29_12 : SlT encI 1 W12 ((vs.getD b.toNat undef)) ((mOuts S l S.on.length).getD b.toNat []) := (LO.ll hLO).get b.toNat (by omega)
      refine WT_one (dd := some 126) 13 (by kernel_rfl) rfl rfl rfl rfl (Yd.call (r_call2 tb_c114 (v0 := (vs.getD q undef)) rfl (v1 := (vs.getD b.toNat undef)) rfl) (C_drawkniferef13_ahead _ _ _ _ _ (Below.slT hB hp29_8) (Below.slT hB hp29_12) (by first | assumption | omega) (by first | assumption | omega)) (fun v29_13 W143 hE144 hP29_13 => ⟨.inl (hS.trans hE144), ?_⟩))
      have hsz145 := (Below.size hB)
      have sv146_hB := hB
      have sv146_hout := hout
      replace hB := below_ext hB hE144 (Nat.le_refl _)
      replace hout := hE144.ow hout
      replace hS := hS.trans hE144
      clear hE144
      clear hsz145
      obtain rfl := hP29_13
      refine WT_take (dd := some 127) 14 rfl (by kernel_rfl) (by kernel_rfl) (by kernel_rfl) rfl rfl rfl (fun _wq _hq => r_pick_f rfl (v := .bool _) rfl) hS ?_
      refine WT_take (dd := some 128) 15 rfl (by kernel_rfl) (by kernel_rfl) (by kernel_rfl) rfl rfl rfl (fun _wq _hq => r_pick_t rfl (v := .bool _) rfl) hS ?_
      refine WT_done (by kernel_rfl) ?_
      try clear sv146_hB sv146_hout
      refine hK140 _ _ ?_
      clear hK140 K139
      refine WC_cond (b := _) rfl (fun hc8 => ?_) (fun hc8 => ?_)
      ·
       try with_reducible replace hc8 := of_decide_eq_true hc8
       refine WC_region ?_
       refine WL_val (dd := some 129) rfl rfl rfl (r_move (v := .int .i64 _) rfl) ?_
       refine WL_val (dd := some 14) rfl rfl rfl (r_assign (v := .int .i64 _) rfl) ?_
       refine WL_nil ?_
       refine hK134 _ _ ?_
       clear hK134 K133
       refine WC_region ?_
       refine WL_val (dd := some 95) rfl rfl rfl (r_move (v := .int .i64 _) rfl) ?_
       refine WL_val (dd := some 96) rfl rfl rfl (r_addI rfl rfl (by omega) (by omega)) ?_
       refine WL_val (dd := some 15) rfl rfl rfl (r_assign (v := .int .i64 _) rfl) ?_
       refine WL_nil ?_
       refine hJ128 _ _ ((q + 1, (q : Int))) ?_ ?_ ?_ ?_
       · repeat (first | exact agree.mask _ _ _ | refine agree.updo ?_ rfl _ | refine agree.updL ?_ _ rfl | refine agree.maskS rfl ?_)
       · exact ⟨rfl, rfl, trivial⟩
       · exact ⟨hB, hout, (by omega), (best_less hbest hs29_4 (by first | exact beh_1 hs29_1 | exact beh_0 (by omega)) hc8), trivial⟩
       · show (mOuts S l S.on.length).length - (q + 1) < (mOuts S l S.on.length).length - q; omega
      ·
       try with_reducible replace hc8 := of_decide_eq_false hc8
       refine WC_skip ?_
       refine hK134 _ _ ?_
       clear hK134 K133
       refine WC_region ?_
       refine WL_val (dd := some 95) rfl rfl rfl (r_move (v := .int .i64 _) rfl) ?_
       refine WL_val (dd := some 96) rfl rfl rfl (r_addI rfl rfl (by omega) (by omega)) ?_
       refine WL_val (dd := some 15) rfl rfl rfl (r_assign (v := .int .i64 _) rfl) ?_
       refine WL_nil ?_
       refine hJ128 _ _ ((q + 1, b)) ?_ ?_ ?_ ?_
       · repeat (first | exact agree.mask _ _ _ | refine agree.updo ?_ rfl _ | refine agree.updL ?_ _ rfl | refine agree.maskS rfl ?_)
       · exact ⟨rfl, rfl, trivial⟩
       · exact ⟨hB, hout, (by omega), (best_keep hbest hs29_4 hc8), trivial⟩
       · show (mOuts S l S.on.length).length - (q + 1) < (mOuts S l S.on.length).length - q; omega
    ·
     try with_reducible replace hs28_3 := of_decide_eq_false hs28_3
     refine WT_take (dd := some 101) 4 rfl (by kernel_rfl) (by kernel_rfl) (by kernel_rfl) rfl rfl rfl (fun _wq _hq => r_move (v := vo) rfl) hS ?_
     refine WT_take (dd := some 102) 5 rfl (by kernel_rfl) (by kernel_rfl) (by kernel_rfl) rfl rfl rfl (fun _wq _hq => r_move (v := vo) rfl) hS ?_
     refine WT_take (dd := some 103) 6 rfl (by kernel_rfl) (by kernel_rfl) (by kernel_rfl) rfl rfl rfl (fun _wq hq => r_lenS (v := vo) rfl ((hq.ow hout)).sl tb_el54) hS ?_
     refine WT_take (dd := some 104) 7 rfl (by kernel_rfl) (by kernel_rfl) (by kernel_rfl) rfl rfl rfl (fun _wq _hq => r_subI rfl rfl (by omega) (by omega)) hS ?_
     refine WT_take (dd := some 105) 8 rfl (by kernel_rfl) (by kernel_rfl) (by kernel_rfl) rfl rfl rfl (fun _wq hq => r_idxS (v := vo) rfl ((hq.ow hout)).sl rfl tb_el54 (by omega) (by first | omega | (simp only [flagsTo_len, litsTo_len, firstF_len, ptF_len, setF_len]; omega))) hS ?_
     refine WT_take (dd := some 106) 9 rfl (by kernel_rfl) (by kernel_rfl) (by kernel_rfl) rfl rfl rfl (fun _wq hq => r_load1 (v := (vos.getD ((vos.length : Int) - 1).toNat undef)) rfl tb_sc57 (SlT.cell ((hq.ow hout)).sl encV_len undef (by omega) (by first | omega | (simp only [flagsTo_len, litsTo_len, firstF_len, ptF_len, setF_len]; omega)) 0 rfl)) hS ?_
     have hp28_9 : SlT encI 1 W12 ((vos.getD ((vos.length : Int) - 1).toNat undef)) ((rowsA S l).getD (m - 1) []) := hla (by omega)
     refine WT_take (dd := some 107) 10 rfl (by kernel_rfl) (by kernel_rfl) (by kernel_rfl) rfl rfl rfl (fun _wq _hq => r_move (v := va) rfl) hS ?_
     refine WT_take (dd := some 108) 11 rfl (by kernel_rfl) (by kernel_rfl) (by kernel_rfl) rfl rfl rfl (fun _wq _hq => r_move (v := .int .i64 _) rfl) hS ?_
     refine WT_take (dd := some 109) 12 rfl (by kernel_rfl) (by kernel_rfl) (by kernel_rfl) rfl rfl rfl (fun _wq hq => r_idxS (v := va) rfl ((hq.ow (Below.ow hB hall))).sl rfl tb_el54 (by omega) (by first | omega | (simp only [flagsTo_len, litsTo_len, firstF_len, ptF_len, setF_len]; omega))) hS ?_
     refine WT_take (dd := some 110) 13 rfl (by kernel_rfl) (by kernel_rfl) (by kernel_rfl) rfl rfl rfl (fun _wq hq => r_load1 (v := (vs.getD q undef)) rfl tb_sc57 (SlT.cell ((hq.ow (Below.ow hB hall))).sl encV_len undef (by omega) (by first | omega | (simp only [flagsTo_len, litsTo_len, firstF_len, ptF_len, setF_len]; omega)) 0 rfl)) hS ?_
     have hp28_13 : SlT encI 1 W12 ((vs.getD q undef)) ((mOuts S l S.on.length).getD q []) := (LO.ll hLO).get q (by omega)
     refine WT_one (dd := some 111) 14 (by kernel_rfl) rfl rfl rfl rfl (Yd.call (r_call2 tb_c114 (v0 := (vos.getD ((vos.length : Int) - 1).toNat undef)) rfl (v1 := (vs.getD q undef)) rfl) (C_drawkniferef13_ahead _ _ _ _ _ (Below.slT hB hp28_9) (Below.slT hB hp28_13) (by first | assumption | omega) (by first | assumption | omega)) (fun v28_14 W147 hE148 hP28_14 => ⟨.inl (hS.trans hE148), ?_⟩))
     have hsz149 := (Below.size hB)
     have sv150_hB := hB
     have sv150_hout := hout
     replace hB := below_ext hB hE148 (Nat.le_refl _)
     replace hout := hE148.ow hout
     replace hS := hS.trans hE148
     clear hE148
     clear hsz149
     obtain rfl := hP28_14
     refine WT_take (dd := some 112) 15 rfl (by kernel_rfl) (by kernel_rfl) (by kernel_rfl) rfl rfl rfl (fun _wq _hq => r_pick_f rfl (v := .bool _) rfl) hS ?_
     refine WT_take (dd := some 16) 16 rfl (by kernel_rfl) (by kernel_rfl) (by kernel_rfl) rfl rfl rfl (fun _wq _hq => r_assign (v := .bool _) rfl) hS ?_
     refine WT_done (by kernel_rfl) ?_
     try clear sv150_hB sv150_hout
     refine hK136 _ _ ?_
     clear hK136 K135
     refine WC_seq (fun K151 hK152 => ?_)
     have hbq := best_lt hbest
     have hl3 := met_len (S := S) (l := l) S.on.length b.toNat
     refine WC_draw Ext tb_mix (fun W153 hE154 => ?_)
     replace hB := below_ext hB hE154 (Nat.le_refl _)
     replace hout := hE154.ow hout
     have hS := Ext.refl W153
     refine WT_take (dd := some 113) 0 rfl (by kernel_rfl) (by kernel_rfl) (by kernel_rfl) rfl rfl rfl (fun _wq _hq => r_move (v := .bool _) rfl) hS ?_
     refine WT_split (dd := some 114) 1 rfl (by kernel_rfl) (by kernel_rfl) (by kernel_rfl) rfl rfl rfl (fun wq hq => r_move (v := .bool _) rfl) hS (fun hs29_1 => ?_) (fun hs29_1 => ?_)
     ·
      try with_reducible replace hs29_1 := of_decide_eq_true hs29_1
      refine WT_take (dd := some 115) 2 rfl (by kernel_rfl) (by kernel_rfl) (by kernel_rfl) rfl rfl rfl (fun _wq _hq => r_move (v := .int .i64 _) rfl) hS ?_
      refine WT_take (dd := some 116) 3 rfl (by kernel_rfl) (by kernel_rfl) (by kernel_rfl) rfl rfl rfl (fun _wq _hq => r_lss rfl rfl) hS ?_
      refine WT_split (dd := some 117) 4 rfl (by kernel_rfl) (by kernel_rfl) (by kernel_rfl) rfl rfl rfl (fun wq hq => r_move (v := .bool _) rfl) hS (fun hs29_4 => ?_) (fun hs29_4 => ?_)
      ·
       try with_reducible replace hs29_4 := of_decide_eq_true hs29_4
       refine WT_pass (dd := some 118) 5 rfl (by kernel_rfl) (by kernel_rfl) (by kernel_rfl) rfl rfl rfl hS ?_
       refine WT_pass (dd := some 119) 6 rfl (by kernel_rfl) (by kernel_rfl) (by kernel_rfl) rfl rfl rfl hS ?_
       refine WT_pass (dd := some 120) 7 rfl (by kernel_rfl) (by kernel_rfl) (by kernel_rfl) rfl rfl rfl hS ?_
       refine WT_pass (dd := some 121) 8 rfl (by kernel_rfl) (by kernel_rfl) (by kernel_rfl) rfl rfl rfl hS ?_
       refine WT_pass (dd := some 122) 9 rfl (by kernel_rfl) (by kernel_rfl) (by kernel_rfl) rfl rfl rfl hS ?_
       refine WT_pass (dd := some 123) 10 rfl (by kernel_rfl) (by kernel_rfl) (by kernel_rfl) rfl rfl rfl hS ?_
       refine WT_pass (dd := some 124) 11 rfl (by kernel_rfl) (by kernel_rfl) (by kernel_rfl) rfl rfl rfl hS ?_
       refine WT_pass (dd := some 125) 12 rfl (by kernel_rfl) (by kernel_rfl) (by kernel_rfl) rfl rfl rfl hS ?_
       refine WT_pass (dd := some 126) 13 rfl (by kernel_rfl) (by kernel_rfl) (by kernel_rfl) rfl rfl rfl hS ?_
       refine WT_take (dd := some 127) 14 rfl (by kernel_rfl) (by kernel_rfl) (by kernel_rfl) rfl rfl rfl (fun _wq _hq => r_pick_t rfl (v := .bool true) rfl) hS ?_
       refine WT_take (dd := some 128) 15 rfl (by kernel_rfl) (by kernel_rfl) (by kernel_rfl) rfl rfl rfl (fun _wq _hq => r_pick_t rfl (v := .bool true) rfl) hS ?_
       refine WT_done (by kernel_rfl) ?_
       refine hK152 _ _ ?_
       clear hK152 K151
       refine WC_cond_true rfl ?_
       refine WC_region ?_
       refine WL_val (dd := some 129) rfl rfl rfl (r_move (v := .int .i64 _) rfl) ?_
       refine WL_val (dd := some 14) rfl rfl rfl (r_assign (v := .int .i64 _) rfl) ?_
       refine WL_nil ?_
       refine hK134 _ _ ?_
       clear hK134 K133
       refine WC_region ?_
       refine WL_val (dd := some 95) rfl rfl rfl (r_move (v := .int .i64 _) rfl) ?_
       refine WL_val (dd := some 96) rfl rfl rfl (r_addI rfl rfl (by omega) (by omega)) ?_
       refine WL_val (dd := some 15) rfl rfl rfl (r_assign (v := .int .i64 _) rfl) ?_
       refine WL_nil ?_
       refine hJ128 _ _ ((q + 1, (q : Int))) ?_ ?_ ?_ ?_
       · repeat (first | exact agree.mask _ _ _ | refine agree.updo ?_ rfl _ | refine agree.updL ?_ _ rfl | refine agree.maskS rfl ?_)
       · exact ⟨rfl, rfl, trivial⟩
       · exact ⟨hB, hout, (by omega), (best_first hbest hs29_4 (by first | exact beh_1 hs29_1 | exact beh_0 (by omega))), trivial⟩
       · show (mOuts S l S.on.length).length - (q + 1) < (mOuts S l S.on.length).length - q; omega
      ·
       try with_reducible replace hs29_4 := of_decide_eq_false hs29_4
       refine WT_take (dd := some 118) 5 rfl (by kernel_rfl) (by kernel_rfl) (by kernel_rfl) rfl rfl rfl (fun _wq _hq => r_move (v := va) rfl) hS ?_
       refine WT_take (dd := some 119) 6 rfl (by kernel_rfl) (by kernel_rfl) (by kernel_rfl) rfl rfl rfl (fun _wq _hq => r_move (v := .int .i64 _) rfl) hS ?_
       refine WT_take (dd := some 120) 7 rfl (by kernel_rfl) (by kernel_rfl) (by kernel_rfl) rfl rfl rfl (fun _wq hq => r_idxS (v := va) rfl ((hq.ow (Below.ow hB hall))).sl rfl tb_el54 (by omega) (by first | omega | (simp only [flagsTo_len, litsTo_len, firstF_len, ptF_len, setF_len]; omega))) hS ?_
       refine WT_take (dd := some 121) 8 rfl (by kernel_rfl) (by kernel_rfl) (by kernel_rfl) rfl rfl rfl (fun _wq hq => r_load1 (v := (vs.getD q undef)) rfl tb_sc57 (SlT.cell ((hq.ow (Below.ow hB hall))).sl encV_len undef (by omega) (by first | omega | (simp only [flagsTo_len, litsTo_len, firstF_len, ptF_len, setF_len]; omega)) 0 rfl)) hS ?_
       have hp29_8 : SlT encI 1 W12 ((vs.getD q undef)) ((mOuts S l S.on.length).getD q []) := (LO.ll hLO).get q (by omega)
       refine WT_take (dd := some 122) 9 rfl (by kernel_rfl) (by kernel_rfl) (by kernel_rfl) rfl rfl rfl (fun _wq _hq => r_move (v := va) rfl) hS ?_
       refine WT_take (dd := some 123) 10 rfl (by kernel_rfl) (by kernel_rfl) (by kernel_rfl) rfl rfl rfl (fun _wq _hq => r_move (v := .int .i64 _) rfl) hS ?_
       refine WT_take (dd := some 124) 11 rfl (by kernel_rfl) (by kernel_rfl) (by kernel_rfl) rfl rfl rfl (fun _wq hq => r_idxS (v := va) rfl ((hq.ow (Below.ow hB hall))).sl rfl tb_el54 (by omega) (by first | omega | (simp only [flagsTo_len, litsTo_len, firstF_len, ptF_len, setF_len]; omega))) hS ?_
       refine WT_take (dd := some 125) 12 rfl (by kernel_rfl) (by kernel_rfl) (by kernel_rfl) rfl rfl rfl (fun _wq hq => r_load1 (v := (vs.getD b.toNat undef)) rfl tb_sc57 (SlT.cell ((hq.ow (Below.ow hB hall))).sl encV_len undef (by omega) (by first | omega | (simp only [flagsTo_len, litsTo_len, firstF_len, ptF_len, setF_len]; omega)) 0 rfl)) hS ?_
       have hp29_12 : SlT encI 1 W12 ((vs.getD b.toNat undef)) ((mOuts S l S.on.length).getD b.toNat []) := (LO.ll hLO).get b.toNat (by omega)
       refine WT_one (dd := some 126) 13 (by kernel_rfl) rfl rfl rfl rfl (Yd.call (r_call2 tb_c114 (v0 := (vs.getD q undef)) rfl (v1 := (vs.getD b.toNat undef)) rfl) (C_drawkniferef13_ahead _ _ _ _ _ (Below.slT hB hp28_13) (Below.slT hB hp29_12) (by first | assumption | omega) (by first | assumption | omega)) (fun v29_13 W155 hE156 hP29_13 => ⟨.inl (hS.trans hE156), ?_⟩))
       have hsz157 := (Below.size hB)
       have sv158_hB := hB
       have sv158_hout := hout
       replace hB := below_ext hB hE156 (Nat.le_refl _)
       replace hout := hE156.ow hout
       replace hS := hS.trans hE156
       clear hE156
       clear hsz157
       obtain rfl := hP29_13
       refine WT_take (dd := some 127) 14 rfl (by kernel_rfl) (by kernel_rfl) (by kernel_rfl) rfl rfl rfl (fun _wq _hq => r_pick_f rfl (v := .bool _) rfl) hS ?_
       refine WT_take (dd := some 128) 15 rfl (by kernel_rfl) (by kernel_rfl) (by kernel_rfl) rfl rfl rfl (fun _wq _hq => r_pick_t rfl (v := .bool _) rfl) hS ?_
       refine WT_done (by kernel_rfl) ?_
       try clear sv158_hB sv158_hout
       refine hK152 _ _ ?_
       clear hK152 K151
       refine WC_cond (b := _) rfl (fun hc8 => ?_) (fun hc8 => ?_)
       ·
        try with_reducible replace hc8 := of_decide_eq_true hc8
        refine WC_region ?_
        refine WL_val (dd := some 129) rfl rfl rfl (r_move (v := .int .i64 _) rfl) ?_
        refine WL_val (dd := some 14) rfl rfl rfl (r_assign (v := .int .i64 _) rfl) ?_
        refine WL_nil ?_
        refine hK134 _ _ ?_
        clear hK134 K133
        refine WC_region ?_
        refine WL_val (dd := some 95) rfl rfl rfl (r_move (v := .int .i64 _) rfl) ?_
        refine WL_val (dd := some 96) rfl rfl rfl (r_addI rfl rfl (by omega) (by omega)) ?_
        refine WL_val (dd := some 15) rfl rfl rfl (r_assign (v := .int .i64 _) rfl) ?_
        refine WL_nil ?_
        refine hJ128 _ _ ((q + 1, (q : Int))) ?_ ?_ ?_ ?_
        · repeat (first | exact agree.mask _ _ _ | refine agree.updo ?_ rfl _ | refine agree.updL ?_ _ rfl | refine agree.maskS rfl ?_)
        · exact ⟨rfl, rfl, trivial⟩
        · exact ⟨hB, hout, (by omega), (best_less hbest hs29_4 (by first | exact beh_1 hs29_1 | exact beh_0 (by omega)) hc8), trivial⟩
        · show (mOuts S l S.on.length).length - (q + 1) < (mOuts S l S.on.length).length - q; omega
       ·
        try with_reducible replace hc8 := of_decide_eq_false hc8
        refine WC_skip ?_
        refine hK134 _ _ ?_
        clear hK134 K133
        refine WC_region ?_
        refine WL_val (dd := some 95) rfl rfl rfl (r_move (v := .int .i64 _) rfl) ?_
        refine WL_val (dd := some 96) rfl rfl rfl (r_addI rfl rfl (by omega) (by omega)) ?_
        refine WL_val (dd := some 15) rfl rfl rfl (r_assign (v := .int .i64 _) rfl) ?_
        refine WL_nil ?_
        refine hJ128 _ _ ((q + 1, b)) ?_ ?_ ?_ ?_
        · repeat (first | exact agree.mask _ _ _ | refine agree.updo ?_ rfl _ | refine agree.updL ?_ _ rfl | refine agree.maskS rfl ?_)
        · exact ⟨rfl, rfl, trivial⟩
        · exact ⟨hB, hout, (by omega), (best_keep hbest hs29_4 hc8), trivial⟩
        · show (mOuts S l S.on.length).length - (q + 1) < (mOuts S l S.on.length).length - q; omega
     ·
      try with_reducible replace hs29_1 := of_decide_eq_false hs29_1
      refine WT_pass (dd := some 115) 2 rfl (by kernel_rfl) (by kernel_rfl) (by kernel_rfl) rfl rfl rfl hS ?_
      refine WT_pass (dd := some 116) 3 rfl (by kernel_rfl) (by kernel_rfl) (by kernel_rfl) rfl rfl rfl hS ?_
      refine WT_pass (dd := some 117) 4 rfl (by kernel_rfl) (by kernel_rfl) (by kernel_rfl) rfl rfl rfl hS ?_
      refine WT_pass (dd := some 118) 5 rfl (by kernel_rfl) (by kernel_rfl) (by kernel_rfl) rfl rfl rfl hS ?_
      refine WT_pass (dd := some 119) 6 rfl (by kernel_rfl) (by kernel_rfl) (by kernel_rfl) rfl rfl rfl hS ?_
      refine WT_pass (dd := some 120) 7 rfl (by kernel_rfl) (by kernel_rfl) (by kernel_rfl) rfl rfl rfl hS ?_
      refine WT_pass (dd := some 121) 8 rfl (by kernel_rfl) (by kernel_rfl) (by kernel_rfl) rfl rfl rfl hS ?_
      refine WT_pass (dd := some 122) 9 rfl (by kernel_rfl) (by kernel_rfl) (by kernel_rfl) rfl rfl rfl hS ?_
      refine WT_pass (dd := some 123) 10 rfl (by kernel_rfl) (by kernel_rfl) (by kernel_rfl) rfl rfl rfl hS ?_
      refine WT_pass (dd := some 124) 11 rfl (by kernel_rfl) (by kernel_rfl) (by kernel_rfl) rfl rfl rfl hS ?_
      refine WT_pass (dd := some 125) 12 rfl (by kernel_rfl) (by kernel_rfl) (by kernel_rfl) rfl rfl rfl hS ?_
      refine WT_pass (dd := some 126) 13 rfl (by kernel_rfl) (by kernel_rfl) (by kernel_rfl) rfl rfl rfl hS ?_
      refine WT_pass (dd := some 127) 14 rfl (by kernel_rfl) (by kernel_rfl) (by kernel_rfl) rfl rfl rfl hS ?_
      refine WT_take (dd := some 128) 15 rfl (by kernel_rfl) (by kernel_rfl) (by kernel_rfl) rfl rfl rfl (fun _wq _hq => r_pick_f rfl (v := .bool false) rfl) hS ?_
      refine WT_done (by kernel_rfl) ?_
      refine hK152 _ _ ?_
      clear hK152 K151
      refine WC_cond_false rfl ?_
      refine WC_skip ?_
      refine hK134 _ _ ?_
      clear hK134 K133
      refine WC_region ?_
      refine WL_val (dd := some 95) rfl rfl rfl (r_move (v := .int .i64 _) rfl) ?_
      refine WL_val (dd := some 96) rfl rfl rfl (r_addI rfl rfl (by omega) (by omega)) ?_
      refine WL_val (dd := some 15) rfl rfl rfl (r_assign (v := .int .i64 _) rfl) ?_
      refine WL_nil ?_
      refine hJ128 _ _ ((q + 1, b)) ?_ ?_ ?_ ?_
      · repeat (first | exact agree.mask _ _ _ | refine agree.updo ?_ rfl _ | refine agree.updL ?_ _ rfl | refine agree.maskS rfl ?_)
      · exact ⟨rfl, rfl, trivial⟩
      · exact ⟨hB, hout, (by omega), (best_no hbest (beh_f (by omega) hs29_1)), trivial⟩
      · show (mOuts S l S.on.length).length - (q + 1) < (mOuts S l S.on.length).length - q; omega
   ·
    try with_reducible replace hc7 := of_decide_eq_false hc7
    refine WC_exit ?_
    refine hK122 _ _ ?_
    clear hK130 K129
    clear hJ128 J127
    clear hK122 K121
    have hbe : 0 ≤ b ∧ b < ((mOuts S l S.on.length).length : Int) ∧ (mOuts S l S.on.length).getD b.toNat [] = (rowsA S l).getD m [] := best_end (m := m) (mOuts_nodup S l _) (by omega) (by omega) hbest
    refine WC_region ?_
    refine WL_val (dd := some 130) rfl rfl rfl (r_move (v := vo) rfl) ?_
    refine WL_val (dd := some 131) rfl rfl rfl (r_move (v := va) rfl) ?_
    refine WL_val (dd := some 132) rfl rfl rfl (r_move (v := .int .i64 _) rfl) ?_
    refine WL_val (dd := some 133) rfl rfl rfl (r_idxS (v := va) rfl ((Below.ow hB hall)).sl rfl tb_el54 (by omega) (by first | omega | (simp only [flagsTo_len, litsTo_len, firstF_len, ptF_len, setF_len]; omega))) ?_
    refine WL_val (dd := some 134) rfl rfl rfl (r_load1 (v := (vs.getD b.toNat undef)) rfl tb_sc57 (SlT.cell ((Below.ow hB hall)).sl encV_len undef (by omega) (by first | omega | (simp only [flagsTo_len, litsTo_len, firstF_len, ptF_len, setF_len]; omega)) 0 rfl)) ?_
    have hp31_4 : SlT encI 1 W12 ((vs.getD b.toNat undef)) ((rowsA S l).getD m []) := (by rw [← hbe.2.2]; exact (LO.ll hLO).get b.toNat (by omega))
    refine WL_step (dd := some 135) rfl rfl rfl (Y_lit1 (u := (vs.getD b.toNat undef)) rfl tb_el54 tb_zs57 (by rw [SlT.cells (Below.slT hB hp31_4)]; rfl) (by decide) (by decide) (fun b31_5 W159 hb160 hE161 hm31_5 => ?_))
    have lo_b31_5 : W12.heap.size ≤ b31_5 := hb160 ▸ (Below.size hB)
    have no_vo_b31_5 := OwT.neB (b := b31_5) hout (Nat.le_of_eq hb160.symm)
    clear hb160
    replace hB := below_ext hB hE161 (Nat.le_refl _)
    replace hout := hE161.ow hout
    clear hE161
    rw [SlT.cells (Below.slT hB hp31_4)] at hm31_5
    refine WL_step (dd := some 136) rfl rfl rfl (Y_append (v := vo) (v2 := .slice (some ⟨b31_5, 0, none⟩) 1 1) rfl rfl tb_el54 tb_zs57 (by decide) hout (sl_lit1 hm31_5 rfl) (by simp only [List.all_cons, List.all_nil, SlT.one (Below.slT hB hp31_4), Bool.and_true]) (by have := Below.size hB; omega) (by first | omega | (simp; omega) | (simp only [flagsTo_len, litsTo_len, firstF_len, ptF_len, setF_len]; omega)) (by first | omega | (simp; omega) | (simp only [flagsTo_len, litsTo_len, firstF_len, ptF_len, setF_len]; omega)) (fun v31_6 W162 hG163 ho31_6 => ?_))
    replace ho31_6 := OwT.snoc (enc := encV) (x := (vs.getD b.toNat undef)) rfl rfl rfl rfl ho31_6
    clear hm31_5
    replace hB := below_grown hB hG163 (Nat.le_refl _) (fun j hj => (OwT.lt hout j hj))
    clear hG163
    clear hout
    refine WL_val (dd := some 13) rfl rfl rfl (r_assign (v := v31_6) rfl) ?_
    refine WL_nil ?_
    refine hJ114 _ _ ((m + 1, v31_6, vos ++ [vs.getD b.toNat undef])) ?_ ?_ ?_ ?_
    · repeat (first | exact agree.mask _ _ _ | refine agree.updo ?_ rfl _ | refine agree.updL ?_ _ rfl | refine agree.maskS rfl ?_)
    · exact ⟨rfl, trivial⟩
    · exact ⟨hB, ho31_6, (by omega), (by rw [← take_put (by omega)]; exact LL.snoc hll hp31_4), trivial⟩
    · show (rowsA S l).length - (m + 1) < (rowsA S l).length - m; omega
  ·
   try with_reducible replace hc6 := of_decide_eq_false hc6
   refine WC_exit ?_
   refine hK110 _ _ ?_
   clear hK116 K115
   clear hJ114 J113
   clear hK110 K109
   refine WC_seq (fun K165 hK166 => ?_)
   have hll2 := LL.below hB hll
   refine WC_region ?_
   refine WL_val (dd := some 137) rfl rfl rfl (r_move (v := vo) rfl) ?_
   refine WL_val (dd := some 4) rfl rfl rfl (r_assign (v := vo) rfl) ?_
   refine WL_nil ?_
   refine hK166 _ _ ?_
   clear hK166 K165
   refine WC_ret ?_
   try clear hz106
   try clear hz107
   try clear hz108
   replace hm0_0 := Below.atI hB hm0_0
   replace hall := Below.ow hB hall
   replace hLO := LO.below hB hLO
   have hzs := Nat.le_trans (Nat.le_refl _) (Below.size hBo105)
   replace hout := OwT.mono hout hzs
   replace hB := Below.trans hBo105 (Below.mono hB hzs)
   clear hBo105 hzs
   repeat (first | refine thenQ_ret ?_ | refine blockQ_ret ?_)
   refine ret_t (v := vo) rfl ?_
   refine ⟨hB, ?_⟩
   rw [List.take_of_length_le (by omega)] at hll2
   exact ⟨_, hout, hll2⟩

end Go.Proofs.Ytdbcijijhhbkaaa
