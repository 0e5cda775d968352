/-
  The walks of the document's answers about more deeds with families.
-/
import Derived.Test.YtpamgfbecgjjeaaProg
import Derived.Test.YtpamgfbecgjjeaaWRef08
import Derived.Test.YtpamgfbecgjjeaaZ18
namespace Go.Proofs.Ytpamgfbecgjjeaa
set_option linter.unusedVariables false
set_option linter.unusedSimpArgs false
open Go Go.RowKit

theorem tb_c22 : callB Try.prog 22 = true := by kernel_rfl
theorem tb_c92 : callB Try.prog 92 = true := by kernel_rfl
theorem tb_c93 : callB Try.prog 93 = true := by kernel_rfl

theorem C_drawkniferef20_Holds (a b : Int) (w : World) (ha : 0 ≤ a) (ha2 : a < 16777216) (hb : 0 ≤ b) (hb2 : b < 16777216) :
    Fn Try.prog 92 #[.int .i64 a, .int .i64 b] w fun v w' => v = .bool (decide (joI a b = a)) := by
 refine Fn_intro (n := 10) Try.func92 rfl rfl (Nat.le_of_ble_eq_true rfl) ?_
 have hB : Below w.heap.size w w := Below.refl _ _
 refine WC_seq (fun K1 hK2 => ?_)
 refine WC_region ?_
 refine WL_val (dd := some 4) rfl rfl rfl (r_assign (v := .bool false) rfl) ?_
 refine WL_nil ?_
 refine hK2 _ _ ?_
 clear hK2 K1
 refine WC_seq (fun K3 hK4 => ?_)
 refine WC_region ?_
 refine WL_val (dd := some 5) rfl rfl rfl (r_move (v := .int .i64 _) rfl) ?_
 refine WL_val (dd := some 6) rfl rfl rfl (r_move (v := .int .i64 _) rfl) ?_
 refine WL_call (dd := some 7) rfl rfl rfl (r_call2 tb_c22 (v0 := .int .i64 _) rfl (v1 := .int .i64 _) rfl) (C_drawkniferef08_Both _ _ _ (by first | assumption | omega) (by first | assumption | omega) (by first | assumption | omega) (by first | assumption | omega)) (fun v1_2 W5 hE6 hP1_2 => ?_)
 have hsz7 := (Below.size hB)
 replace hB := below_ext hB hE6 (Nat.le_refl _)
 clear hE6
 clear hsz7
 obtain rfl := hP1_2
 refine WL_val (dd := some 8) rfl rfl rfl (r_move (v := .int .i64 _) rfl) ?_
 refine WL_val (dd := some 9) rfl rfl rfl (r_eql rfl rfl) ?_
 refine WL_val (dd := some 4) rfl rfl rfl (r_assign (v := .bool _) rfl) ?_
 refine WL_nil ?_
 refine hK4 _ _ ?_
 clear hK4 K3
 refine WC_ret ?_
 repeat (first | refine thenQ_ret ?_ | refine blockQ_ret ?_)
 refine ret_t (v := .bool _) rfl ?_
 refine ⟨hB, ?_⟩
 rfl

theorem C_drawkniferef20_apart (a b : Int) (w : World) (ha : 0 ≤ a) (ha2 : a < 16777216) (hb : 0 ≤ b) (hb2 : b < 16777216) :
    Fn Try.prog 93 #[.int .i64 a, .int .i64 b] w fun v w' => v = .bool (decide (joI a b = a + b)) := by
 refine Fn_intro (n := 12) Try.func93 rfl rfl (Nat.le_of_ble_eq_true rfl) ?_
 have hB : Below w.heap.size w w := Below.refl _ _
 refine WC_seq (fun K1 hK2 => ?_)
 refine WC_region ?_
 refine WL_val (dd := some 4) rfl rfl rfl (r_assign (v := .bool false) rfl) ?_
 refine WL_nil ?_
 refine hK2 _ _ ?_
 clear hK2 K1
 refine WC_seq (fun K3 hK4 => ?_)
 refine WC_region ?_
 refine WL_val (dd := some 5) rfl rfl rfl (r_move (v := .int .i64 _) rfl) ?_
 refine WL_val (dd := some 6) rfl rfl rfl (r_move (v := .int .i64 _) rfl) ?_
 refine WL_call (dd := some 7) rfl rfl rfl (r_call2 tb_c22 (v0 := .int .i64 _) rfl (v1 := .int .i64 _) rfl) (C_drawkniferef08_Both _ _ _ (by first | assumption | omega) (by first | assumption | omega) (by first | assumption | omega) (by first | assumption | omega)) (fun v1_2 W5 hE6 hP1_2 => ?_)
 have hsz7 := (Below.size hB)
 replace hB := below_ext hB hE6 (Nat.le_refl _)
 clear hE6
 clear hsz7
 obtain rfl := hP1_2
 refine WL_val (dd := some 8) rfl rfl rfl (r_move (v := .int .i64 _) rfl) ?_
 refine WL_val (dd := some 9) rfl rfl rfl (r_move (v := .int .i64 _) rfl) ?_
 refine WL_val (dd := some 10) rfl rfl rfl (r_addI rfl rfl (by omega) (by omega)) ?_
 refine WL_val (dd := some 11) rfl rfl rfl (r_eql rfl rfl) ?_
 refine WL_val (dd := some 4) rfl rfl rfl (r_assign (v := .bool _) rfl) ?_
 refine WL_nil ?_
 refine hK4 _ _ ?_
 clear hK4 K3
 refine WC_ret ?_
 repeat (first | refine thenQ_ret ?_ | refine blockQ_ret ?_)
 refine ret_t (v := .bool _) rfl ?_
 refine ⟨hB, ?_⟩
 rfl

theorem C_drawkniferef20_Above (xF xG : Value) (F G : List Int) (ab : Bool) (w : World) (hF : SlT encI 1 w xF F) (hG : SlT encI 1 w xG G) (hFl : F.length ≤ 1000000) (hGl : G.length ≤ 1000000) (hiF : ∀ m, m ∈ F → 0 ≤ m ∧ m < 16777216) (hiG : ∀ m, m ∈ G → 0 ≤ m ∧ m < 16777216) :
    Fn Try.prog 58 #[xF, xG, .bool ab] w fun v w' => OwT encI 1 3 w' w.heap.size v (aboveI F G ab) := by
 refine Fn_intro (n := 59) Try.func58 rfl rfl (Nat.le_of_ble_eq_true rfl) ?_
 have hB : Below w.heap.size w w := Below.refl _ _
 refine WC_seq (fun K1 hK2 => ?_)
 refine WC_region ?_
 refine WL_val (dd := some 6) rfl rfl rfl (r_assign (v := .slice none 0 0) rfl) ?_
 refine WL_nil ?_
 refine hK2 _ _ ?_
 clear hK2 K1
 refine WC_seq (fun K3 hK4 => ?_)
 refine WC_region ?_
 refine WL_val (dd := some 7) rfl rfl rfl (r_assign (v := .slice none 0 0) rfl) ?_
 refine WL_nil ?_
 refine hK4 _ _ ?_
 clear hK4 K3
 refine WC_seq (fun K5 hK6 => ?_)
 refine WC_seq (fun K7 hK8 => ?_)
 refine WC_region ?_
 refine WL_val (dd := some 8) rfl rfl rfl (r_assign (v := .int .i64 0) rfl) ?_
 refine WL_nil ?_
 refine hK8 _ _ ?_
 clear hK8 K7
 refine WC_block ?_
 refine WC_loop (σ := (Nat) × (Value)) [7, 8, 9, 10, 11, 12, 13, 14, 15, 16, 17, 18, 19, 20, 21, 22, 23, 24, 25, 26, 27, 28, 29, 30, 31, 32, 33, 34, 35, 36, 37, 38, 39, 40, 41, 42, 43, 44, 45, 46, 47, 48, 49, 50, 51, 52, 53, 54, 55, 56, 57] (fun (i, v0) => [(8, .int .i64 (i : Int)), (7, v0)]) (fun sg W => match sg with | (i, v0) => (Below w.heap.size w W) ∧ (OwT encI 1 3 W w.heap.size v0 (aboveT F G ab i)) ∧ (i ≤ F.length) ∧ (True)) (fun (i, v0) => F.length - i) ((0, .slice none 0 0)) ⟨rfl, rfl, trivial⟩ ⟨hB, OwT.nil, (Nat.zero_le _), trivial⟩ ?_
 clear hB
 rintro ⟨i, v0⟩ g10 W9 ⟨hB, ho, hi, _⟩ J11 hJ12
 refine WC_seq (fun K13 hK14 => ?_)
 refine WC_seq (fun K15 hK16 => ?_)
 refine WC_region ?_
 refine WL_val (dd := some 11) rfl rfl rfl (r_move (v := .int .i64 _) rfl) ?_
 refine WL_val (dd := some 12) rfl rfl rfl (r_move (v := xF) rfl) ?_
 refine WL_val (dd := some 13) rfl rfl rfl (r_lenS (v := xF) rfl (Below.slT hB hF) tb_el22) ?_
 refine WL_val (dd := some 14) rfl rfl rfl (r_lss rfl rfl) ?_
 refine WL_nil ?_
 refine hK16 _ _ ?_
 clear hK16 K15
 refine WC_cond (b := _) rfl (fun hc0 => ?_) (fun hc0 => ?_)
 ·
  try with_reducible replace hc0 := of_decide_eq_true hc0
  refine WC_skip ?_
  refine hK14 _ _ ?_
  clear hK14 K13
  refine WC_seq (fun K17 hK18 => ?_)
  refine WC_block ?_
  refine WC_seq (fun K19 hK20 => ?_)
  refine WC_region ?_
  refine WL_val (dd := some 9) rfl rfl rfl (r_assign (v := .bool false) rfl) ?_
  refine WL_nil ?_
  refine hK20 _ _ ?_
  clear hK20 K19
  refine WC_seq (fun K21 hK22 => ?_)
  refine WC_seq (fun K23 hK24 => ?_)
  refine WC_region ?_
  refine WL_val (dd := some 10) rfl rfl rfl (r_assign (v := .int .i64 0) rfl) ?_
  refine WL_nil ?_
  refine hK24 _ _ ?_
  clear hK24 K23
  refine WC_block ?_
  refine WC_loop (σ := (Nat)) [9, 10, 17, 18, 19, 20, 21, 22, 23, 24, 25, 26, 27, 28, 29, 30, 31, 32, 33, 34, 35, 36, 37, 38, 39, 40, 41, 42, 43, 44, 45, 46, 47, 48, 49] (fun k => [(10, .int .i64 (k : Int)), (9, .bool ((G.take k).any (hdB ab (F.getD i 0))))]) (fun k W => (Below w.heap.size w W) ∧ (OwT encI 1 3 W w.heap.size v0 _) ∧ (k ≤ G.length) ∧ (True)) (fun k => G.length - k) (0) ⟨rfl, rfl, trivial⟩ ⟨hB, ho, (Nat.zero_le _), trivial⟩ ?_
  clear hB ho
  rintro k g26 W25 ⟨hB, ho, hk, _⟩ J27 hJ28
  refine WC_seq (fun K29 hK30 => ?_)
  refine WC_seq (fun K31 hK32 => ?_)
  refine WC_region ?_
  refine WL_val (dd := some 17) rfl rfl rfl (r_move (v := .int .i64 _) rfl) ?_
  refine WL_val (dd := some 18) rfl rfl rfl (r_move (v := xG) rfl) ?_
  refine WL_val (dd := some 19) rfl rfl rfl (r_lenS (v := xG) rfl (Below.slT hB hG) tb_el22) ?_
  refine WL_val (dd := some 20) rfl rfl rfl (r_lss rfl rfl) ?_
  refine WL_nil ?_
  refine hK32 _ _ ?_
  clear hK32 K31
  refine WC_cond (b := _) rfl (fun hc1 => ?_) (fun hc1 => ?_)
  ·
   try with_reducible replace hc1 := of_decide_eq_true hc1
   refine WC_skip ?_
   refine hK30 _ _ ?_
   clear hK30 K29
   refine WC_seq (fun K33 hK34 => ?_)
   refine WC_block ?_
   refine WC_seq (fun K35 hK36 => ?_)
   have hii := hiF _ (getD_mem (l := F) (i := i) (d := 0) (by omega))
   have hik := hiG _ (getD_mem (l := G) (i := k) (d := 0) (by omega))
   refine WC_draw Ext tb_mix (fun W37 hE38 => ?_)
   replace hB := below_ext hB hE38 (Nat.le_refl _)
   replace ho := hE38.ow ho
   have hS := Ext.refl W37
   refine WT_take (dd := some 23) 0 rfl (by kernel_rfl) (by kernel_rfl) (by kernel_rfl) rfl rfl rfl (fun _wq _hq => r_move (v := .bool _) rfl) hS ?_
   refine WT_split (dd := some 24) 1 rfl (by kernel_rfl) (by kernel_rfl) (by kernel_rfl) rfl rfl rfl (fun wq hq => r_move (v := .bool _) rfl) hS (fun hs9_1 => ?_) (fun hs9_1 => ?_)
   ·
    try with_reducible replace hs9_1 := of_decide_eq_true hs9_1
    refine WT_take (dd := some 25) 2 rfl (by kernel_rfl) (by kernel_rfl) (by kernel_rfl) rfl rfl rfl (fun _wq _hq => r_move (v := xF) rfl) hS ?_
    refine WT_take (dd := some 26) 3 rfl (by kernel_rfl) (by kernel_rfl) (by kernel_rfl) rfl rfl rfl (fun _wq _hq => r_move (v := .int .i64 _) rfl) hS ?_
    refine WT_take (dd := some 27) 4 rfl (by kernel_rfl) (by kernel_rfl) (by kernel_rfl) rfl rfl rfl (fun _wq hq => r_idxS (v := xF) rfl (hq.slT (Below.slT hB hF)) rfl tb_el22 (by omega) (by omega)) hS ?_
    refine WT_take (dd := some 28) 5 rfl (by kernel_rfl) (by kernel_rfl) (by kernel_rfl) rfl rfl rfl (fun _wq hq => r_load1 (v := .int .i64 _) rfl tb_sc3 (SlT.cell (hq.slT (Below.slT hB hF)) encI_len 0 (by omega) (by omega) 0 rfl)) hS ?_
    refine WT_take (dd := some 29) 6 rfl (by kernel_rfl) (by kernel_rfl) (by kernel_rfl) rfl rfl rfl (fun _wq _hq => r_move (v := xG) rfl) hS ?_
    refine WT_take (dd := some 30) 7 rfl (by kernel_rfl) (by kernel_rfl) (by kernel_rfl) rfl rfl rfl (fun _wq _hq => r_move (v := .int .i64 _) rfl) hS ?_
    refine WT_take (dd := some 31) 8 rfl (by kernel_rfl) (by kernel_rfl) (by kernel_rfl) rfl rfl rfl (fun _wq hq => r_idxS (v := xG) rfl (hq.slT (Below.slT hB hG)) rfl tb_el22 (by omega) (by omega)) hS ?_
    refine WT_take (dd := some 32) 9 rfl (by kernel_rfl) (by kernel_rfl) (by kernel_rfl) rfl rfl rfl (fun _wq hq => r_load1 (v := .int .i64 _) rfl tb_sc3 (SlT.cell (hq.slT (Below.slT hB hG)) encI_len 0 (by omega) (by omega) 0 rfl)) hS ?_
    refine WT_one (dd := some 33) 10 (by kernel_rfl) rfl rfl rfl rfl (Yd.call (r_call2 tb_c92 (v0 := .int .i64 _) rfl (v1 := .int .i64 _) rfl) (C_drawkniferef20_Holds (F.getD i 0) (G.getD k 0) _ hii.1 hii.2 hik.1 hik.2) (fun v9_10 W39 hE40 hP9_10 => ⟨.inl (hS.trans hE40), ?_⟩))
    have hsz41 := (Below.size hB)
    have sv42_hB := hB
    have sv42_ho := ho
    replace hB := below_ext hB hE40 (Nat.le_refl _)
    replace ho := hE40.ow ho
    replace hS := hS.trans hE40
    clear hE40
    clear hsz41
    obtain rfl := hP9_10
    refine WT_take (dd := some 34) 11 rfl (by kernel_rfl) (by kernel_rfl) (by kernel_rfl) rfl rfl rfl (fun _wq _hq => r_pick_t rfl (v := .bool _) rfl) hS ?_
    refine WT_split (dd := some 35) 12 rfl (by kernel_rfl) (by kernel_rfl) (by kernel_rfl) rfl rfl rfl (fun wq hq => r_move (v := .bool _) rfl) hS (fun hs9_12 => ?_) (fun hs9_12 => ?_)
    ·
     try with_reducible replace hs9_12 := of_decide_eq_true hs9_12
     refine WT_pass (dd := some 36) 13 rfl (by kernel_rfl) (by kernel_rfl) (by kernel_rfl) rfl rfl rfl hS ?_
     refine WT_pass (dd := some 37) 14 rfl (by kernel_rfl) (by kernel_rfl) (by kernel_rfl) rfl rfl rfl hS ?_
     refine WT_pass (dd := some 38) 15 rfl (by kernel_rfl) (by kernel_rfl) (by kernel_rfl) rfl rfl rfl hS ?_
     refine WT_pass (dd := some 39) 16 rfl (by kernel_rfl) (by kernel_rfl) (by kernel_rfl) rfl rfl rfl hS ?_
     refine WT_pass (dd := some 40) 17 rfl (by kernel_rfl) (by kernel_rfl) (by kernel_rfl) rfl rfl rfl hS ?_
     refine WT_pass (dd := some 41) 18 rfl (by kernel_rfl) (by kernel_rfl) (by kernel_rfl) rfl rfl rfl hS ?_
     refine WT_pass (dd := some 42) 19 rfl (by kernel_rfl) (by kernel_rfl) (by kernel_rfl) rfl rfl rfl hS ?_
     refine WT_pass (dd := some 43) 20 rfl (by kernel_rfl) (by kernel_rfl) (by kernel_rfl) rfl rfl rfl hS ?_
     refine WT_pass (dd := some 44) 21 rfl (by kernel_rfl) (by kernel_rfl) (by kernel_rfl) rfl rfl rfl hS ?_
     refine WT_pass (dd := some 45) 22 rfl (by kernel_rfl) (by kernel_rfl) (by kernel_rfl) rfl rfl rfl hS ?_
     refine WT_pass (dd := some 46) 23 rfl (by kernel_rfl) (by kernel_rfl) (by kernel_rfl) rfl rfl rfl hS ?_
     refine WT_pass (dd := some 47) 24 rfl (by kernel_rfl) (by kernel_rfl) (by kernel_rfl) rfl rfl rfl hS ?_
     refine WT_pass (dd := some 48) 25 rfl (by kernel_rfl) (by kernel_rfl) (by kernel_rfl) rfl rfl rfl hS ?_
     refine WT_take (dd := some 49) 26 rfl (by kernel_rfl) (by kernel_rfl) (by kernel_rfl) rfl rfl rfl (fun _wq _hq => r_pick_t rfl (v := .bool true) rfl) hS ?_
     refine WT_done (by kernel_rfl) ?_
     try clear sv42_hB sv42_ho
     refine hK36 _ _ ?_
     clear hK36 K35
     refine WC_cond_true rfl ?_
     refine WC_region ?_
     refine WL_val (dd := some 9) rfl rfl rfl (r_assign (v := .bool true) rfl) ?_
     refine WL_nil ?_
     refine hK34 _ _ ?_
     clear hK34 K33
     refine WC_region ?_
     refine WL_val (dd := some 21) rfl rfl rfl (r_move (v := .int .i64 _) rfl) ?_
     refine WL_val (dd := some 22) rfl rfl rfl (r_addI rfl rfl (by omega) (by omega)) ?_
     refine WL_val (dd := some 10) rfl rfl rfl (r_assign (v := .int .i64 _) rfl) ?_
     refine WL_nil ?_
     refine hJ28 _ _ (k + 1) ?_ ?_ ?_ ?_
     · repeat (first | exact agree.mask _ _ _ | refine agree.updo ?_ rfl _ | refine agree.updL ?_ _ rfl | refine agree.maskS rfl ?_)
     · exact ⟨rfl, (by first | exact ab_t1 (by omega) hs9_1 hs9_12 | exact ab_f1 (by omega) hs9_1 hs9_12 | exact ab_t2 (by omega) hs9_1 hc2 | exact ab_f2 (by omega) hs9_1 hc2), trivial⟩
     · exact ⟨hB, ho, (by omega), trivial⟩
     · first | omega | (dsimp only; omega)
    ·
     try with_reducible replace hs9_12 := of_decide_eq_false hs9_12
     refine WT_take (dd := some 36) 13 rfl (by kernel_rfl) (by kernel_rfl) (by kernel_rfl) rfl rfl rfl (fun _wq _hq => r_move (v := .bool _) rfl) hS ?_
     refine WT_take (dd := some 37) 14 rfl (by kernel_rfl) (by kernel_rfl) (by kernel_rfl) rfl rfl rfl (fun _wq _hq => r_not rfl) hS ?_
     refine WT_split (dd := some 38) 15 rfl (by kernel_rfl) (by kernel_rfl) (by kernel_rfl) rfl rfl rfl (fun wq hq => r_move (v := .bool _) rfl) hS (fun hs9_15 => ?_) (fun hs9_15 => ?_)
     ·
      try with_reducible replace hs9_15 := of_decide_eq_true hs9_15
      exact absurd (not_t' hs9_15) (by rw [hs9_1]; decide)
     ·
      try with_reducible replace hs9_15 := of_decide_eq_false hs9_15
      refine WT_pass (dd := some 39) 16 rfl (by kernel_rfl) (by kernel_rfl) (by kernel_rfl) rfl rfl rfl hS ?_
      refine WT_pass (dd := some 40) 17 rfl (by kernel_rfl) (by kernel_rfl) (by kernel_rfl) rfl rfl rfl hS ?_
      refine WT_pass (dd := some 41) 18 rfl (by kernel_rfl) (by kernel_rfl) (by kernel_rfl) rfl rfl rfl hS ?_
      refine WT_pass (dd := some 42) 19 rfl (by kernel_rfl) (by kernel_rfl) (by kernel_rfl) rfl rfl rfl hS ?_
      refine WT_pass (dd := some 43) 20 rfl (by kernel_rfl) (by kernel_rfl) (by kernel_rfl) rfl rfl rfl hS ?_
      refine WT_pass (dd := some 44) 21 rfl (by kernel_rfl) (by kernel_rfl) (by kernel_rfl) rfl rfl rfl hS ?_
      refine WT_pass (dd := some 45) 22 rfl (by kernel_rfl) (by kernel_rfl) (by kernel_rfl) rfl rfl rfl hS ?_
      refine WT_pass (dd := some 46) 23 rfl (by kernel_rfl) (by kernel_rfl) (by kernel_rfl) rfl rfl rfl hS ?_
      refine WT_pass (dd := some 47) 24 rfl (by kernel_rfl) (by kernel_rfl) (by kernel_rfl) rfl rfl rfl hS ?_
      refine WT_take (dd := some 48) 25 rfl (by kernel_rfl) (by kernel_rfl) (by kernel_rfl) rfl rfl rfl (fun _wq _hq => r_pick_f rfl (v := .bool false) rfl) hS ?_
      refine WT_take (dd := some 49) 26 rfl (by kernel_rfl) (by kernel_rfl) (by kernel_rfl) rfl rfl rfl (fun _wq _hq => r_pick_f rfl (v := .bool false) rfl) hS ?_
      refine WT_done (by kernel_rfl) ?_
      try clear sv42_hB sv42_ho
      refine hK36 _ _ ?_
      clear hK36 K35
      refine WC_cond_false rfl ?_
      refine WC_skip ?_
      refine hK34 _ _ ?_
      clear hK34 K33
      refine WC_region ?_
      refine WL_val (dd := some 21) rfl rfl rfl (r_move (v := .int .i64 _) rfl) ?_
      refine WL_val (dd := some 22) rfl rfl rfl (r_addI rfl rfl (by omega) (by omega)) ?_
      refine WL_val (dd := some 10) rfl rfl rfl (r_assign (v := .int .i64 _) rfl) ?_
      refine WL_nil ?_
      refine hJ28 _ _ (k + 1) ?_ ?_ ?_ ?_
      · repeat (first | exact agree.mask _ _ _ | refine agree.updo ?_ rfl _ | refine agree.updL ?_ _ rfl | refine agree.maskS rfl ?_)
      · exact ⟨rfl, (by first | exact ab_t1 (by omega) hs9_1 hs9_12 | exact ab_f1 (by omega) hs9_1 hs9_12 | exact ab_t2 (by omega) hs9_1 hc2 | exact ab_f2 (by omega) hs9_1 hc2), trivial⟩
      · exact ⟨hB, ho, (by omega), trivial⟩
      · first | omega | (dsimp only; omega)
   ·
    try with_reducible replace hs9_1 := of_decide_eq_false hs9_1
    refine WT_pass (dd := some 25) 2 rfl (by kernel_rfl) (by kernel_rfl) (by kernel_rfl) rfl rfl rfl hS ?_
    refine WT_pass (dd := some 26) 3 rfl (by kernel_rfl) (by kernel_rfl) (by kernel_rfl) rfl rfl rfl hS ?_
    refine WT_pass (dd := some 27) 4 rfl (by kernel_rfl) (by kernel_rfl) (by kernel_rfl) rfl rfl rfl hS ?_
    refine WT_pass (dd := some 28) 5 rfl (by kernel_rfl) (by kernel_rfl) (by kernel_rfl) rfl rfl rfl hS ?_
    refine WT_pass (dd := some 29) 6 rfl (by kernel_rfl) (by kernel_rfl) (by kernel_rfl) rfl rfl rfl hS ?_
    refine WT_pass (dd := some 30) 7 rfl (by kernel_rfl) (by kernel_rfl) (by kernel_rfl) rfl rfl rfl hS ?_
    refine WT_pass (dd := some 31) 8 rfl (by kernel_rfl) (by kernel_rfl) (by kernel_rfl) rfl rfl rfl hS ?_
    refine WT_pass (dd := some 32) 9 rfl (by kernel_rfl) (by kernel_rfl) (by kernel_rfl) rfl rfl rfl hS ?_
    refine WT_pass (dd := some 33) 10 rfl (by kernel_rfl) (by kernel_rfl) (by kernel_rfl) rfl rfl rfl hS ?_
    refine WT_take (dd := some 34) 11 rfl (by kernel_rfl) (by kernel_rfl) (by kernel_rfl) rfl rfl rfl (fun _wq _hq => r_pick_f rfl (v := .bool false) rfl) hS ?_
    refine WT_take (dd := some 35) 12 rfl (by kernel_rfl) (by kernel_rfl) (by kernel_rfl) rfl rfl rfl (fun _wq _hq => r_move (v := .bool false) rfl) hS ?_
    refine WT_take (dd := some 36) 13 rfl (by kernel_rfl) (by kernel_rfl) (by kernel_rfl) rfl rfl rfl (fun _wq _hq => r_move (v := .bool _) rfl) hS ?_
    refine WT_take (dd := some 37) 14 rfl (by kernel_rfl) (by kernel_rfl) (by kernel_rfl) rfl rfl rfl (fun _wq _hq => r_not rfl) hS ?_
    refine WT_split (dd := some 38) 15 rfl (by kernel_rfl) (by kernel_rfl) (by kernel_rfl) rfl rfl rfl (fun wq hq => r_move (v := .bool _) rfl) hS (fun hs9_15 => ?_) (fun hs9_15 => ?_)
    ·
     try with_reducible replace hs9_15 := of_decide_eq_true hs9_15
     refine WT_take (dd := some 39) 16 rfl (by kernel_rfl) (by kernel_rfl) (by kernel_rfl) rfl rfl rfl (fun _wq _hq => r_move (v := xG) rfl) hS ?_
     refine WT_take (dd := some 40) 17 rfl (by kernel_rfl) (by kernel_rfl) (by kernel_rfl) rfl rfl rfl (fun _wq _hq => r_move (v := .int .i64 _) rfl) hS ?_
     refine WT_take (dd := some 41) 18 rfl (by kernel_rfl) (by kernel_rfl) (by kernel_rfl) rfl rfl rfl (fun _wq hq => r_idxS (v := xG) rfl (hq.slT (Below.slT hB hG)) rfl tb_el22 (by omega) (by omega)) hS ?_
     refine WT_take (dd := some 42) 19 rfl (by kernel_rfl) (by kernel_rfl) (by kernel_rfl) rfl rfl rfl (fun _wq hq => r_load1 (v := .int .i64 _) rfl tb_sc3 (SlT.cell (hq.slT (Below.slT hB hG)) encI_len 0 (by omega) (by omega) 0 rfl)) hS ?_
     refine WT_take (dd := some 43) 20 rfl (by kernel_rfl) (by kernel_rfl) (by kernel_rfl) rfl rfl rfl (fun _wq _hq => r_move (v := xF) rfl) hS ?_
     refine WT_take (dd := some 44) 21 rfl (by kernel_rfl) (by kernel_rfl) (by kernel_rfl) rfl rfl rfl (fun _wq _hq => r_move (v := .int .i64 _) rfl) hS ?_
     refine WT_take (dd := some 45) 22 rfl (by kernel_rfl) (by kernel_rfl) (by kernel_rfl) rfl rfl rfl (fun _wq hq => r_idxS (v := xF) rfl (hq.slT (Below.slT hB hF)) rfl tb_el22 (by omega) (by omega)) hS ?_
     refine WT_take (dd := some 46) 23 rfl (by kernel_rfl) (by kernel_rfl) (by kernel_rfl) rfl rfl rfl (fun _wq hq => r_load1 (v := .int .i64 _) rfl tb_sc3 (SlT.cell (hq.slT (Below.slT hB hF)) encI_len 0 (by omega) (by omega) 0 rfl)) hS ?_
     refine WT_one (dd := some 47) 24 (by kernel_rfl) rfl rfl rfl rfl (Yd.call (r_call2 tb_c92 (v0 := .int .i64 _) rfl (v1 := .int .i64 _) rfl) (C_drawkniferef20_Holds (G.getD k 0) (F.getD i 0) _ hik.1 hik.2 hii.1 hii.2) (fun v9_24 W43 hE44 hP9_24 => ⟨.inl (hS.trans hE44), ?_⟩))
     have hsz45 := (Below.size hB)
     have sv46_hB := hB
     have sv46_ho := ho
     replace hB := below_ext hB hE44 (Nat.le_refl _)
     replace ho := hE44.ow ho
     replace hS := hS.trans hE44
     clear hE44
     clear hsz45
     obtain rfl := hP9_24
     refine WT_take (dd := some 48) 25 rfl (by kernel_rfl) (by kernel_rfl) (by kernel_rfl) rfl rfl rfl (fun _wq _hq => r_pick_t rfl (v := .bool _) rfl) hS ?_
     refine WT_take (dd := some 49) 26 rfl (by kernel_rfl) (by kernel_rfl) (by kernel_rfl) rfl rfl rfl (fun _wq _hq => r_pick_f rfl (v := .bool _) rfl) hS ?_
     refine WT_done (by kernel_rfl) ?_
     try clear sv46_hB sv46_ho
     refine hK36 _ _ ?_
     clear hK36 K35
     refine WC_cond (b := _) rfl (fun hc2 => ?_) (fun hc2 => ?_)
     ·
      try with_reducible replace hc2 := of_decide_eq_true hc2
      refine WC_region ?_
      refine WL_val (dd := some 9) rfl rfl rfl (r_assign (v := .bool true) rfl) ?_
      refine WL_nil ?_
      refine hK34 _ _ ?_
      clear hK34 K33
      refine WC_region ?_
      refine WL_val (dd := some 21) rfl rfl rfl (r_move (v := .int .i64 _) rfl) ?_
      refine WL_val (dd := some 22) rfl rfl rfl (r_addI rfl rfl (by omega) (by omega)) ?_
      refine WL_val (dd := some 10) rfl rfl rfl (r_assign (v := .int .i64 _) rfl) ?_
      refine WL_nil ?_
      refine hJ28 _ _ (k + 1) ?_ ?_ ?_ ?_
      · repeat (first | exact agree.mask _ _ _ | refine agree.updo ?_ rfl _ | refine agree.updL ?_ _ rfl | refine agree.maskS rfl ?_)
      · exact ⟨rfl, (by first | exact ab_t1 (by omega) hs9_1 hs9_12 | exact ab_f1 (by omega) hs9_1 hs9_12 | exact ab_t2 (by omega) hs9_1 hc2 | exact ab_f2 (by omega) hs9_1 hc2), trivial⟩
      · exact ⟨hB, ho, (by omega), trivial⟩
      · first | omega | (dsimp only; omega)
     ·
      try with_reducible replace hc2 := of_decide_eq_false hc2
      refine WC_skip ?_
      refine hK34 _ _ ?_
      clear hK34 K33
      refine WC_region ?_
      refine WL_val (dd := some 21) rfl rfl rfl (r_move (v := .int .i64 _) rfl) ?_
      refine WL_val (dd := some 22) rfl rfl rfl (r_addI rfl rfl (by omega) (by omega)) ?_
      refine WL_val (dd := some 10) rfl rfl rfl (r_assign (v := .int .i64 _) rfl) ?_
      refine WL_nil ?_
      refine hJ28 _ _ (k + 1) ?_ ?_ ?_ ?_
      · repeat (first | exact agree.mask _ _ _ | refine agree.updo ?_ rfl _ | refine agree.updL ?_ _ rfl | refine agree.maskS rfl ?_)
      · exact ⟨rfl, (by first | exact ab_t1 (by omega) hs9_1 hs9_12 | exact ab_f1 (by omega) hs9_1 hs9_12 | exact ab_t2 (by omega) hs9_1 hc2 | exact ab_f2 (by omega) hs9_1 hc2), trivial⟩
      · exact ⟨hB, ho, (by omega), trivial⟩
      · first | omega | (dsimp only; omega)
    ·
     try with_reducible replace hs9_15 := of_decide_eq_false hs9_15
     exact absurd (not_f' hs9_15) (by rw [hs9_1]; decide)
  ·
   try with_reducible replace hc1 := of_decide_eq_false hc1
   refine WC_exit ?_
   refine hK22 _ _ ?_
   clear hK30 K29
   clear hJ28 J27
   clear hK22 K21
   refine WC_seq (fun K47 hK48 => ?_)
   refine WC_region ?_
   refine WL_val (dd := some 50) rfl rfl rfl (r_move (v := .bool _) rfl) ?_
   refine WL_nil ?_
   refine hK48 _ _ ?_
   clear hK48 K47
   refine WC_cond (b := _) rfl (fun hc3 => ?_) (fun hc3 => ?_)
   ·
    try with_reducible replace hc3 := of_decide_eq_true hc3
    have hpl := aboveT_len (F := F) (G := G) (ab := ab) (i := i)
    refine WC_region ?_
    refine WL_val (dd := some 51) rfl rfl rfl (r_move (v := v0) rfl) ?_
    refine WL_val (dd := some 52) rfl rfl rfl (r_move (v := xF) rfl) ?_
    refine WL_val (dd := some 53) rfl rfl rfl (r_move (v := .int .i64 _) rfl) ?_
    refine WL_val (dd := some 54) rfl rfl rfl (r_idxS (v := xF) rfl (Below.slT hB hF) rfl tb_el22 (by omega) (by omega)) ?_
    refine WL_val (dd := some 55) rfl rfl rfl (r_load1 (v := .int .i64 _) rfl tb_sc3 (SlT.cell (Below.slT hB hF) encI_len 0 (by omega) (by omega) 0 rfl)) ?_
    refine WL_step (dd := some 56) rfl rfl rfl (Y_lit1 (u := .int .i64 _) rfl tb_el22 tb_zs3 rfl (by decide) (by decide) (fun b12_5 W49 hb50 hE51 hm12_5 => ?_))
    have lo_b12_5 : w.heap.size ≤ b12_5 := hb50 ▸ (Below.size hB)
    have no_v0_b12_5 := OwT.neB (b := b12_5) ho (Nat.le_of_eq hb50.symm)
    clear hb50
    replace hB := below_ext hB hE51 (Nat.le_refl _)
    replace ho := hE51.ow ho
    clear hE51
    refine WL_step (dd := some 57) rfl rfl rfl (Y_append (v := v0) (v2 := .slice (some ⟨b12_5, 0, none⟩) 1 1) rfl rfl tb_el22 tb_zs3 (by decide) ho (sl_lit1 hm12_5 rfl) rfl (by have := Below.size hB; omega) (by first | omega | (simp; omega)) (by first | omega | (simp; omega)) (fun v12_6 W52 hG53 ho12_6 => ?_))
    replace ho12_6 := OwT.snoc (enc := encI) (x := (F.getD i 0)) rfl rfl rfl rfl ho12_6
    clear hm12_5
    replace hB := below_grown hB hG53 (Nat.le_refl _) (fun j hj => (OwT.lt ho j hj))
    clear hG53
    clear ho
    refine WL_val (dd := some 7) rfl rfl rfl (r_assign (v := v12_6) rfl) ?_
    refine WL_nil ?_
    refine hK18 _ _ ?_
    clear hK18 K17
    refine WC_region ?_
    refine WL_val (dd := some 15) rfl rfl rfl (r_move (v := .int .i64 _) rfl) ?_
    refine WL_val (dd := some 16) rfl rfl rfl (r_addI rfl rfl (by omega) (by omega)) ?_
    refine WL_val (dd := some 8) rfl rfl rfl (r_assign (v := .int .i64 _) rfl) ?_
    refine WL_nil ?_
    refine hJ12 _ _ ((i + 1, v12_6)) ?_ ?_ ?_ ?_
    · repeat (first | exact agree.mask _ _ _ | refine agree.updo ?_ rfl _ | refine agree.updL ?_ _ rfl | refine agree.maskS rfl ?_)
    · exact ⟨rfl, rfl, trivial⟩
    · exact ⟨hB, (by first | (rw [← above_t (by omega) (show k = G.length by omega) hc3]; exact ho12_6) | (rw [← above_f (by omega) (show k = G.length by omega) hc3]; exact ho12_6)), (by omega), trivial⟩
    · show F.length - (i + 1) < F.length - i; omega
   ·
    try with_reducible replace hc3 := of_decide_eq_false hc3
    refine WC_skip ?_
    refine hK18 _ _ ?_
    clear hK18 K17
    refine WC_region ?_
    refine WL_val (dd := some 15) rfl rfl rfl (r_move (v := .int .i64 _) rfl) ?_
    refine WL_val (dd := some 16) rfl rfl rfl (r_addI rfl rfl (by omega) (by omega)) ?_
    refine WL_val (dd := some 8) rfl rfl rfl (r_assign (v := .int .i64 _) rfl) ?_
    refine WL_nil ?_
    refine hJ12 _ _ ((i + 1, v0)) ?_ ?_ ?_ ?_
    · repeat (first | exact agree.mask _ _ _ | refine agree.updo ?_ rfl _ | refine agree.updL ?_ _ rfl | refine agree.maskS rfl ?_)
    · exact ⟨rfl, rfl, trivial⟩
    · exact ⟨hB, (by first | (rw [← above_t (by omega) (show k = G.length by omega) hc3]; exact ho) | (rw [← above_f (by omega) (show k = G.length by omega) hc3]; exact ho)), (by omega), trivial⟩
    · show F.length - (i + 1) < F.length - i; omega
 ·
  try with_reducible replace hc0 := of_decide_eq_false hc0
  refine WC_exit ?_
  refine hK6 _ _ ?_
  clear hK14 K13
  clear hJ12 J11
  clear hK6 K5
  refine WC_seq (fun K55 hK56 => ?_)
  refine WC_region ?_
  refine WL_val (dd := some 58) rfl rfl rfl (r_move (v := v0) rfl) ?_
  refine WL_val (dd := some 6) rfl rfl rfl (r_assign (v := v0) rfl) ?_
  refine WL_nil ?_
  refine hK56 _ _ ?_
  clear hK56 K55
  refine WC_ret ?_
  repeat (first | refine thenQ_ret ?_ | refine blockQ_ret ?_)
  refine ret_t (v := v0) rfl ?_
  refine ⟨hB, ?_⟩
  obtain rfl : i = F.length := by omega
  rw [← above_e]
  exact ho

theorem C_drawkniferef20_Most (xF : Value) (F : List Int) (w : World) (hF : SlT encI 1 w xF F) (hFl : F.length ≤ 1000000) (hiF : ∀ m, m ∈ F → 0 ≤ m ∧ m < 16777216) :
    Fn Try.prog 59 #[xF] w fun v w' => OwT encI 1 3 w' w.heap.size v (mostTo F F.length) := by
 refine Fn_intro (n := 42) Try.func59 rfl rfl (Nat.le_of_ble_eq_true rfl) ?_
 have hB : Below w.heap.size w w := Below.refl _ _
 refine WC_seq (fun K1 hK2 => ?_)
 refine WC_region ?_
 refine WL_val (dd := some 2) rfl rfl rfl (r_assign (v := .slice none 0 0) rfl) ?_
 refine WL_nil ?_
 refine hK2 _ _ ?_
 clear hK2 K1
 refine WC_seq (fun K3 hK4 => ?_)
 refine WC_region ?_
 refine WL_val (dd := some 3) rfl rfl rfl (r_assign (v := .slice none 0 0) rfl) ?_
 refine WL_nil ?_
 refine hK4 _ _ ?_
 clear hK4 K3
 refine WC_seq (fun K5 hK6 => ?_)
 refine WC_seq (fun K7 hK8 => ?_)
 refine WC_region ?_
 refine WL_val (dd := some 4) rfl rfl rfl (r_assign (v := .int .i64 0) rfl) ?_
 refine WL_nil ?_
 refine hK8 _ _ ?_
 clear hK8 K7
 refine WC_block ?_
 refine WC_loop (σ := (Nat) × (Value)) [3, 4, 5, 6, 7, 8, 9, 10, 11, 12, 13, 14, 15, 16, 17, 18, 19, 20, 21, 22, 23, 24, 25, 26, 27, 28, 29, 30, 31, 32, 33, 34, 35, 36, 37, 38, 39, 40] (fun (i, v0) => [(4, .int .i64 (i : Int)), (3, v0)]) (fun sg W => match sg with | (i, v0) => (Below w.heap.size w W) ∧ (OwT encI 1 3 W w.heap.size v0 (mostTo F i)) ∧ (i ≤ F.length) ∧ (True)) (fun (i, v0) => F.length - i) ((0, .slice none 0 0)) ⟨rfl, rfl, trivial⟩ ⟨hB, OwT.nil, (Nat.zero_le _), trivial⟩ ?_
 clear hB
 rintro ⟨i, v0⟩ g10 W9 ⟨hB, ho, hi, _⟩ J11 hJ12
 refine WC_seq (fun K13 hK14 => ?_)
 refine WC_seq (fun K15 hK16 => ?_)
 refine WC_region ?_
 refine WL_val (dd := some 7) rfl rfl rfl (r_move (v := .int .i64 _) rfl) ?_
 refine WL_val (dd := some 8) rfl rfl rfl (r_move (v := xF) rfl) ?_
 refine WL_val (dd := some 9) rfl rfl rfl (r_lenS (v := xF) rfl (Below.slT hB hF) tb_el22) ?_
 refine WL_val (dd := some 10) rfl rfl rfl (r_lss rfl rfl) ?_
 refine WL_nil ?_
 refine hK16 _ _ ?_
 clear hK16 K15
 refine WC_cond (b := _) rfl (fun hc0 => ?_) (fun hc0 => ?_)
 ·
  try with_reducible replace hc0 := of_decide_eq_true hc0
  refine WC_skip ?_
  refine hK14 _ _ ?_
  clear hK14 K13
  refine WC_seq (fun K17 hK18 => ?_)
  refine WC_block ?_
  refine WC_seq (fun K19 hK20 => ?_)
  refine WC_region ?_
  refine WL_val (dd := some 5) rfl rfl rfl (r_assign (v := .bool true) rfl) ?_
  refine WL_nil ?_
  refine hK20 _ _ ?_
  clear hK20 K19
  refine WC_seq (fun K21 hK22 => ?_)
  refine WC_seq (fun K23 hK24 => ?_)
  refine WC_region ?_
  refine WL_val (dd := some 6) rfl rfl rfl (r_assign (v := .int .i64 0) rfl) ?_
  refine WL_nil ?_
  refine hK24 _ _ ?_
  clear hK24 K23
  refine WC_block ?_
  refine WC_loop (σ := (Nat)) [5, 6, 13, 14, 15, 16, 17, 18, 19, 20, 21, 22, 23, 24, 25, 26, 27, 28, 29, 30, 31, 32] (fun k => [(6, .int .i64 (k : Int)), (5, .bool (moB F i k))]) (fun k W => (Below w.heap.size w W) ∧ (OwT encI 1 3 W w.heap.size v0 _) ∧ (k ≤ F.length) ∧ (True)) (fun k => F.length - k) (0) ⟨rfl, rfl, trivial⟩ ⟨hB, ho, (Nat.zero_le _), trivial⟩ ?_
  clear hB ho
  rintro k g26 W25 ⟨hB, ho, hk, _⟩ J27 hJ28
  refine WC_seq (fun K29 hK30 => ?_)
  refine WC_seq (fun K31 hK32 => ?_)
  refine WC_region ?_
  refine WL_val (dd := some 13) rfl rfl rfl (r_move (v := .int .i64 _) rfl) ?_
  refine WL_val (dd := some 14) rfl rfl rfl (r_move (v := xF) rfl) ?_
  refine WL_val (dd := some 15) rfl rfl rfl (r_lenS (v := xF) rfl (Below.slT hB hF) tb_el22) ?_
  refine WL_val (dd := some 16) rfl rfl rfl (r_lss rfl rfl) ?_
  refine WL_nil ?_
  refine hK32 _ _ ?_
  clear hK32 K31
  refine WC_cond (b := _) rfl (fun hc1 => ?_) (fun hc1 => ?_)
  ·
   try with_reducible replace hc1 := of_decide_eq_true hc1
   refine WC_skip ?_
   refine hK30 _ _ ?_
   clear hK30 K29
   refine WC_seq (fun K33 hK34 => ?_)
   refine WC_block ?_
   refine WC_seq (fun K35 hK36 => ?_)
   have hii := hiF _ (getD_mem (l := F) (i := i) (d := 0) (by omega))
   have hik := hiF _ (getD_mem (l := F) (i := k) (d := 0) (by omega))
   refine WC_draw Ext tb_mix (fun W37 hE38 => ?_)
   replace hB := below_ext hB hE38 (Nat.le_refl _)
   replace ho := hE38.ow ho
   have hS := Ext.refl W37
   refine WT_take (dd := some 19) 0 rfl (by kernel_rfl) (by kernel_rfl) (by kernel_rfl) rfl rfl rfl (fun _wq _hq => r_move (v := .int .i64 _) rfl) hS ?_
   refine WT_take (dd := some 20) 1 rfl (by kernel_rfl) (by kernel_rfl) (by kernel_rfl) rfl rfl rfl (fun _wq _hq => r_move (v := .int .i64 _) rfl) hS ?_
   refine WT_take (dd := some 21) 2 rfl (by kernel_rfl) (by kernel_rfl) (by kernel_rfl) rfl rfl rfl (fun _wq _hq => r_neq rfl rfl) hS ?_
   refine WT_split (dd := some 22) 3 rfl (by kernel_rfl) (by kernel_rfl) (by kernel_rfl) rfl rfl rfl (fun wq hq => r_move (v := .bool _) rfl) hS (fun hs9_3 => ?_) (fun hs9_3 => ?_)
   ·
    try with_reducible replace hs9_3 := of_decide_eq_true hs9_3
    refine WT_take (dd := some 23) 4 rfl (by kernel_rfl) (by kernel_rfl) (by kernel_rfl) rfl rfl rfl (fun _wq _hq => r_move (v := xF) rfl) hS ?_
    refine WT_take (dd := some 24) 5 rfl (by kernel_rfl) (by kernel_rfl) (by kernel_rfl) rfl rfl rfl (fun _wq _hq => r_move (v := .int .i64 _) rfl) hS ?_
    refine WT_take (dd := some 25) 6 rfl (by kernel_rfl) (by kernel_rfl) (by kernel_rfl) rfl rfl rfl (fun _wq hq => r_idxS (v := xF) rfl (hq.slT (Below.slT hB hF)) rfl tb_el22 (by omega) (by omega)) hS ?_
    refine WT_take (dd := some 26) 7 rfl (by kernel_rfl) (by kernel_rfl) (by kernel_rfl) rfl rfl rfl (fun _wq hq => r_load1 (v := .int .i64 _) rfl tb_sc3 (SlT.cell (hq.slT (Below.slT hB hF)) encI_len 0 (by omega) (by omega) 0 rfl)) hS ?_
    refine WT_take (dd := some 27) 8 rfl (by kernel_rfl) (by kernel_rfl) (by kernel_rfl) rfl rfl rfl (fun _wq _hq => r_move (v := xF) rfl) hS ?_
    refine WT_take (dd := some 28) 9 rfl (by kernel_rfl) (by kernel_rfl) (by kernel_rfl) rfl rfl rfl (fun _wq _hq => r_move (v := .int .i64 _) rfl) hS ?_
    refine WT_take (dd := some 29) 10 rfl (by kernel_rfl) (by kernel_rfl) (by kernel_rfl) rfl rfl rfl (fun _wq hq => r_idxS (v := xF) rfl (hq.slT (Below.slT hB hF)) rfl tb_el22 (by omega) (by omega)) hS ?_
    refine WT_take (dd := some 30) 11 rfl (by kernel_rfl) (by kernel_rfl) (by kernel_rfl) rfl rfl rfl (fun _wq hq => r_load1 (v := .int .i64 _) rfl tb_sc3 (SlT.cell (hq.slT (Below.slT hB hF)) encI_len 0 (by omega) (by omega) 0 rfl)) hS ?_
    refine WT_one (dd := some 31) 12 (by kernel_rfl) rfl rfl rfl rfl (Yd.call (r_call2 tb_c92 (v0 := .int .i64 _) rfl (v1 := .int .i64 _) rfl) (C_drawkniferef20_Holds (F.getD k 0) (F.getD i 0) _ hik.1 hik.2 hii.1 hii.2) (fun v9_12 W39 hE40 hP9_12 => ⟨.inl (hS.trans hE40), ?_⟩))
    have hsz41 := (Below.size hB)
    have sv42_hB := hB
    have sv42_ho := ho
    replace hB := below_ext hB hE40 (Nat.le_refl _)
    replace ho := hE40.ow ho
    replace hS := hS.trans hE40
    clear hE40
    clear hsz41
    obtain rfl := hP9_12
    refine WT_take (dd := some 32) 13 rfl (by kernel_rfl) (by kernel_rfl) (by kernel_rfl) rfl rfl rfl (fun _wq _hq => r_pick_t rfl (v := .bool _) rfl) hS ?_
    refine WT_done (by kernel_rfl) ?_
    try clear sv42_hB sv42_ho
    refine hK36 _ _ ?_
    clear hK36 K35
    refine WC_cond (b := _) rfl (fun hc2 => ?_) (fun hc2 => ?_)
    ·
     try with_reducible replace hc2 := of_decide_eq_true hc2
     refine WC_region ?_
     refine WL_val (dd := some 5) rfl rfl rfl (r_assign (v := .bool false) rfl) ?_
     refine WL_nil ?_
     refine hK34 _ _ ?_
     clear hK34 K33
     refine WC_region ?_
     refine WL_val (dd := some 17) rfl rfl rfl (r_move (v := .int .i64 _) rfl) ?_
     refine WL_val (dd := some 18) rfl rfl rfl (r_addI rfl rfl (by omega) (by omega)) ?_
     refine WL_val (dd := some 6) rfl rfl rfl (r_assign (v := .int .i64 _) rfl) ?_
     refine WL_nil ?_
     refine hJ28 _ _ (k + 1) ?_ ?_ ?_ ?_
     · repeat (first | exact agree.mask _ _ _ | refine agree.updo ?_ rfl _ | refine agree.updL ?_ _ rfl | refine agree.maskS rfl ?_)
     · exact ⟨rfl, (by first | exact mo_t hs9_3 hc2 | exact mo_f hs9_3 hc2 | exact mo_e hs9_3), trivial⟩
     · exact ⟨hB, ho, (by omega), trivial⟩
     · first | omega | (dsimp only; omega)
    ·
     try with_reducible replace hc2 := of_decide_eq_false hc2
     refine WC_skip ?_
     refine hK34 _ _ ?_
     clear hK34 K33
     refine WC_region ?_
     refine WL_val (dd := some 17) rfl rfl rfl (r_move (v := .int .i64 _) rfl) ?_
     refine WL_val (dd := some 18) rfl rfl rfl (r_addI rfl rfl (by omega) (by omega)) ?_
     refine WL_val (dd := some 6) rfl rfl rfl (r_assign (v := .int .i64 _) rfl) ?_
     refine WL_nil ?_
     refine hJ28 _ _ (k + 1) ?_ ?_ ?_ ?_
     · repeat (first | exact agree.mask _ _ _ | refine agree.updo ?_ rfl _ | refine agree.updL ?_ _ rfl | refine agree.maskS rfl ?_)
     · exact ⟨rfl, (by first | exact mo_t hs9_3 hc2 | exact mo_f hs9_3 hc2 | exact mo_e hs9_3), trivial⟩
     · exact ⟨hB, ho, (by omega), trivial⟩
     · first | omega | (dsimp only; omega)
   ·
    try with_reducible replace hs9_3 := of_decide_eq_false hs9_3
    refine WT_pass (dd := some 23) 4 rfl (by kernel_rfl) (by kernel_rfl) (by kernel_rfl) rfl rfl rfl hS ?_
    refine WT_pass (dd := some 24) 5 rfl (by kernel_rfl) (by kernel_rfl) (by kernel_rfl) rfl rfl rfl hS ?_
    refine WT_pass (dd := some 25) 6 rfl (by kernel_rfl) (by kernel_rfl) (by kernel_rfl) rfl rfl rfl hS ?_
    refine WT_pass (dd := some 26) 7 rfl (by kernel_rfl) (by kernel_rfl) (by kernel_rfl) rfl rfl rfl hS ?_
    refine WT_pass (dd := some 27) 8 rfl (by kernel_rfl) (by kernel_rfl) (by kernel_rfl) rfl rfl rfl hS ?_
    refine WT_pass (dd := some 28) 9 rfl (by kernel_rfl) (by kernel_rfl) (by kernel_rfl) rfl rfl rfl hS ?_
    refine WT_pass (dd := some 29) 10 rfl (by kernel_rfl) (by kernel_rfl) (by kernel_rfl) rfl rfl rfl hS ?_
    refine WT_pass (dd := some 30) 11 rfl (by kernel_rfl) (by kernel_rfl) (by kernel_rfl) rfl rfl rfl hS ?_
    refine WT_pass (dd := some 31) 12 rfl (by kernel_rfl) (by kernel_rfl) (by kernel_rfl) rfl rfl rfl hS ?_
    refine WT_take (dd := some 32) 13 rfl (by kernel_rfl) (by kernel_rfl) (by kernel_rfl) rfl rfl rfl (fun _wq _hq => r_pick_f rfl (v := .bool false) rfl) hS ?_
    refine WT_done (by kernel_rfl) ?_
    refine hK36 _ _ ?_
    clear hK36 K35
    refine WC_cond_false rfl ?_
    refine WC_skip ?_
    refine hK34 _ _ ?_
    clear hK34 K33
    refine WC_region ?_
    refine WL_val (dd := some 17) rfl rfl rfl (r_move (v := .int .i64 _) rfl) ?_
    refine WL_val (dd := some 18) rfl rfl rfl (r_addI rfl rfl (by omega) (by omega)) ?_
    refine WL_val (dd := some 6) rfl rfl rfl (r_assign (v := .int .i64 _) rfl) ?_
    refine WL_nil ?_
    refine hJ28 _ _ (k + 1) ?_ ?_ ?_ ?_
    · repeat (first | exact agree.mask _ _ _ | refine agree.updo ?_ rfl _ | refine agree.updL ?_ _ rfl | refine agree.maskS rfl ?_)
    · exact ⟨rfl, (by first | exact mo_t hs9_3 hc2 | exact mo_f hs9_3 hc2 | exact mo_e hs9_3), trivial⟩
    · exact ⟨hB, ho, (by omega), trivial⟩
    · first | omega | (dsimp only; omega)
  ·
   try with_reducible replace hc1 := of_decide_eq_false hc1
   refine WC_exit ?_
   refine hK22 _ _ ?_
   clear hK30 K29
   clear hJ28 J27
   clear hK22 K21
   refine WC_seq (fun K43 hK44 => ?_)
   obtain rfl : k = F.length := by omega
   have hpl := mostTo_len F i
   refine WC_region ?_
   refine WL_val (dd := some 33) rfl rfl rfl (r_move (v := .bool _) rfl) ?_
   refine WL_nil ?_
   refine hK44 _ _ ?_
   clear hK44 K43
   refine WC_cond (b := _) rfl (fun hc3 => ?_) (fun hc3 => ?_)
   ·
    try with_reducible replace hc3 := of_decide_eq_true hc3
    refine WC_region ?_
    refine WL_val (dd := some 34) rfl rfl rfl (r_move (v := v0) rfl) ?_
    refine WL_val (dd := some 35) rfl rfl rfl (r_move (v := xF) rfl) ?_
    refine WL_val (dd := some 36) rfl rfl rfl (r_move (v := .int .i64 _) rfl) ?_
    refine WL_val (dd := some 37) rfl rfl rfl (r_idxS (v := xF) rfl (Below.slT hB hF) rfl tb_el22 (by omega) (by omega)) ?_
    refine WL_val (dd := some 38) rfl rfl rfl (r_load1 (v := .int .i64 _) rfl tb_sc3 (SlT.cell (Below.slT hB hF) encI_len 0 (by omega) (by omega) 0 rfl)) ?_
    refine WL_step (dd := some 39) rfl rfl rfl (Y_lit1 (u := .int .i64 _) rfl tb_el22 tb_zs3 rfl (by decide) (by decide) (fun b12_5 W45 hb46 hE47 hm12_5 => ?_))
    have lo_b12_5 : w.heap.size ≤ b12_5 := hb46 ▸ (Below.size hB)
    have no_v0_b12_5 := OwT.neB (b := b12_5) ho (Nat.le_of_eq hb46.symm)
    clear hb46
    replace hB := below_ext hB hE47 (Nat.le_refl _)
    replace ho := hE47.ow ho
    clear hE47
    refine WL_step (dd := some 40) rfl rfl rfl (Y_append (v := v0) (v2 := .slice (some ⟨b12_5, 0, none⟩) 1 1) rfl rfl tb_el22 tb_zs3 (by decide) ho (sl_lit1 hm12_5 rfl) rfl (by have := Below.size hB; omega) (by first | omega | (simp; omega)) (by first | omega | (simp; omega)) (fun v12_6 W48 hG49 ho12_6 => ?_))
    replace ho12_6 := OwT.snoc (enc := encI) (x := (F.getD i 0)) rfl rfl rfl rfl ho12_6
    clear hm12_5
    replace hB := below_grown hB hG49 (Nat.le_refl _) (fun j hj => (OwT.lt ho j hj))
    clear hG49
    clear ho
    refine WL_val (dd := some 3) rfl rfl rfl (r_assign (v := v12_6) rfl) ?_
    refine WL_nil ?_
    refine hK18 _ _ ?_
    clear hK18 K17
    refine WC_region ?_
    refine WL_val (dd := some 11) rfl rfl rfl (r_move (v := .int .i64 _) rfl) ?_
    refine WL_val (dd := some 12) rfl rfl rfl (r_addI rfl rfl (by omega) (by omega)) ?_
    refine WL_val (dd := some 4) rfl rfl rfl (r_assign (v := .int .i64 _) rfl) ?_
    refine WL_nil ?_
    refine hJ12 _ _ ((i + 1, v12_6)) ?_ ?_ ?_ ?_
    · repeat (first | exact agree.mask _ _ _ | refine agree.updo ?_ rfl _ | refine agree.updL ?_ _ rfl | refine agree.maskS rfl ?_)
    · exact ⟨rfl, rfl, trivial⟩
    · exact ⟨hB, (by first | (rw [← most_t hc3]; exact ho12_6) | (rw [← most_f hc3]; exact ho12_6)), (by omega), trivial⟩
    · show F.length - (i + 1) < F.length - i; omega
   ·
    try with_reducible replace hc3 := of_decide_eq_false hc3
    refine WC_skip ?_
    refine hK18 _ _ ?_
    clear hK18 K17
    refine WC_region ?_
    refine WL_val (dd := some 11) rfl rfl rfl (r_move (v := .int .i64 _) rfl) ?_
    refine WL_val (dd := some 12) rfl rfl rfl (r_addI rfl rfl (by omega) (by omega)) ?_
    refine WL_val (dd := some 4) rfl rfl rfl (r_assign (v := .int .i64 _) rfl) ?_
    refine WL_nil ?_
    refine hJ12 _ _ ((i + 1, v0)) ?_ ?_ ?_ ?_
    · repeat (first | exact agree.mask _ _ _ | refine agree.updo ?_ rfl _ | refine agree.updL ?_ _ rfl | refine agree.maskS rfl ?_)
    · exact ⟨rfl, rfl, trivial⟩
    · exact ⟨hB, (by first | (rw [← most_t hc3]; exact ho) | (rw [← most_f hc3]; exact ho)), (by omega), trivial⟩
    · show F.length - (i + 1) < F.length - i; omega
 ·
  try with_reducible replace hc0 := of_decide_eq_false hc0
  refine WC_exit ?_
  refine hK6 _ _ ?_
  clear hK14 K13
  clear hJ12 J11
  clear hK6 K5
  refine WC_seq (fun K51 hK52 => ?_)
  refine WC_region ?_
  refine WL_val (dd := some 41) rfl rfl rfl (r_move (v := v0) rfl) ?_
  refine WL_val (dd := some 2) rfl rfl rfl (r_assign (v := v0) rfl) ?_
  refine WL_nil ?_
  refine hK52 _ _ ?_
  clear hK52 K51
  refine WC_ret ?_
  repeat (first | refine thenQ_ret ?_ | refine blockQ_ret ?_)
  refine ret_t (v := v0) rfl ?_
  refine ⟨hB, ?_⟩
  obtain rfl : i = F.length := by omega
  exact ho

theorem C_drawkniferef20_Quotient (xF xG : Value) (F G : List Int) (w : World) (hF : SlT encI 1 w xF F) (hG : SlT encI 1 w xG G) (hFl : F.length ≤ 1000000) (hGl : G.length ≤ 1000000) (hiF : ∀ m, m ∈ F → 0 ≤ m ∧ m < 16777216) (hiG : ∀ m, m ∈ G → 0 ≤ m ∧ m < 16777216) (hG0 : 0 < G.length) :
    Fn Try.prog 46 #[xF, xG] w fun v w' => OwT encI 1 3 w' w.heap.size v (ofI (quoL F G F.length)) := by
 refine Fn_intro (n := 62) Try.func46 rfl rfl (Nat.le_of_ble_eq_true rfl) ?_
 have hB : Below w.heap.size w w := Below.refl _ _
 refine WC_seq (fun K1 hK2 => ?_)
 refine WC_region ?_
 refine WL_val (dd := some 4) rfl rfl rfl (r_assign (v := .slice none 0 0) rfl) ?_
 refine WL_nil ?_
 refine hK2 _ _ ?_
 clear hK2 K1
 refine WC_seq (fun K3 hK4 => ?_)
 refine WC_region ?_
 refine WL_val (dd := some 5) rfl rfl rfl (r_assign (v := .slice none 0 0) rfl) ?_
 refine WL_nil ?_
 refine hK4 _ _ ?_
 clear hK4 K3
 refine WC_seq (fun K5 hK6 => ?_)
 refine WC_seq (fun K7 hK8 => ?_)
 refine WC_region ?_
 refine WL_val (dd := some 6) rfl rfl rfl (r_assign (v := .int .i64 0) rfl) ?_
 refine WL_nil ?_
 refine hK8 _ _ ?_
 clear hK8 K7
 refine WC_block ?_
 refine WC_loop (σ := (Nat) × (Value)) [5, 6, 7, 8, 9, 10, 11, 12, 13, 14, 15, 16, 17, 18, 19, 20, 21, 22, 23, 24, 25, 26, 27, 28, 29, 30, 31, 32, 33, 34, 35, 36, 37, 38, 39, 40, 41, 42, 43, 44, 45, 46, 47, 48, 49, 50, 51, 52, 53, 54, 55, 56, 57, 58, 59, 60] (fun (i, v0) => [(6, .int .i64 (i : Int)), (5, v0)]) (fun sg W => match sg with | (i, v0) => (Below w.heap.size w W) ∧ (OwT encI 1 3 W w.heap.size v0 (ofI (quoL F G i))) ∧ (i ≤ F.length) ∧ (True)) (fun (i, v0) => F.length - i) ((0, .slice none 0 0)) ⟨rfl, rfl, trivial⟩ ⟨hB, OwT.nil, (Nat.zero_le _), trivial⟩ ?_
 clear hB
 rintro ⟨i, v0⟩ g10 W9 ⟨hB, ho, hi, _⟩ J11 hJ12
 refine WC_seq (fun K13 hK14 => ?_)
 refine WC_seq (fun K15 hK16 => ?_)
 refine WC_region ?_
 refine WL_val (dd := some 10) rfl rfl rfl (r_move (v := .int .i64 _) rfl) ?_
 refine WL_val (dd := some 11) rfl rfl rfl (r_move (v := xF) rfl) ?_
 refine WL_val (dd := some 12) rfl rfl rfl (r_lenS (v := xF) rfl (Below.slT hB hF) tb_el22) ?_
 refine WL_val (dd := some 13) rfl rfl rfl (r_lss rfl rfl) ?_
 refine WL_nil ?_
 refine hK16 _ _ ?_
 clear hK16 K15
 refine WC_cond (b := _) rfl (fun hc0 => ?_) (fun hc0 => ?_)
 ·
  try with_reducible replace hc0 := of_decide_eq_true hc0
  refine WC_skip ?_
  refine hK14 _ _ ?_
  clear hK14 K13
  refine WC_seq (fun K17 hK18 => ?_)
  refine WC_block ?_
  refine WC_seq (fun K19 hK20 => ?_)
  refine WC_seq (fun K21 hK22 => ?_)
  have hii := hiF _ (getD_mem (l := F) (i := i) (d := 0) (by omega))
  have hi0 := hiG _ (getD_mem (l := G) (i := 0) (d := 0) hG0)
  refine WC_draw Ext tb_mix (fun W23 hE24 => ?_)
  replace hB := below_ext hB hE24 (Nat.le_refl _)
  replace ho := hE24.ow ho
  have hS := Ext.refl W23
  refine WT_take (dd := some 16) 0 rfl (by kernel_rfl) (by kernel_rfl) (by kernel_rfl) rfl rfl rfl (fun _wq _hq => r_move (v := xF) rfl) hS ?_
  refine WT_take (dd := some 17) 1 rfl (by kernel_rfl) (by kernel_rfl) (by kernel_rfl) rfl rfl rfl (fun _wq _hq => r_move (v := .int .i64 _) rfl) hS ?_
  refine WT_take (dd := some 18) 2 rfl (by kernel_rfl) (by kernel_rfl) (by kernel_rfl) rfl rfl rfl (fun _wq hq => r_idxS (v := xF) rfl (hq.slT (Below.slT hB hF)) rfl tb_el22 (by omega) (by omega)) hS ?_
  refine WT_take (dd := some 19) 3 rfl (by kernel_rfl) (by kernel_rfl) (by kernel_rfl) rfl rfl rfl (fun _wq hq => r_load1 (v := .int .i64 _) rfl tb_sc3 (SlT.cell (hq.slT (Below.slT hB hF)) encI_len 0 (by omega) (by omega) 0 rfl)) hS ?_
  refine WT_take (dd := some 20) 4 rfl (by kernel_rfl) (by kernel_rfl) (by kernel_rfl) rfl rfl rfl (fun _wq _hq => r_move (v := xG) rfl) hS ?_
  refine WT_take (dd := some 21) 5 rfl (by kernel_rfl) (by kernel_rfl) (by kernel_rfl) rfl rfl rfl (fun _wq hq => r_idxS (j := 0) (v := xG) rfl (hq.slT (Below.slT hB hG)) rfl tb_el22 (by omega) (by omega)) hS ?_
  refine WT_take (dd := some 22) 6 rfl (by kernel_rfl) (by kernel_rfl) (by kernel_rfl) rfl rfl rfl (fun _wq hq => r_load1 (v := .int .i64 _) rfl tb_sc3 (SlT.cell (j := 0) (hq.slT (Below.slT hB hG)) encI_len 0 (by omega) (by omega) 0 rfl)) hS ?_
  refine WT_one (dd := some 23) 7 (by kernel_rfl) rfl rfl rfl rfl (Yd.call (r_call2 tb_c92 (v0 := .int .i64 _) rfl (v1 := .int .i64 _) rfl) (C_drawkniferef20_Holds (F.getD i 0) (G.getD 0 0) _ hii.1 hii.2 hi0.1 hi0.2) (fun v5_7 W25 hE26 hP5_7 => ⟨.inl (hS.trans hE26), ?_⟩))
  have hsz27 := (Below.size hB)
  have sv28_hB := hB
  have sv28_ho := ho
  replace hB := below_ext hB hE26 (Nat.le_refl _)
  replace ho := hE26.ow ho
  replace hS := hS.trans hE26
  clear hE26
  clear hsz27
  obtain rfl := hP5_7
  refine WT_take (dd := some 24) 8 rfl (by kernel_rfl) (by kernel_rfl) (by kernel_rfl) rfl rfl rfl (fun _wq _hq => r_not rfl) hS ?_
  refine WT_done (by kernel_rfl) ?_
  try clear sv28_hB sv28_ho
  refine hK22 _ _ ?_
  clear hK22 K21
  refine WC_cond (b := _) rfl (fun hc1 => ?_) (fun hc1 => ?_)
  ·
   try with_reducible replace hc1 := of_decide_eq_true hc1
   refine WC_exit ?_
   refine hK18 _ _ ?_
   clear hK20 K19
   clear hK18 K17
   refine WC_region ?_
   refine WL_val (dd := some 14) rfl rfl rfl (r_move (v := .int .i64 _) rfl) ?_
   refine WL_val (dd := some 15) rfl rfl rfl (r_addI rfl rfl (by omega) (by omega)) ?_
   refine WL_val (dd := some 6) rfl rfl rfl (r_assign (v := .int .i64 _) rfl) ?_
   refine WL_nil ?_
   refine hJ12 _ _ ((i + 1, v0)) ?_ ?_ ?_ ?_
   · repeat (first | exact agree.mask _ _ _ | refine agree.updo ?_ rfl _ | refine agree.updL ?_ _ rfl | refine agree.maskS rfl ?_)
   · exact ⟨rfl, rfl, trivial⟩
   · exact ⟨hB, (by first | (rw [← quo_no (by omega) (of_decide_eq_false (not_t' hc1))]; exact ho) | (rw [← quo_t (by omega) hj0 rfl hc4]; exact ho) | (rw [← quo_f (by omega) rfl hc4]; exact ho)), (by omega), trivial⟩
   · show F.length - (i + 1) < F.length - i; omega
  ·
   try with_reducible replace hc1 := of_decide_eq_false hc1
   refine WC_skip ?_
   refine hK20 _ _ ?_
   clear hK20 K19
   refine WC_seq (fun K29 hK30 => ?_)
   have hii2 : 0 ≤ F.getD ((i : Nat) : Int).toNat 0 ∧ F.getD ((i : Nat) : Int).toNat 0 < 16777216 := hii
   have hi02 : 0 ≤ G.getD (Int.toNat 0) 0 ∧ G.getD (Int.toNat 0) 0 < 16777216 := hi0
   refine WC_draw Ext tb_mix (fun W31 hE32 => ?_)
   replace hB := below_ext hB hE32 (Nat.le_refl _)
   replace ho := hE32.ow ho
   have hS := Ext.refl W31
   refine WT_take (dd := some 25) 0 rfl (by kernel_rfl) (by kernel_rfl) (by kernel_rfl) rfl rfl rfl (fun _wq _hq => r_move (v := xF) rfl) hS ?_
   refine WT_take (dd := some 26) 1 rfl (by kernel_rfl) (by kernel_rfl) (by kernel_rfl) rfl rfl rfl (fun _wq _hq => r_move (v := .int .i64 _) rfl) hS ?_
   refine WT_take (dd := some 27) 2 rfl (by kernel_rfl) (by kernel_rfl) (by kernel_rfl) rfl rfl rfl (fun _wq hq => r_idxS (v := xF) rfl (hq.slT (Below.slT hB hF)) rfl tb_el22 (by omega) (by omega)) hS ?_
   refine WT_take (dd := some 28) 3 rfl (by kernel_rfl) (by kernel_rfl) (by kernel_rfl) rfl rfl rfl (fun _wq hq => r_load1 (v := .int .i64 _) rfl tb_sc3 (SlT.cell (hq.slT (Below.slT hB hF)) encI_len 0 (by omega) (by omega) 0 rfl)) hS ?_
   refine WT_take (dd := some 29) 4 rfl (by kernel_rfl) (by kernel_rfl) (by kernel_rfl) rfl rfl rfl (fun _wq _hq => r_move (v := xG) rfl) hS ?_
   refine WT_take (dd := some 30) 5 rfl (by kernel_rfl) (by kernel_rfl) (by kernel_rfl) rfl rfl rfl (fun _wq hq => r_idxS (j := 0) (v := xG) rfl (hq.slT (Below.slT hB hG)) rfl tb_el22 (by omega) (by omega)) hS ?_
   refine WT_take (dd := some 31) 6 rfl (by kernel_rfl) (by kernel_rfl) (by kernel_rfl) rfl rfl rfl (fun _wq hq => r_load1 (v := .int .i64 _) rfl tb_sc3 (SlT.cell (j := 0) (hq.slT (Below.slT hB hG)) encI_len 0 (by omega) (by omega) 0 rfl)) hS ?_
   refine WT_take (dd := some 32) 7 rfl (by kernel_rfl) (by kernel_rfl) (by kernel_rfl) rfl rfl rfl (fun _wq _hq => r_subI rfl rfl (by omega) (by omega)) hS ?_
   refine WT_take (dd := some 7) 8 rfl (by kernel_rfl) (by kernel_rfl) (by kernel_rfl) rfl rfl rfl (fun _wq _hq => r_assign (v := .int .i64 _) rfl) hS ?_
   refine WT_done (by kernel_rfl) ?_
   refine hK30 _ _ ?_
   clear hK30 K29
   refine WC_seq (fun K33 hK34 => ?_)
   have hj0 : joI (F.getD i 0) (G.getD 0 0) = F.getD i 0 := of_decide_eq_true (not_f' hc1)
   have hqr := sub_rng hii hi0 hj0
   refine WC_region ?_
   refine WL_val (dd := some 8) rfl rfl rfl (r_assign (v := .bool true) rfl) ?_
   refine WL_nil ?_
   refine hK34 _ _ ?_
   clear hK34 K33
   refine WC_seq (fun K35 hK36 => ?_)
   refine WC_seq (fun K37 hK38 => ?_)
   refine WC_region ?_
   refine WL_val (dd := some 9) rfl rfl rfl (r_assign (v := .int .i64 0) rfl) ?_
   refine WL_nil ?_
   refine hK38 _ _ ?_
   clear hK38 K37
   refine WC_block ?_
   refine WC_loop (σ := (Nat)) [8, 9, 33, 34, 35, 36, 37, 38, 39, 40, 41, 42, 43, 44, 45, 46, 47, 48, 49, 50, 51, 52, 53, 54, 55, 56] (fun k => [(9, .int .i64 (k : Int)), (8, .bool ((G.take k).all (qB F (F.getD i 0 - G.getD 0 0))))]) (fun k W => (Below w.heap.size w W) ∧ (OwT encI 1 3 W w.heap.size v0 _) ∧ (k ≤ G.length) ∧ (True)) (fun k => G.length - k) (0) ⟨rfl, rfl, trivial⟩ ⟨hB, ho, (Nat.zero_le _), trivial⟩ ?_
   clear hB ho
   rintro k g40 W39 ⟨hB, ho, hk, _⟩ J41 hJ42
   refine WC_seq (fun K43 hK44 => ?_)
   refine WC_seq (fun K45 hK46 => ?_)
   refine WC_region ?_
   refine WL_val (dd := some 33) rfl rfl rfl (r_move (v := .int .i64 _) rfl) ?_
   refine WL_val (dd := some 34) rfl rfl rfl (r_move (v := xG) rfl) ?_
   refine WL_val (dd := some 35) rfl rfl rfl (r_lenS (v := xG) rfl (Below.slT hB hG) tb_el22) ?_
   refine WL_val (dd := some 36) rfl rfl rfl (r_lss rfl rfl) ?_
   refine WL_nil ?_
   refine hK46 _ _ ?_
   clear hK46 K45
   refine WC_cond (b := _) rfl (fun hc2 => ?_) (fun hc2 => ?_)
   ·
    try with_reducible replace hc2 := of_decide_eq_true hc2
    refine WC_skip ?_
    refine hK44 _ _ ?_
    clear hK44 K43
    refine WC_seq (fun K47 hK48 => ?_)
    refine WC_block ?_
    refine WC_seq (fun K49 hK50 => ?_)
    have hik := hiG _ (getD_mem (l := G) (i := k) (d := 0) (by omega))
    refine WC_region ?_
    refine WL_val (dd := some 39) rfl rfl rfl (r_move (v := .int .i64 _) rfl) ?_
    refine WL_val (dd := some 40) rfl rfl rfl (r_move (v := xG) rfl) ?_
    refine WL_val (dd := some 41) rfl rfl rfl (r_move (v := .int .i64 _) rfl) ?_
    refine WL_val (dd := some 42) rfl rfl rfl (r_idxS (v := xG) rfl (Below.slT hB hG) rfl tb_el22 (by omega) (by omega)) ?_
    refine WL_val (dd := some 43) rfl rfl rfl (r_load1 (v := .int .i64 _) rfl tb_sc3 (SlT.cell (Below.slT hB hG) encI_len 0 (by omega) (by omega) 0 rfl)) ?_
    refine WL_call (dd := some 44) rfl rfl rfl (r_call2 tb_c93 (v0 := .int .i64 _) rfl (v1 := .int .i64 _) rfl) (C_drawkniferef20_apart (F.getD i 0 - G.getD 0 0) (G.getD k 0) _ hqr.1 hqr.2 hik.1 hik.2) (fun v11_5 W51 hE52 hP11_5 => ?_)
    have hsz53 := (Below.size hB)
    replace hB := below_ext hB hE52 (Nat.le_refl _)
    replace ho := hE52.ow ho
    clear hE52
    clear hsz53
    obtain rfl := hP11_5
    refine WL_val (dd := some 45) rfl rfl rfl (r_not rfl) ?_
    refine WL_split (dd := some 46) rfl rfl rfl (r_move (v := .bool _) rfl) (fun hs11_7 => ?_) (fun hs11_7 => ?_)
    ·
     try with_reducible replace hs11_7 := of_decide_eq_true hs11_7
     refine WL_skip (dd := some 47) rfl rfl rfl ?_
     refine WL_skip (dd := some 48) rfl rfl rfl ?_
     refine WL_skip (dd := some 49) rfl rfl rfl ?_
     refine WL_skip (dd := some 50) rfl rfl rfl ?_
     refine WL_skip (dd := some 51) rfl rfl rfl ?_
     refine WL_skip (dd := some 52) rfl rfl rfl ?_
     refine WL_skip (dd := some 53) rfl rfl rfl ?_
     refine WL_skip (dd := some 54) rfl rfl rfl ?_
     refine WL_skip (dd := some 55) rfl rfl rfl ?_
     refine WL_val (dd := some 56) rfl rfl rfl (r_pick_t rfl (v := .bool true) rfl) ?_
     refine WL_nil ?_
     refine hK50 _ _ ?_
     clear hK50 K49
     refine WC_cond_true rfl ?_
     refine WC_region ?_
     refine WL_val (dd := some 8) rfl rfl rfl (r_assign (v := .bool false) rfl) ?_
     refine WL_nil ?_
     refine hK48 _ _ ?_
     clear hK48 K47
     refine WC_region ?_
     refine WL_val (dd := some 37) rfl rfl rfl (r_move (v := .int .i64 _) rfl) ?_
     refine WL_val (dd := some 38) rfl rfl rfl (r_addI rfl rfl (by omega) (by omega)) ?_
     refine WL_val (dd := some 9) rfl rfl rfl (r_assign (v := .int .i64 _) rfl) ?_
     refine WL_nil ?_
     refine hJ42 _ _ (k + 1) ?_ ?_ ?_ ?_
     · repeat (first | exact agree.mask _ _ _ | refine agree.updo ?_ rfl _ | refine agree.updL ?_ _ rfl | refine agree.maskS rfl ?_)
     · exact ⟨rfl, (by first | exact qb_f1 (by omega) hs11_7 | exact qb_f2 (by omega) hc3 | exact qb_t (by omega) hs11_7 hc3), trivial⟩
     · exact ⟨hB, ho, (by omega), trivial⟩
     · first | omega | (dsimp only; omega)
    ·
     try with_reducible replace hs11_7 := of_decide_eq_false hs11_7
     refine WL_val (dd := some 47) rfl rfl rfl (r_move (v := xF) rfl) ?_
     refine WL_val (dd := some 48) rfl rfl rfl (r_move (v := .int .i64 _) rfl) ?_
     refine WL_val (dd := some 49) rfl rfl rfl (r_move (v := xG) rfl) ?_
     refine WL_val (dd := some 50) rfl rfl rfl (r_move (v := .int .i64 _) rfl) ?_
     refine WL_val (dd := some 51) rfl rfl rfl (r_idxS (v := xG) rfl (Below.slT hB hG) rfl tb_el22 (by omega) (by omega)) ?_
     refine WL_val (dd := some 52) rfl rfl rfl (r_load1 (v := .int .i64 _) rfl tb_sc3 (SlT.cell (Below.slT hB hG) encI_len 0 (by omega) (by omega) 0 rfl)) ?_
     refine WL_call (dd := some 53) rfl rfl rfl (r_call2 tb_c22 (v0 := .int .i64 _) rfl (v1 := .int .i64 _) rfl) (C_drawkniferef08_Both (F.getD i 0 - G.getD 0 0) (G.getD k 0) _ hqr.1 hqr.2 hik.1 hik.2) (fun v11_14 W54 hE55 hP11_14 => ?_)
     have hsz56 := (Below.size hB)
     replace hB := below_ext hB hE55 (Nat.le_refl _)
     replace ho := hE55.ow ho
     clear hE55
     clear hsz56
     obtain rfl := hP11_14
     refine WL_call (dd := some 54) rfl rfl rfl (r_call2 tb_c81 (v0 := xF) rfl (v1 := .int .i64 _) rfl) (C_drawkniferef08_Has _ F (joI (F.getD i 0 - G.getD 0 0) (G.getD k 0)) _ (Below.slT hB hF) (by omega)) (fun v11_15 W57 hE58 hP11_15 => ?_)
     have hsz59 := (Below.size hB)
     replace hB := below_ext hB hE58 (Nat.le_refl _)
     replace ho := hE58.ow ho
     clear hE58
     clear hsz59
     obtain rfl := hP11_15
     refine WL_val (dd := some 55) rfl rfl rfl (r_not rfl) ?_
     refine WL_val (dd := some 56) rfl rfl rfl (r_pick_f rfl (v := .bool _) rfl) ?_
     refine WL_nil ?_
     refine hK50 _ _ ?_
     clear hK50 K49
     refine WC_cond (b := _) rfl (fun hc3 => ?_) (fun hc3 => ?_)
     ·
      try with_reducible replace hc3 := of_decide_eq_true hc3
      refine WC_region ?_
      refine WL_val (dd := some 8) rfl rfl rfl (r_assign (v := .bool false) rfl) ?_
      refine WL_nil ?_
      refine hK48 _ _ ?_
      clear hK48 K47
      refine WC_region ?_
      refine WL_val (dd := some 37) rfl rfl rfl (r_move (v := .int .i64 _) rfl) ?_
      refine WL_val (dd := some 38) rfl rfl rfl (r_addI rfl rfl (by omega) (by omega)) ?_
      refine WL_val (dd := some 9) rfl rfl rfl (r_assign (v := .int .i64 _) rfl) ?_
      refine WL_nil ?_
      refine hJ42 _ _ (k + 1) ?_ ?_ ?_ ?_
      · repeat (first | exact agree.mask _ _ _ | refine agree.updo ?_ rfl _ | refine agree.updL ?_ _ rfl | refine agree.maskS rfl ?_)
      · exact ⟨rfl, (by first | exact qb_f1 (by omega) hs11_7 | exact qb_f2 (by omega) hc3 | exact qb_t (by omega) hs11_7 hc3), trivial⟩
      · exact ⟨hB, ho, (by omega), trivial⟩
      · first | omega | (dsimp only; omega)
     ·
      try with_reducible replace hc3 := of_decide_eq_false hc3
      refine WC_skip ?_
      refine hK48 _ _ ?_
      clear hK48 K47
      refine WC_region ?_
      refine WL_val (dd := some 37) rfl rfl rfl (r_move (v := .int .i64 _) rfl) ?_
      refine WL_val (dd := some 38) rfl rfl rfl (r_addI rfl rfl (by omega) (by omega)) ?_
      refine WL_val (dd := some 9) rfl rfl rfl (r_assign (v := .int .i64 _) rfl) ?_
      refine WL_nil ?_
      refine hJ42 _ _ (k + 1) ?_ ?_ ?_ ?_
      · repeat (first | exact agree.mask _ _ _ | refine agree.updo ?_ rfl _ | refine agree.updL ?_ _ rfl | refine agree.maskS rfl ?_)
      · exact ⟨rfl, (by first | exact qb_f1 (by omega) hs11_7 | exact qb_f2 (by omega) hc3 | exact qb_t (by omega) hs11_7 hc3), trivial⟩
      · exact ⟨hB, ho, (by omega), trivial⟩
      · first | omega | (dsimp only; omega)
   ·
    try with_reducible replace hc2 := of_decide_eq_false hc2
    refine WC_exit ?_
    refine hK36 _ _ ?_
    clear hK44 K43
    clear hJ42 J41
    clear hK36 K35
    refine WC_seq (fun K60 hK61 => ?_)
    obtain rfl : k = G.length := by omega
    refine WC_region ?_
    refine WL_val (dd := some 57) rfl rfl rfl (r_move (v := .bool _) rfl) ?_
    refine WL_nil ?_
    refine hK61 _ _ ?_
    clear hK61 K60
    refine WC_cond (b := _) rfl (fun hc4 => ?_) (fun hc4 => ?_)
    ·
     try with_reducible replace hc4 := of_decide_eq_true hc4
     have hol := ofI_len (quoL F G i)
     have hpl := quoL_len (F := F) (G := G) (i := i)
     refine WC_region ?_
     refine WL_val (dd := some 58) rfl rfl rfl (r_move (v := v0) rfl) ?_
     refine WL_val (dd := some 59) rfl rfl rfl (r_move (v := .int .i64 _) rfl) ?_
     refine WL_call (dd := some 60) rfl rfl rfl (r_call2 tb_c21 (v0 := v0) rfl (v1 := .int .i64 _) rfl) (C_drawkniferef08_With _ _ (ofI (quoL F G i)) (F.getD i 0 - G.getD 0 0) _ ho (Below.size hB) (by omega)) (fun v14_2 W62 hE63 hP14_2 => ?_)
     have hlt64 := OwT.lt2 ho
     have hsz65 := (Below.size hB)
     replace hB := below_ext hB hE63 (Nat.le_refl _)
     replace ho := hE63.ow ho
     clear hE63
     clear ho
     clear hsz65
     refine WL_val (dd := some 5) rfl rfl rfl (r_assign (v := v14_2) rfl) ?_
     refine WL_nil ?_
     refine hK18 _ _ ?_
     clear hK18 K17
     refine WC_region ?_
     refine WL_val (dd := some 14) rfl rfl rfl (r_move (v := .int .i64 _) rfl) ?_
     refine WL_val (dd := some 15) rfl rfl rfl (r_addI rfl rfl (by omega) (by omega)) ?_
     refine WL_val (dd := some 6) rfl rfl rfl (r_assign (v := .int .i64 _) rfl) ?_
     refine WL_nil ?_
     refine hJ12 _ _ ((i + 1, v14_2)) ?_ ?_ ?_ ?_
     · repeat (first | exact agree.mask _ _ _ | refine agree.updo ?_ rfl _ | refine agree.updL ?_ _ rfl | refine agree.maskS rfl ?_)
     · exact ⟨rfl, rfl, trivial⟩
     · exact ⟨hB, (by first | (rw [← quo_no (by omega) (of_decide_eq_false (not_t' hc1))]; exact hP14_2) | (rw [← quo_t (by omega) hj0 rfl hc4]; exact hP14_2) | (rw [← quo_f (by omega) rfl hc4]; exact hP14_2)), (by omega), trivial⟩
     · show F.length - (i + 1) < F.length - i; omega
    ·
     try with_reducible replace hc4 := of_decide_eq_false hc4
     refine WC_skip ?_
     refine hK18 _ _ ?_
     clear hK18 K17
     refine WC_region ?_
     refine WL_val (dd := some 14) rfl rfl rfl (r_move (v := .int .i64 _) rfl) ?_
     refine WL_val (dd := some 15) rfl rfl rfl (r_addI rfl rfl (by omega) (by omega)) ?_
     refine WL_val (dd := some 6) rfl rfl rfl (r_assign (v := .int .i64 _) rfl) ?_
     refine WL_nil ?_
     refine hJ12 _ _ ((i + 1, v0)) ?_ ?_ ?_ ?_
     · repeat (first | exact agree.mask _ _ _ | refine agree.updo ?_ rfl _ | refine agree.updL ?_ _ rfl | refine agree.maskS rfl ?_)
     · exact ⟨rfl, rfl, trivial⟩
     · exact ⟨hB, (by first | (rw [← quo_no (by omega) (of_decide_eq_false (not_t' hc1))]; exact ho) | (rw [← quo_t (by omega) hj0 rfl hc4]; exact ho) | (rw [← quo_f (by omega) rfl hc4]; exact ho)), (by omega), trivial⟩
     · show F.length - (i + 1) < F.length - i; omega
 ·
  try with_reducible replace hc0 := of_decide_eq_false hc0
  refine WC_exit ?_
  refine hK6 _ _ ?_
  clear hK14 K13
  clear hJ12 J11
  clear hK6 K5
  refine WC_seq (fun K66 hK67 => ?_)
  refine WC_region ?_
  refine WL_val (dd := some 61) rfl rfl rfl (r_move (v := v0) rfl) ?_
  refine WL_val (dd := some 4) rfl rfl rfl (r_assign (v := v0) rfl) ?_
  refine WL_nil ?_
  refine hK67 _ _ ?_
  clear hK67 K66
  refine WC_ret ?_
  repeat (first | refine thenQ_ret ?_ | refine blockQ_ret ?_)
  refine ret_t (v := v0) rfl ?_
  refine ⟨hB, ?_⟩
  obtain rfl : i = F.length := by omega
  exact ho

end Go.Proofs.Ytpamgfbecgjjeaa
