/-
  The walks of the document's families.
-/
import Derived.Test.YtpamgfbecgjjeaaProg
import Derived.Test.YtpamgfbecgjjeaaWZdd5
import Derived.Test.YtpamgfbecgjjeaaZ8
namespace Go.Proofs.Ytpamgfbecgjjeaa
set_option linter.unusedVariables false
set_option linter.unusedSimpArgs false
open Go Go.RowKit

theorem C_drawkniferef08_Same (xa xb : Value) (a b : List Int) (w : World) (ha : SlT encI 1 w xa a) (hb : SlT encI 1 w xb b) (hal : a.length ≤ 1000000) (hbl : b.length ≤ 1000000) :
    Fn Try.prog 24 #[xa, xb] w fun v w' => v = .bool (decide (a = b)) := by
 refine Fn_intro (n := 26) Try.func24 rfl rfl (Nat.le_of_ble_eq_true rfl) ?_
 have hB : Below w.heap.size w w := Below.refl _ _
 refine WC_seq (fun K1 hK2 => ?_)
 refine WC_region ?_
 refine WL_val (dd := some 4) rfl rfl rfl (r_assign (v := .bool false) rfl) ?_
 refine WL_nil ?_
 refine hK2 _ _ ?_
 clear hK2 K1
 refine WC_seq (fun K3 hK4 => ?_)
 refine WC_seq (fun K5 hK6 => ?_)
 refine WC_region ?_
 refine WL_val (dd := some 6) rfl rfl rfl (r_move (v := xa) rfl) ?_
 refine WL_val (dd := some 7) rfl rfl rfl (r_lenS (v := xa) rfl (Below.slT hB ha) tb_el22) ?_
 refine WL_val (dd := some 8) rfl rfl rfl (r_move (v := xb) rfl) ?_
 refine WL_val (dd := some 9) rfl rfl rfl (r_lenS (v := xb) rfl (Below.slT hB hb) tb_el22) ?_
 refine WL_val (dd := some 10) rfl rfl rfl (r_neq rfl rfl) ?_
 refine WL_nil ?_
 refine hK6 _ _ ?_
 clear hK6 K5
 refine WC_cond (b := _) rfl (fun hc0 => ?_) (fun hc0 => ?_)
 ·
  try with_reducible replace hc0 := of_decide_eq_true hc0
  refine WC_seq (fun K7 hK8 => ?_)
  refine WC_region ?_
  refine WL_val (dd := some 4) rfl rfl rfl (r_assign (v := .bool false) rfl) ?_
  refine WL_nil ?_
  refine hK8 _ _ ?_
  clear hK8 K7
  refine WC_ret ?_
  repeat (first | refine thenQ_ret ?_ | refine blockQ_ret ?_)
  try clear hK4 K3
  refine ret_t (v := .bool false) rfl ?_
  refine ⟨hB, ?_⟩
  exact sz_0 hc0
 ·
  try with_reducible replace hc0 := of_decide_eq_false hc0
  refine WC_skip ?_
  refine hK4 _ _ ?_
  clear hK4 K3
  refine WC_seq (fun K9 hK10 => ?_)
  refine WC_seq (fun K11 hK12 => ?_)
  refine WC_region ?_
  refine WL_val (dd := some 5) rfl rfl rfl (r_assign (v := .int .i64 0) rfl) ?_
  refine WL_nil ?_
  refine hK12 _ _ ?_
  clear hK12 K11
  refine WC_block ?_
  refine WC_loop (σ := (Nat)) [4, 5, 11, 12, 13, 14, 15, 16, 17, 18, 19, 20, 21, 22, 23, 24, 25] (fun k => [(5, .int .i64 (k : Int))]) (fun k W => (Below w.heap.size w W) ∧ (k ≤ a.length) ∧ (∀ q, q < k → a.getD q 0 = b.getD q 0) ∧ (True)) (fun k => a.length - k) (0) ⟨rfl, trivial⟩ ⟨hB, (Nat.zero_le _), upTo_zero, trivial⟩ ?_
  clear hB
  rintro k g14 W13 ⟨hB, hk, hq, _⟩ J15 hJ16
  refine WC_seq (fun K17 hK18 => ?_)
  refine WC_seq (fun K19 hK20 => ?_)
  refine WC_region ?_
  refine WL_val (dd := some 11) rfl rfl rfl (r_move (v := .int .i64 _) rfl) ?_
  refine WL_val (dd := some 12) rfl rfl rfl (r_move (v := xa) rfl) ?_
  refine WL_val (dd := some 13) rfl rfl rfl (r_lenS (v := xa) rfl (Below.slT hB ha) tb_el22) ?_
  refine WL_val (dd := some 14) rfl rfl rfl (r_lss rfl rfl) ?_
  refine WL_nil ?_
  refine hK20 _ _ ?_
  clear hK20 K19
  refine WC_cond (b := _) rfl (fun hc1 => ?_) (fun hc1 => ?_)
  ·
   try with_reducible replace hc1 := of_decide_eq_true hc1
   refine WC_skip ?_
   refine hK18 _ _ ?_
   clear hK18 K17
   refine WC_seq (fun K21 hK22 => ?_)
   refine WC_block ?_
   refine WC_seq (fun K23 hK24 => ?_)
   refine WC_draw Ext tb_mix (fun W25 hE26 => ?_)
   replace hB := below_ext hB hE26 (Nat.le_refl _)
   have hS := Ext.refl W25
   refine WT_take (dd := some 17) 0 rfl (by kernel_rfl) (by kernel_rfl) (by kernel_rfl) rfl rfl rfl (fun _wq _hq => r_move (v := xa) rfl) hS ?_
   refine WT_take (dd := some 18) 1 rfl (by kernel_rfl) (by kernel_rfl) (by kernel_rfl) rfl rfl rfl (fun _wq _hq => r_move (v := .int .i64 _) rfl) hS ?_
   refine WT_take (dd := some 19) 2 rfl (by kernel_rfl) (by kernel_rfl) (by kernel_rfl) rfl rfl rfl (fun _wq hq => r_idxS (v := xa) rfl (hq.slT (Below.slT hB ha)) rfl tb_el22 (by omega) (by omega)) hS ?_
   refine WT_take (dd := some 20) 3 rfl (by kernel_rfl) (by kernel_rfl) (by kernel_rfl) rfl rfl rfl (fun _wq hq => r_load1 (v := .int .i64 _) rfl tb_sc3 (SlT.cell (hq.slT (Below.slT hB ha)) encI_len 0 (by omega) (by omega) 0 rfl)) hS ?_
   refine WT_take (dd := some 21) 4 rfl (by kernel_rfl) (by kernel_rfl) (by kernel_rfl) rfl rfl rfl (fun _wq _hq => r_move (v := xb) rfl) hS ?_
   refine WT_take (dd := some 22) 5 rfl (by kernel_rfl) (by kernel_rfl) (by kernel_rfl) rfl rfl rfl (fun _wq _hq => r_move (v := .int .i64 _) rfl) hS ?_
   refine WT_take (dd := some 23) 6 rfl (by kernel_rfl) (by kernel_rfl) (by kernel_rfl) rfl rfl rfl (fun _wq hq => r_idxS (v := xb) rfl (hq.slT (Below.slT hB hb)) rfl tb_el22 (by omega) (by omega)) hS ?_
   refine WT_take (dd := some 24) 7 rfl (by kernel_rfl) (by kernel_rfl) (by kernel_rfl) rfl rfl rfl (fun _wq hq => r_load1 (v := .int .i64 _) rfl tb_sc3 (SlT.cell (hq.slT (Below.slT hB hb)) encI_len 0 (by omega) (by omega) 0 rfl)) hS ?_
   refine WT_take (dd := some 25) 8 rfl (by kernel_rfl) (by kernel_rfl) (by kernel_rfl) rfl rfl rfl (fun _wq _hq => r_neq rfl rfl) hS ?_
   refine WT_done (by kernel_rfl) ?_
   refine hK24 _ _ ?_
   clear hK24 K23
   refine WC_cond (b := _) rfl (fun hc2 => ?_) (fun hc2 => ?_)
   ·
    try with_reducible replace hc2 := of_decide_eq_true hc2
    refine WC_seq (fun K27 hK28 => ?_)
    refine WC_region ?_
    refine WL_val (dd := some 4) rfl rfl rfl (r_assign (v := .bool false) rfl) ?_
    refine WL_nil ?_
    refine hK28 _ _ ?_
    clear hK28 K27
    refine WC_ret ?_
    repeat (first | refine thenQ_ret ?_ | refine blockQ_ret ?_)
    try clear hK22 K21
    try clear hJ16 J15
    try clear hK10 K9
    refine ret_t (v := .bool false) rfl ?_
    refine ⟨hB, ?_⟩
    exact sz_1 (k := k) hc2
   ·
    try with_reducible replace hc2 := of_decide_eq_false hc2
    refine WC_skip ?_
    refine hK22 _ _ ?_
    clear hK22 K21
    refine WC_region ?_
    refine WL_val (dd := some 15) rfl rfl rfl (r_move (v := .int .i64 _) rfl) ?_
    refine WL_val (dd := some 16) rfl rfl rfl (r_addI rfl rfl (by omega) (by omega)) ?_
    refine WL_val (dd := some 5) rfl rfl rfl (r_assign (v := .int .i64 _) rfl) ?_
    refine WL_nil ?_
    refine hJ16 _ _ (k + 1) ?_ ?_ ?_ ?_
    · repeat (first | exact agree.mask _ _ _ | refine agree.updo ?_ rfl _ | refine agree.updL ?_ _ rfl | refine agree.maskS rfl ?_)
    · exact ⟨rfl, trivial⟩
    · exact ⟨hB, (by omega), (upTo_succ hq (Decidable.of_not_not hc2)), trivial⟩
    · first | omega | (dsimp only; omega)
  ·
   try with_reducible replace hc1 := of_decide_eq_false hc1
   refine WC_exit ?_
   refine hK10 _ _ ?_
   clear hK18 K17
   clear hJ16 J15
   clear hK10 K9
   refine WC_seq (fun K29 hK30 => ?_)
   refine WC_region ?_
   refine WL_val (dd := some 4) rfl rfl rfl (r_assign (v := .bool true) rfl) ?_
   refine WL_nil ?_
   refine hK30 _ _ ?_
   clear hK30 K29
   refine WC_ret ?_
   repeat (first | refine thenQ_ret ?_ | refine blockQ_ret ?_)
   refine ret_t (v := .bool true) rfl ?_
   refine ⟨hB, ?_⟩
   exact sz_2 (k := k) (by omega) (by omega) hq

theorem C_drawkniferef08_With (N : Nat) (xl : Value) (l : List Int) (m : Int) (w : World) (hOw : OwT encI 1 3 w N xl l) (hN : N ≤ w.heap.size) (hll : l.length ≤ 1000000) :
    Fn Try.prog 21 #[xl, .int .i64 m] w fun v w' => OwT encI 1 3 w' N v (withI l m) := by
 refine Fn_intro (n := 47) Try.func21 rfl rfl (Nat.le_of_ble_eq_true rfl) ?_
 have hB : Below w.heap.size w w := Below.refl _ _
 have hl := hOw.sl
 have hC : l.length ≤ slC xl := (Sl.eqv hl).2.1
 refine WC_seq (fun K1 hK2 => ?_)
 refine WC_region ?_
 refine WL_val (dd := some 4) rfl rfl rfl (r_assign (v := .slice none 0 0) rfl) ?_
 refine WL_nil ?_
 refine hK2 _ _ ?_
 clear hK2 K1
 refine WC_seq (fun K3 hK4 => ?_)
 refine WC_region ?_
 refine WL_val (dd := some 5) rfl rfl rfl (r_assign (v := .int .i64 0) rfl) ?_
 refine WL_nil ?_
 refine hK4 _ _ ?_
 clear hK4 K3
 refine WC_seq (fun K5 hK6 => ?_)
 refine WC_block ?_
 refine WC_loop (σ := (Nat)) [5, 7, 8, 9, 10, 11, 12, 13, 14, 15, 16, 17, 18, 19, 20] (fun k => [(5, .int .i64 (k : Int))]) (fun k W => (Below w.heap.size w W) ∧ (k ≤ l.length) ∧ (∀ q, q < k → l.getD q 0 < m) ∧ (True)) (fun k => l.length - k) (0) ⟨rfl, trivial⟩ ⟨hB, (Nat.zero_le _), upTo_zero, trivial⟩ ?_
 clear hB
 rintro k g8 W7 ⟨hB, hk, hq, _⟩ J9 hJ10
 refine WC_seq (fun K11 hK12 => ?_)
 refine WC_seq (fun K13 hK14 => ?_)
 refine WC_region ?_
 refine WL_val (dd := some 7) rfl rfl rfl (r_move (v := .int .i64 _) rfl) ?_
 refine WL_val (dd := some 8) rfl rfl rfl (r_move (v := xl) rfl) ?_
 refine WL_val (dd := some 9) rfl rfl rfl (r_lenS (v := xl) rfl (Below.slT hB hl) tb_el22) ?_
 refine WL_val (dd := some 10) rfl rfl rfl (r_lss rfl rfl) ?_
 refine WL_split (dd := some 11) rfl rfl rfl (r_move (v := .bool _) rfl) (fun hs2_4 => ?_) (fun hs2_4 => ?_)
 ·
  try with_reducible replace hs2_4 := of_decide_eq_true hs2_4
  refine WL_val (dd := some 12) rfl rfl rfl (r_move (v := xl) rfl) ?_
  refine WL_val (dd := some 13) rfl rfl rfl (r_move (v := .int .i64 _) rfl) ?_
  refine WL_val (dd := some 14) rfl rfl rfl (r_idxS (v := xl) rfl (Below.slT hB hl) rfl tb_el22 (by omega) (by omega)) ?_
  refine WL_val (dd := some 15) rfl rfl rfl (r_load1 (v := .int .i64 _) rfl tb_sc3 (SlT.cell (Below.slT hB hl) encI_len 0 (by omega) (by omega) 0 rfl)) ?_
  refine WL_val (dd := some 16) rfl rfl rfl (r_move (v := .int .i64 _) rfl) ?_
  refine WL_val (dd := some 17) rfl rfl rfl (r_lss rfl rfl) ?_
  refine WL_val (dd := some 18) rfl rfl rfl (r_pick_t rfl (v := .bool _) rfl) ?_
  refine WL_nil ?_
  refine hK14 _ _ ?_
  clear hK14 K13
  refine WC_cond (b := _) rfl (fun hc0 => ?_) (fun hc0 => ?_)
  ·
   try with_reducible replace hc0 := of_decide_eq_true hc0
   refine WC_skip ?_
   refine hK12 _ _ ?_
   clear hK12 K11
   refine WC_block ?_
   refine WC_region ?_
   refine WL_val (dd := some 19) rfl rfl rfl (r_move (v := .int .i64 _) rfl) ?_
   refine WL_val (dd := some 20) rfl rfl rfl (r_addI rfl rfl (by omega) (by omega)) ?_
   refine WL_val (dd := some 5) rfl rfl rfl (r_assign (v := .int .i64 _) rfl) ?_
   refine WL_nil ?_
   refine hJ10 _ _ (k + 1) ?_ ?_ ?_ ?_
   · repeat (first | exact agree.mask _ _ _ | refine agree.updo ?_ rfl _ | refine agree.updL ?_ _ rfl | refine agree.maskS rfl ?_)
   · exact ⟨rfl, trivial⟩
   · exact ⟨hB, (by omega), (upTo_succ hq hc0), trivial⟩
   · first | omega | (dsimp only; omega)
  ·
   try with_reducible replace hc0 := of_decide_eq_false hc0
   refine WC_exit ?_
   refine hK6 _ _ ?_
   clear hK12 K11
   clear hJ10 J9
   clear hK6 K5
   refine WC_seq (fun K15 hK16 => ?_)
   refine WC_seq (fun K17 hK18 => ?_)
   refine WC_region ?_
   refine WL_val (dd := some 21) rfl rfl rfl (r_move (v := .int .i64 _) rfl) ?_
   refine WL_val (dd := some 22) rfl rfl rfl (r_move (v := xl) rfl) ?_
   refine WL_val (dd := some 23) rfl rfl rfl (r_lenS (v := xl) rfl (Below.slT hB hl) tb_el22) ?_
   refine WL_val (dd := some 24) rfl rfl rfl (r_lss rfl rfl) ?_
   refine WL_split (dd := some 25) rfl rfl rfl (r_move (v := .bool _) rfl) (fun hs4_4 => ?_) (fun hs4_4 => ?_)
   ·
    try with_reducible replace hs4_4 := of_decide_eq_true hs4_4
    refine WL_val (dd := some 26) rfl rfl rfl (r_move (v := xl) rfl) ?_
    refine WL_val (dd := some 27) rfl rfl rfl (r_move (v := .int .i64 _) rfl) ?_
    refine WL_val (dd := some 28) rfl rfl rfl (r_idxS (v := xl) rfl (Below.slT hB hl) rfl tb_el22 (by omega) (by omega)) ?_
    refine WL_val (dd := some 29) rfl rfl rfl (r_load1 (v := .int .i64 _) rfl tb_sc3 (SlT.cell (Below.slT hB hl) encI_len 0 (by omega) (by omega) 0 rfl)) ?_
    refine WL_val (dd := some 30) rfl rfl rfl (r_move (v := .int .i64 _) rfl) ?_
    refine WL_val (dd := some 31) rfl rfl rfl (r_eql rfl rfl) ?_
    refine WL_val (dd := some 32) rfl rfl rfl (r_pick_t rfl (v := .bool _) rfl) ?_
    refine WL_nil ?_
    refine hK18 _ _ ?_
    clear hK18 K17
    refine WC_cond (b := _) rfl (fun hc1 => ?_) (fun hc1 => ?_)
    ·
     try with_reducible replace hc1 := of_decide_eq_true hc1
     refine WC_seq (fun K19 hK20 => ?_)
     refine WC_region ?_
     refine WL_val (dd := some 33) rfl rfl rfl (r_move (v := xl) rfl) ?_
     refine WL_val (dd := some 4) rfl rfl rfl (r_assign (v := xl) rfl) ?_
     refine WL_nil ?_
     refine hK20 _ _ ?_
     clear hK20 K19
     refine WC_ret ?_
     repeat (first | refine thenQ_ret ?_ | refine blockQ_ret ?_)
     try clear hK16 K15
     refine ret_t (v := xl) rfl ?_
     refine ⟨hB, ?_⟩
     rw [← with_met l k (by omega) hq hc1]
     exact Ext.ow (show Ext _ _ from hB) hOw
    ·
     try with_reducible replace hc1 := of_decide_eq_false hc1
     refine WC_skip ?_
     refine hK16 _ _ ?_
     clear hK16 K15
     refine WC_seq (fun K21 hK22 => ?_)
     refine WC_region ?_
     refine WL_step (dd := some 34) rfl rfl rfl (Y_lit0 tb_el22 (fun b6_0 W23 hb24 hE25 hm6_0 => ?_))
     have lo_b6_0 : w.heap.size ≤ b6_0 := hb24 ▸ (Below.size hB)
     clear hb24
     replace hB := below_ext hB hE25 (Nat.le_refl _)
     clear hE25
     have ho6_0 := own_lit0 (enc := encI) (sz := 1) hm6_0 lo_b6_0
     clear hm6_0
     refine WL_val (dd := some 35) rfl rfl rfl (r_move (v := xl) rfl) ?_
     refine WL_val (dd := some 36) rfl rfl rfl (r_move (v := .int .i64 _) rfl) ?_
     refine WL_val (dd := some 37) rfl rfl rfl (r_sliceHi (v := xl) rfl (Below.slT hB hl) tb_el22 rfl (by omega) (by omega)) ?_
     have hp6_3 : SlT encI 1 w (slOf 1 xl 0 k (slC xl)) ((l.drop 0).take (k - 0)) := SlT.part encI_len hl (by omega) (by omega) (by omega) (by omega)
     refine WL_step (dd := some 38) rfl rfl rfl (Y_append (v := .slice (some ⟨b6_0, 0, none⟩) 0 0) (v2 := slOf 1 xl 0 k (slC xl)) rfl rfl tb_el22 tb_zs3 (by decide) ho6_0 (Below.slT hB hp6_3) (enc_one_encI) (by have := Below.size hB; omega) (by simp; omega) (by simp; omega) (fun v6_4 W26 hG27 ho6_4 => ?_))
     replace ho6_4 := OwT.app (enc := encI) rfl rfl rfl rfl ho6_4
     replace hB := below_grown hB hG27 (Nat.le_refl _) (fun j hj => (OwT.lt ho6_0 j hj))
     clear hG27
     clear ho6_0
     refine WL_val (dd := some 6) rfl rfl rfl (r_assign (v := v6_4) rfl) ?_
     refine WL_nil ?_
     refine hK22 _ _ ?_
     clear hK22 K21
     refine WC_seq (fun K29 hK30 => ?_)
     refine WC_draw (fun a b => Below w.heap.size a b) tb_mix (fun W31 hE32 => ?_)
     replace hB := below_ext hB hE32 (Nat.le_refl _)
     replace ho6_4 := hE32.ow ho6_4
     have hBdW : w.heap.size ≤ W31.heap.size := Nat.le_trans (Nat.le_refl _) (Below.size hB)
     have hS : Below w.heap.size W31 W31 := Below.refl _ _
     refine WT_take (dd := some 39) 0 rfl (by kernel_rfl) (by kernel_rfl) (by kernel_rfl) rfl rfl rfl (fun _wq _hq => r_move (v := v6_4) rfl) hS ?_
     refine WT_take (dd := some 40) 1 rfl (by kernel_rfl) (by kernel_rfl) (by kernel_rfl) rfl rfl rfl (fun _wq _hq => r_move (v := .int .i64 _) rfl) hS ?_
     refine WT_take (dd := some 43) 4 rfl (by kernel_rfl) (by kernel_rfl) (by kernel_rfl) rfl rfl rfl (fun _wq _hq => r_move (v := xl) rfl) hS ?_
     refine WT_take (dd := some 44) 5 rfl (by kernel_rfl) (by kernel_rfl) (by kernel_rfl) rfl rfl rfl (fun _wq _hq => r_move (v := .int .i64 _) rfl) hS ?_
     refine WT_take (dd := some 45) 6 rfl (by kernel_rfl) (by kernel_rfl) (by kernel_rfl) rfl rfl rfl (fun _wq hq => r_sliceLo (v := xl) rfl (Below.slT (Below.trans hB hq) hl) tb_el22 rfl (by omega) (by omega)) hS ?_
     have hp7_6 : SlT encI 1 w (slOf 1 xl k l.length (slC xl)) ((l.drop k).take (l.length - k)) := SlT.part encI_len hl (by omega) (by omega) (by omega) (by omega)
     refine WT_one (dd := some 41) 2 (by kernel_rfl) rfl rfl rfl rfl (Y_lit1 (u := .int .i64 _) rfl tb_el22 tb_zs3 rfl (by decide) (by decide) (fun b7_2 W33 hb34 hE35 hm7_2 => ⟨.inl (below_ext hS hE35 hBdW), ?_⟩))
     have lo_b7_2 : w.heap.size ≤ b7_2 := hb34 ▸ (Below.size hB)
     have no_v6_4_b7_2 := OwT.neB (b := b7_2) ho6_4 (Nat.le_of_eq hb34.symm)
     clear hb34
     have sv36_hB := hB
     have sv36_ho6_4 := ho6_4
     replace hB := below_ext hB hE35 (Nat.le_refl _)
     replace ho6_4 := hE35.ow ho6_4
     replace hS := below_ext hS hE35 hBdW
     clear hE35
     refine WT_one (dd := some 42) 3 (by kernel_rfl) rfl rfl rfl rfl (Y_append (v := v6_4) (v2 := .slice (some ⟨b7_2, 0, none⟩) 1 1) rfl rfl tb_el22 tb_zs3 (by decide) ho6_4 (sl_lit1 hm7_2 rfl) rfl (by have := Below.size hB; omega) (by simp; omega) (by simp; omega) (fun v7_3 W37 hG38 ho7_3 => ⟨.inl (below_grown hS hG38 hBdW (OwT.lt ho6_4)), ?_⟩))
     replace hS := below_grown hS hG38 hBdW (OwT.lt ho6_4)
     replace ho7_3 := OwT.snoc (enc := encI) (x := m) rfl rfl rfl rfl ho7_3
     clear hm7_2
     replace hB := below_grown hB hG38 (Nat.le_refl _) (fun j hj => (OwT.lt ho6_4 j hj))
     clear hG38
     clear ho6_4
     refine WT_one (dd := some 46) 7 (by kernel_rfl) rfl rfl rfl rfl (Y_append (v := v7_3) (v2 := slOf 1 xl k l.length (slC xl)) rfl rfl tb_el22 tb_zs3 (by decide) ho7_3 (Below.slT hB hp7_6) (enc_one_encI) (by have := Below.size hB; omega) (by simp; omega) (by simp; omega) (fun v7_7 W40 hG41 ho7_7 => ⟨.inl (below_grown hS hG41 hBdW (OwT.lt ho7_3)), ?_⟩))
     replace hS := below_grown hS hG41 hBdW (OwT.lt ho7_3)
     replace ho7_7 := OwT.app (enc := encI) rfl rfl rfl rfl ho7_7
     replace hB := below_grown hB hG41 (Nat.le_refl _) (fun j hj => (OwT.lt ho7_3 j hj))
     clear hG41
     clear ho7_3
     refine WT_take (dd := some 4) 8 rfl (by kernel_rfl) (by kernel_rfl) (by kernel_rfl) rfl rfl rfl (fun _wq _hq => r_assign (v := v7_7) rfl) hS ?_
     refine WT_done (by kernel_rfl) ?_
     try clear sv36_hB
     refine hK30 _ _ ?_
     clear hK30 K29
     refine WC_ret ?_
     repeat (first | refine thenQ_ret ?_ | refine blockQ_ret ?_)
     refine ret_t (v := v7_7) rfl ?_
     refine ⟨hB, ?_⟩
     rw [← with_new (k := k) (by omega) hq (fun h => by first | exact ⟨hc0, hc1⟩ | exact absurd h (by omega))]
     exact OwT.mono ho7_7 hN
   ·
    try with_reducible replace hs4_4 := of_decide_eq_false hs4_4
    exact absurd hs2_4 hs4_4
 ·
  try with_reducible replace hs2_4 := of_decide_eq_false hs2_4
  refine WL_skip (dd := some 12) rfl rfl rfl ?_
  refine WL_skip (dd := some 13) rfl rfl rfl ?_
  refine WL_skip (dd := some 14) rfl rfl rfl ?_
  refine WL_skip (dd := some 15) rfl rfl rfl ?_
  refine WL_skip (dd := some 16) rfl rfl rfl ?_
  refine WL_skip (dd := some 17) rfl rfl rfl ?_
  refine WL_val (dd := some 18) rfl rfl rfl (r_pick_f rfl (v := .bool false) rfl) ?_
  refine WL_nil ?_
  refine hK14 _ _ ?_
  clear hK14 K13
  refine WC_cond_false rfl ?_
  refine WC_exit ?_
  refine hK6 _ _ ?_
  clear hK12 K11
  clear hJ10 J9
  clear hK6 K5
  refine WC_seq (fun K43 hK44 => ?_)
  refine WC_seq (fun K45 hK46 => ?_)
  refine WC_region ?_
  refine WL_val (dd := some 21) rfl rfl rfl (r_move (v := .int .i64 _) rfl) ?_
  refine WL_val (dd := some 22) rfl rfl rfl (r_move (v := xl) rfl) ?_
  refine WL_val (dd := some 23) rfl rfl rfl (r_lenS (v := xl) rfl (Below.slT hB hl) tb_el22) ?_
  refine WL_val (dd := some 24) rfl rfl rfl (r_lss rfl rfl) ?_
  refine WL_split (dd := some 25) rfl rfl rfl (r_move (v := .bool _) rfl) (fun hs4_4 => ?_) (fun hs4_4 => ?_)
  ·
   try with_reducible replace hs4_4 := of_decide_eq_true hs4_4
   exact absurd hs4_4 hs2_4
  ·
   try with_reducible replace hs4_4 := of_decide_eq_false hs4_4
   refine WL_skip (dd := some 26) rfl rfl rfl ?_
   refine WL_skip (dd := some 27) rfl rfl rfl ?_
   refine WL_skip (dd := some 28) rfl rfl rfl ?_
   refine WL_skip (dd := some 29) rfl rfl rfl ?_
   refine WL_skip (dd := some 30) rfl rfl rfl ?_
   refine WL_skip (dd := some 31) rfl rfl rfl ?_
   refine WL_val (dd := some 32) rfl rfl rfl (r_pick_f rfl (v := .bool false) rfl) ?_
   refine WL_nil ?_
   refine hK46 _ _ ?_
   clear hK46 K45
   refine WC_cond_false rfl ?_
   refine WC_skip ?_
   refine hK44 _ _ ?_
   clear hK44 K43
   refine WC_seq (fun K47 hK48 => ?_)
   refine WC_region ?_
   refine WL_step (dd := some 34) rfl rfl rfl (Y_lit0 tb_el22 (fun b6_0 W49 hb50 hE51 hm6_0 => ?_))
   have lo_b6_0 : w.heap.size ≤ b6_0 := hb50 ▸ (Below.size hB)
   clear hb50
   replace hB := below_ext hB hE51 (Nat.le_refl _)
   clear hE51
   have ho6_0 := own_lit0 (enc := encI) (sz := 1) hm6_0 lo_b6_0
   clear hm6_0
   refine WL_val (dd := some 35) rfl rfl rfl (r_move (v := xl) rfl) ?_
   refine WL_val (dd := some 36) rfl rfl rfl (r_move (v := .int .i64 _) rfl) ?_
   refine WL_val (dd := some 37) rfl rfl rfl (r_sliceHi (v := xl) rfl (Below.slT hB hl) tb_el22 rfl (by omega) (by omega)) ?_
   have hp6_3 : SlT encI 1 w (slOf 1 xl 0 k (slC xl)) ((l.drop 0).take (k - 0)) := SlT.part encI_len hl (by omega) (by omega) (by omega) (by omega)
   refine WL_step (dd := some 38) rfl rfl rfl (Y_append (v := .slice (some ⟨b6_0, 0, none⟩) 0 0) (v2 := slOf 1 xl 0 k (slC xl)) rfl rfl tb_el22 tb_zs3 (by decide) ho6_0 (Below.slT hB hp6_3) (enc_one_encI) (by have := Below.size hB; omega) (by simp; omega) (by simp; omega) (fun v6_4 W52 hG53 ho6_4 => ?_))
   replace ho6_4 := OwT.app (enc := encI) rfl rfl rfl rfl ho6_4
   replace hB := below_grown hB hG53 (Nat.le_refl _) (fun j hj => (OwT.lt ho6_0 j hj))
   clear hG53
   clear ho6_0
   refine WL_val (dd := some 6) rfl rfl rfl (r_assign (v := v6_4) rfl) ?_
   refine WL_nil ?_
   refine hK48 _ _ ?_
   clear hK48 K47
   refine WC_seq (fun K55 hK56 => ?_)
   refine WC_draw (fun a b => Below w.heap.size a b) tb_mix (fun W57 hE58 => ?_)
   replace hB := below_ext hB hE58 (Nat.le_refl _)
   replace ho6_4 := hE58.ow ho6_4
   have hBdW : w.heap.size ≤ W57.heap.size := Nat.le_trans (Nat.le_refl _) (Below.size hB)
   have hS : Below w.heap.size W57 W57 := Below.refl _ _
   refine WT_take (dd := some 39) 0 rfl (by kernel_rfl) (by kernel_rfl) (by kernel_rfl) rfl rfl rfl (fun _wq _hq => r_move (v := v6_4) rfl) hS ?_
   refine WT_take (dd := some 40) 1 rfl (by kernel_rfl) (by kernel_rfl) (by kernel_rfl) rfl rfl rfl (fun _wq _hq => r_move (v := .int .i64 _) rfl) hS ?_
   refine WT_take (dd := some 43) 4 rfl (by kernel_rfl) (by kernel_rfl) (by kernel_rfl) rfl rfl rfl (fun _wq _hq => r_move (v := xl) rfl) hS ?_
   refine WT_take (dd := some 44) 5 rfl (by kernel_rfl) (by kernel_rfl) (by kernel_rfl) rfl rfl rfl (fun _wq _hq => r_move (v := .int .i64 _) rfl) hS ?_
   refine WT_take (dd := some 45) 6 rfl (by kernel_rfl) (by kernel_rfl) (by kernel_rfl) rfl rfl rfl (fun _wq hq => r_sliceLo (v := xl) rfl (Below.slT (Below.trans hB hq) hl) tb_el22 rfl (by omega) (by omega)) hS ?_
   have hp7_6 : SlT encI 1 w (slOf 1 xl k l.length (slC xl)) ((l.drop k).take (l.length - k)) := SlT.part encI_len hl (by omega) (by omega) (by omega) (by omega)
   refine WT_one (dd := some 41) 2 (by kernel_rfl) rfl rfl rfl rfl (Y_lit1 (u := .int .i64 _) rfl tb_el22 tb_zs3 rfl (by decide) (by decide) (fun b7_2 W59 hb60 hE61 hm7_2 => ⟨.inl (below_ext hS hE61 hBdW), ?_⟩))
   have lo_b7_2 : w.heap.size ≤ b7_2 := hb60 ▸ (Below.size hB)
   have no_v6_4_b7_2 := OwT.neB (b := b7_2) ho6_4 (Nat.le_of_eq hb60.symm)
   clear hb60
   have sv62_hB := hB
   have sv62_ho6_4 := ho6_4
   replace hB := below_ext hB hE61 (Nat.le_refl _)
   replace ho6_4 := hE61.ow ho6_4
   replace hS := below_ext hS hE61 hBdW
   clear hE61
   refine WT_one (dd := some 42) 3 (by kernel_rfl) rfl rfl rfl rfl (Y_append (v := v6_4) (v2 := .slice (some ⟨b7_2, 0, none⟩) 1 1) rfl rfl tb_el22 tb_zs3 (by decide) ho6_4 (sl_lit1 hm7_2 rfl) rfl (by have := Below.size hB; omega) (by simp; omega) (by simp; omega) (fun v7_3 W63 hG64 ho7_3 => ⟨.inl (below_grown hS hG64 hBdW (OwT.lt ho6_4)), ?_⟩))
   replace hS := below_grown hS hG64 hBdW (OwT.lt ho6_4)
   replace ho7_3 := OwT.snoc (enc := encI) (x := m) rfl rfl rfl rfl ho7_3
   clear hm7_2
   replace hB := below_grown hB hG64 (Nat.le_refl _) (fun j hj => (OwT.lt ho6_4 j hj))
   clear hG64
   clear ho6_4
   refine WT_one (dd := some 46) 7 (by kernel_rfl) rfl rfl rfl rfl (Y_append (v := v7_3) (v2 := slOf 1 xl k l.length (slC xl)) rfl rfl tb_el22 tb_zs3 (by decide) ho7_3 (Below.slT hB hp7_6) (enc_one_encI) (by have := Below.size hB; omega) (by simp; omega) (by simp; omega) (fun v7_7 W66 hG67 ho7_7 => ⟨.inl (below_grown hS hG67 hBdW (OwT.lt ho7_3)), ?_⟩))
   replace hS := below_grown hS hG67 hBdW (OwT.lt ho7_3)
   replace ho7_7 := OwT.app (enc := encI) rfl rfl rfl rfl ho7_7
   replace hB := below_grown hB hG67 (Nat.le_refl _) (fun j hj => (OwT.lt ho7_3 j hj))
   clear hG67
   clear ho7_3
   refine WT_take (dd := some 4) 8 rfl (by kernel_rfl) (by kernel_rfl) (by kernel_rfl) rfl rfl rfl (fun _wq _hq => r_assign (v := v7_7) rfl) hS ?_
   refine WT_done (by kernel_rfl) ?_
   try clear sv62_hB
   refine hK56 _ _ ?_
   clear hK56 K55
   refine WC_ret ?_
   repeat (first | refine thenQ_ret ?_ | refine blockQ_ret ?_)
   refine ret_t (v := v7_7) rfl ?_
   refine ⟨hB, ?_⟩
   rw [← with_new (k := k) (by omega) hq (fun h => absurd h (by omega))]
   exact OwT.mono ho7_7 hN

end Go.Proofs.Ytpamgfbecgjjeaa
