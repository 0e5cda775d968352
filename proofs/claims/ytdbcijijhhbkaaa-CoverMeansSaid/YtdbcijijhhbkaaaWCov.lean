/-
  The walks of what rows cover, and of the document's rows, primes and growing.
-/
import Derived.Test.YtdbcijijhhbkaaaProg
import Derived.Test.YtdbcijijhhbkaaaWMulti
import Derived.Test.YtdbcijijhhbkaaaCov
namespace Go.Proofs.Ytdbcijijhhbkaaa
set_option linter.unusedVariables false
set_option linter.unusedSimpArgs false
open Go Go.RowKit

theorem tb_el65 : elemI Try.prog 65 = some (79, 3, 3) := by kernel_rfl
theorem tb_z79 : zeroI Try.prog 79 = some (.agg #[.int .u8 0, .int .u8 0, .int .u8 0]) := by kernel_rfl
theorem tb_c29 : callB Try.prog 29 = true := by kernel_rfl
theorem tb_c30 : callB Try.prog 30 = true := by kernel_rfl
theorem tb_ag64 : aggN Try.prog 64 = some 3 := by kernel_rfl
theorem tb_c105 : callB Try.prog 105 = true := by kernel_rfl
theorem tb_c123 : callB Try.prog 123 = true := by kernel_rfl
theorem tb_c124 : callB Try.prog 124 = true := by kernel_rfl
theorem tb_c111 : callB Try.prog 111 = true := by kernel_rfl
theorem tb_c125 : callB Try.prog 125 = true := by kernel_rfl
theorem tb_c126 : callB Try.prog 126 = true := by kernel_rfl

theorem C_spec_may (S : Sp) (onV mayV : Value) (xa : Value) (l : List Rw) (w : World) (hon : SlT encS 4 w onV S.on) (hmay : SlT encS 4 w mayV S.may) (hl : SlT encR 3 w xa l) (hlb : l.length ≤ 2000000) (hlr : RowB l) (h4 : S.on.length ≤ 20) :
    Fn Try.prog 123 #[.agg #[.int .i64 S.n, onV, mayV], xa] w fun v w' => v = .bool (mayL S l) := by
 refine Fn_intro (n := 35) Try.func123 rfl rfl (Nat.le_of_ble_eq_true rfl) ?_
 have hB : Below w.heap.size w w := Below.refl _ _
 refine WC_seq (fun K1 hK2 => ?_)
 refine WC_region ?_
 refine WL_step (dd := some 2) rfl rfl rfl (Y_box (c := #[_, _, _]) rfl rfl (fun b0_0 W3 hb4 hE5 hm0_0 => ?_))
 have lo_b0_0 : w.heap.size ≤ b0_0 := hb4 ▸ (Below.size hB)
 clear hb4
 replace hB := below_ext hB hE5 (Nat.le_refl _)
 clear hE5
 refine WL_val (dd := some 4) rfl rfl rfl (r_assign (v := .bool false) rfl) ?_
 refine WL_nil ?_
 refine hK2 _ _ ?_
 clear hK2 K1
 refine WC_seq (fun K6 hK7 => ?_)
 refine WC_seq (fun K8 hK9 => ?_)
 refine WC_region ?_
 refine WL_val (dd := some 7) rfl rfl rfl (r_move (v := xa) rfl) ?_
 refine WL_val (dd := some 8) rfl rfl rfl (r_lenS (v := xa) rfl (Below.slT hB hl) tb_el65) ?_
 refine WL_val (dd := some 9) rfl rfl rfl (r_move (v := .int .i64 0) rfl) ?_
 refine WL_nil ?_
 refine hK9 _ _ ?_
 clear hK9 K8
 refine WC_block ?_
 refine WC_loop (σ := (Nat)) [4, 6, 9, 10, 11, 12, 13, 14, 15, 16, 17, 18, 19, 20, 21, 22, 23, 24, 25, 26, 27, 28, 29, 30, 31, 32, 33, 34] (fun k => [(9, .int .i64 (k : Int))]) (fun k W => (Below w.heap.size w W) ∧ (At W b0_0 _ 64) ∧ (k ≤ l.length) ∧ (∀ q, q < k → okR S (l.getD q ⟨⟨0, 0⟩, 0⟩) = true) ∧ (True)) (fun k => l.length - k) (0) ⟨rfl, trivial⟩ ⟨hB, hm0_0, (Nat.zero_le _), upTo_zero, trivial⟩ ?_
 clear hB hm0_0
 rintro k g11 W10 ⟨hB, hm0_0, hk, hq, _⟩ J12 hJ13
 refine WC_seq (fun K14 hK15 => ?_)
 refine WC_region ?_
 refine WL_val (dd := some 10) rfl rfl rfl (r_lss rfl rfl) ?_
 refine WL_nil ?_
 refine hK15 _ _ ?_
 clear hK15 K14
 refine WC_seq (fun K16 hK17 => ?_)
 refine WC_cond (b := _) rfl (fun hc0 => ?_) (fun hc0 => ?_)
 ·
  try with_reducible replace hc0 := of_decide_eq_true hc0
  refine WC_skip ?_
  refine hK17 _ _ ?_
  clear hK17 K16
  refine WC_seq (fun K18 hK19 => ?_)
  refine WC_block ?_
  refine WC_seq (fun K20 hK21 => ?_)
  obtain ⟨hb1, hb2, hb3⟩ := hlr.get (k := k) (by omega)
  refine WC_region ?_
  refine WL_val (dd := some 11) rfl rfl rfl (r_idxS (v := xa) rfl (Below.slT hB hl) rfl tb_el65 (by omega) (by first | omega | (simp only [flagsTo_len, litsTo_len, firstF_len, ptF_len, setF_len]; omega))) ?_
  refine WL_val (dd := some 12) rfl rfl rfl (r_load3 rfl tb_ag79 (SlT.cell (Below.slT hB hl) encR_len ⟨⟨0, 0⟩, 0⟩ (by omega) (by first | omega | (simp only [flagsTo_len, litsTo_len, firstF_len, ptF_len, setF_len]; omega)) 0 rfl) (SlT.cell (Below.slT hB hl) encR_len ⟨⟨0, 0⟩, 0⟩ (by omega) (by first | omega | (simp only [flagsTo_len, litsTo_len, firstF_len, ptF_len, setF_len]; omega)) 1 rfl) (SlT.cell (Below.slT hB hl) encR_len ⟨⟨0, 0⟩, 0⟩ (by omega) (by first | omega | (simp only [flagsTo_len, litsTo_len, firstF_len, ptF_len, setF_len]; omega)) 2 rfl)) ?_
  refine WL_step (dd := some 6) rfl rfl rfl (Y_alloc tb_z79 rfl (fun b3_2 W22 hb23 hE24 hm3_2 => ?_))
  have lo_b3_2 : w.heap.size ≤ b3_2 := hb23 ▸ (Below.size hB)
  clear hb23
  replace hB := below_ext hB hE24 (Nat.le_refl _)
  replace hm0_0 := hE24.at hm0_0
  clear hE24
  refine WL_step (dd := none) rfl rfl rfl (Y_storeW rfl rfl tb_ag79 rfl hm3_2 rfl (by rfl) (fun W25 hG26 hm27 => ?_))
  replace hB := below_grown hB hG26 (Nat.le_refl _) (fun j hj => by cases hj; exact lo_b3_2)
  replace hm0_0 := At.grownAt hm0_0 hm3_2 hG26 (by decide)
  clear hG26 hm3_2
  have hm3_2 := hm27
  clear hm27
  refine WL_nil ?_
  refine hK21 _ _ ?_
  clear hK21 K20
  refine WC_seq (fun K28 hK29 => ?_)
  refine WC_draw Ext tb_mix (fun W30 hE31 => ?_)
  replace hB := below_ext hB hE31 (Nat.le_refl _)
  replace hm0_0 := hE31.at hm0_0
  replace hm3_2 := hE31.at hm3_2
  have hS := Ext.refl W30
  refine WT_take (dd := some 13) 0 rfl (by kernel_rfl) (by kernel_rfl) (by kernel_rfl) rfl rfl rfl (fun _wq _hq => r_fieldAddr (b := _) (o := _) rfl tb_fo79_0) hS ?_
  refine WT_take (dd := some 14) 1 rfl (by kernel_rfl) (by kernel_rfl) (by kernel_rfl) rfl rfl rfl (fun _wq hq => r_load2 rfl tb_ag34 (At.cell (hq.at hm3_2) rfl) (At.cell (hq.at hm3_2) rfl)) hS ?_
  refine WT_take (dd := some 15) 2 rfl (by kernel_rfl) (by kernel_rfl) (by kernel_rfl) rfl rfl rfl (fun _wq _hq => r_fieldAddr (b := _) (o := _) rfl tb_fo64_0) hS ?_
  refine WT_take (dd := some 16) 3 rfl (by kernel_rfl) (by kernel_rfl) (by kernel_rfl) rfl rfl rfl (fun _wq hq => r_load1 (v := .int .i64 _) rfl tb_sc3 (At.cell (hq.at hm0_0) rfl)) hS ?_
  refine WT_one (dd := some 17) 4 (by kernel_rfl) rfl rfl rfl rfl (Yd.call (r_call2 tb_c88 (v0 := .agg #[_, _]) rfl (v1 := .int .i64 _) rfl) (C_cube_Right _ _ _ _ hb1 hb2) (fun v4_4 W32 hE33 hP4_4 => ⟨.inl (hS.trans hE33), ?_⟩))
  have hsz34 := (Below.size hB)
  have sv35_hB := hB
  have sv35_hm0_0 := hm0_0
  have sv35_hm3_2 := hm3_2
  replace hB := below_ext hB hE33 (Nat.le_refl _)
  replace hm0_0 := hE33.at hm0_0
  replace hm3_2 := hE33.at hm3_2
  replace hS := hS.trans hE33
  clear hE33
  clear hsz34
  obtain rfl := hP4_4
  refine WT_take (dd := some 18) 5 rfl (by kernel_rfl) (by kernel_rfl) (by kernel_rfl) rfl rfl rfl (fun _wq _hq => r_not rfl) hS ?_
  refine WT_split (dd := some 19) 6 rfl (by kernel_rfl) (by kernel_rfl) (by kernel_rfl) rfl rfl rfl (fun wq hq => r_move (v := .bool _) rfl) hS (fun hs4_6 => ?_) (fun hs4_6 => ?_)
  ·
   try with_reducible replace hs4_6 := of_decide_eq_true hs4_6
   refine WT_pass (dd := some 20) 7 rfl (by kernel_rfl) (by kernel_rfl) (by kernel_rfl) rfl rfl rfl hS ?_
   refine WT_pass (dd := some 21) 8 rfl (by kernel_rfl) (by kernel_rfl) (by kernel_rfl) rfl rfl rfl hS ?_
   refine WT_pass (dd := some 22) 9 rfl (by kernel_rfl) (by kernel_rfl) (by kernel_rfl) rfl rfl rfl hS ?_
   refine WT_take (dd := some 23) 10 rfl (by kernel_rfl) (by kernel_rfl) (by kernel_rfl) rfl rfl rfl (fun _wq _hq => r_pick_t rfl (v := .bool true) rfl) hS ?_
   refine WT_take (dd := some 24) 11 rfl (by kernel_rfl) (by kernel_rfl) (by kernel_rfl) rfl rfl rfl (fun _wq _hq => r_move (v := .bool true) rfl) hS ?_
   refine WT_pass (dd := some 25) 12 rfl (by kernel_rfl) (by kernel_rfl) (by kernel_rfl) rfl rfl rfl hS ?_
   refine WT_pass (dd := some 26) 13 rfl (by kernel_rfl) (by kernel_rfl) (by kernel_rfl) rfl rfl rfl hS ?_
   refine WT_pass (dd := some 27) 14 rfl (by kernel_rfl) (by kernel_rfl) (by kernel_rfl) rfl rfl rfl hS ?_
   refine WT_pass (dd := some 28) 15 rfl (by kernel_rfl) (by kernel_rfl) (by kernel_rfl) rfl rfl rfl hS ?_
   refine WT_pass (dd := some 29) 16 rfl (by kernel_rfl) (by kernel_rfl) (by kernel_rfl) rfl rfl rfl hS ?_
   refine WT_pass (dd := some 30) 17 rfl (by kernel_rfl) (by kernel_rfl) (by kernel_rfl) rfl rfl rfl hS ?_
   refine WT_pass (dd := some 31) 18 rfl (by kernel_rfl) (by kernel_rfl) (by kernel_rfl) rfl rfl rfl hS ?_
   refine WT_pass (dd := some 32) 19 rfl (by kernel_rfl) (by kernel_rfl) (by kernel_rfl) rfl rfl rfl hS ?_
   refine WT_take (dd := some 33) 20 rfl (by kernel_rfl) (by kernel_rfl) (by kernel_rfl) rfl rfl rfl (fun _wq _hq => r_pick_t rfl (v := .bool true) rfl) hS ?_
   refine WT_done (by kernel_rfl) ?_
   try clear sv35_hB sv35_hm0_0 sv35_hm3_2
   refine hK29 _ _ ?_
   clear hK29 K28
   refine WC_cond_true rfl ?_
   refine WC_seq (fun K36 hK37 => ?_)
   refine WC_region ?_
   refine WL_val (dd := some 4) rfl rfl rfl (r_assign (v := .bool false) rfl) ?_
   refine WL_nil ?_
   refine hK37 _ _ ?_
   clear hK37 K36
   refine WC_ret ?_
   repeat (first | refine thenQ_ret ?_ | refine blockQ_ret ?_)
   try clear hK19 K18
   try clear hJ13 J12
   try clear hK7 K6
   refine ret_t (v := .bool false) rfl ?_
   refine ⟨hB, ?_⟩
   exact may_f (k := k) (by omega) (okR_1 hs4_6)
  ·
   try with_reducible replace hs4_6 := of_decide_eq_false hs4_6
   refine WT_take (dd := some 20) 7 rfl (by kernel_rfl) (by kernel_rfl) (by kernel_rfl) rfl rfl rfl (fun _wq _hq => r_fieldAddr (b := _) (o := _) rfl tb_fo79_1) hS ?_
   refine WT_take (dd := some 21) 8 rfl (by kernel_rfl) (by kernel_rfl) (by kernel_rfl) rfl rfl rfl (fun _wq hq => r_load1 (v := .int .u8 _) rfl tb_sc5 (At.cell (hq.at sv35_hm3_2) rfl)) hS ?_
   refine WT_take (dd := some 22) 9 rfl (by kernel_rfl) (by kernel_rfl) (by kernel_rfl) rfl rfl rfl (fun _wq _hq => r_eql rfl rfl) hS ?_
   refine WT_take (dd := some 23) 10 rfl (by kernel_rfl) (by kernel_rfl) (by kernel_rfl) rfl rfl rfl (fun _wq _hq => r_pick_f rfl (v := .bool _) rfl) hS ?_
   refine WT_split (dd := some 24) 11 rfl (by kernel_rfl) (by kernel_rfl) (by kernel_rfl) rfl rfl rfl (fun wq hq => r_move (v := .bool _) rfl) hS (fun hs4_11 => ?_) (fun hs4_11 => ?_)
   ·
    try with_reducible replace hs4_11 := of_decide_eq_true hs4_11
    refine WT_pass (dd := some 25) 12 rfl (by kernel_rfl) (by kernel_rfl) (by kernel_rfl) rfl rfl rfl hS ?_
    refine WT_pass (dd := some 26) 13 rfl (by kernel_rfl) (by kernel_rfl) (by kernel_rfl) rfl rfl rfl hS ?_
    refine WT_pass (dd := some 27) 14 rfl (by kernel_rfl) (by kernel_rfl) (by kernel_rfl) rfl rfl rfl hS ?_
    refine WT_pass (dd := some 28) 15 rfl (by kernel_rfl) (by kernel_rfl) (by kernel_rfl) rfl rfl rfl hS ?_
    refine WT_pass (dd := some 29) 16 rfl (by kernel_rfl) (by kernel_rfl) (by kernel_rfl) rfl rfl rfl hS ?_
    refine WT_pass (dd := some 30) 17 rfl (by kernel_rfl) (by kernel_rfl) (by kernel_rfl) rfl rfl rfl hS ?_
    refine WT_pass (dd := some 31) 18 rfl (by kernel_rfl) (by kernel_rfl) (by kernel_rfl) rfl rfl rfl hS ?_
    refine WT_pass (dd := some 32) 19 rfl (by kernel_rfl) (by kernel_rfl) (by kernel_rfl) rfl rfl rfl hS ?_
    refine WT_take (dd := some 33) 20 rfl (by kernel_rfl) (by kernel_rfl) (by kernel_rfl) rfl rfl rfl (fun _wq _hq => r_pick_t rfl (v := .bool true) rfl) hS ?_
    refine WT_done (by kernel_rfl) ?_
    try clear sv35_hB sv35_hm0_0 sv35_hm3_2
    refine hK29 _ _ ?_
    clear hK29 K28
    refine WC_cond_true rfl ?_
    refine WC_seq (fun K38 hK39 => ?_)
    refine WC_region ?_
    refine WL_val (dd := some 4) rfl rfl rfl (r_assign (v := .bool false) rfl) ?_
    refine WL_nil ?_
    refine hK39 _ _ ?_
    clear hK39 K38
    refine WC_ret ?_
    repeat (first | refine thenQ_ret ?_ | refine blockQ_ret ?_)
    try clear hK19 K18
    try clear hJ13 J12
    try clear hK7 K6
    refine ret_t (v := .bool false) rfl ?_
    refine ⟨hB, ?_⟩
    exact may_f (k := k) (by omega) (okR_2 hs4_11)
   ·
    try with_reducible replace hs4_11 := of_decide_eq_false hs4_11
    refine WT_take (dd := some 25) 12 rfl (by kernel_rfl) (by kernel_rfl) (by kernel_rfl) rfl rfl rfl (fun _wq _hq => r_fieldAddr (b := _) (o := _) rfl tb_fo79_1) hS ?_
    refine WT_take (dd := some 26) 13 rfl (by kernel_rfl) (by kernel_rfl) (by kernel_rfl) rfl rfl rfl (fun _wq hq => r_load1 (v := .int .u8 _) rfl tb_sc5 (At.cell (hq.at sv35_hm3_2) rfl)) hS ?_
    refine WT_take (dd := some 27) 14 rfl (by kernel_rfl) (by kernel_rfl) (by kernel_rfl) rfl rfl rfl (fun _wq _hq => r_convN rfl Try.underlying5 Try.underlying3 (by show (l.getD k ⟨⟨0, 0⟩, 0⟩).o < 9223372036854775808; omega)) hS ?_
    refine WT_take (dd := some 28) 15 rfl (by kernel_rfl) (by kernel_rfl) (by kernel_rfl) rfl rfl rfl (fun _wq _hq => r_fieldAddr (b := _) (o := _) rfl tb_fo64_1) hS ?_
    refine WT_take (dd := some 29) 16 rfl (by kernel_rfl) (by kernel_rfl) (by kernel_rfl) rfl rfl rfl (fun _wq hq => r_load1 (v := onV) rfl tb_sc62 (At.cell (hq.at sv35_hm0_0) rfl)) hS ?_
    refine WT_take (dd := some 30) 17 rfl (by kernel_rfl) (by kernel_rfl) (by kernel_rfl) rfl rfl rfl (fun _wq hq => r_lenS (v := onV) rfl (hq.slT (Below.slT sv35_hB hon)) tb_el62) hS ?_
    refine WT_take (dd := some 31) 18 rfl (by kernel_rfl) (by kernel_rfl) (by kernel_rfl) rfl rfl rfl (fun _wq _hq => r_shl (m := 1) rfl rfl (by omega) (by simp only [IntKind.bits]; omega) (by exact shl1 _ _ (by simp only [bitsN]; omega))) hS ?_
    refine WT_take (dd := some 32) 19 rfl (by kernel_rfl) (by kernel_rfl) (by kernel_rfl) rfl rfl rfl (fun _wq _hq => r_geq rfl rfl) hS ?_
    refine WT_take (dd := some 33) 20 rfl (by kernel_rfl) (by kernel_rfl) (by kernel_rfl) rfl rfl rfl (fun _wq _hq => r_pick_f rfl (v := .bool _) rfl) hS ?_
    refine WT_done (by kernel_rfl) ?_
    try clear sv35_hB sv35_hm0_0 sv35_hm3_2
    refine hK29 _ _ ?_
    clear hK29 K28
    refine WC_cond (b := _) rfl (fun hc1 => ?_) (fun hc1 => ?_)
    ·
     try with_reducible replace hc1 := of_decide_eq_true hc1
     refine WC_seq (fun K40 hK41 => ?_)
     refine WC_region ?_
     refine WL_val (dd := some 4) rfl rfl rfl (r_assign (v := .bool false) rfl) ?_
     refine WL_nil ?_
     refine hK41 _ _ ?_
     clear hK41 K40
     refine WC_ret ?_
     repeat (first | refine thenQ_ret ?_ | refine blockQ_ret ?_)
     try clear hK19 K18
     try clear hJ13 J12
     try clear hK7 K6
     refine ret_t (v := .bool false) rfl ?_
     refine ⟨hB, ?_⟩
     exact may_f (k := k) (by omega) (okR_3 hc1)
    ·
     try with_reducible replace hc1 := of_decide_eq_false hc1
     refine WC_skip ?_
     refine hK19 _ _ ?_
     clear hK19 K18
     refine WC_region ?_
     refine WL_val (dd := some 34) rfl rfl rfl (r_addI rfl rfl (by omega) (by omega)) ?_
     refine WL_val (dd := some 9) rfl rfl rfl (r_move (v := .int .i64 _) rfl) ?_
     refine WL_nil ?_
     refine hJ13 _ _ (k + 1) ?_ ?_ ?_ ?_
     · repeat (first | exact agree.mask _ _ _ | refine agree.updo ?_ rfl _ | refine agree.updL ?_ _ rfl | refine agree.maskS rfl ?_)
     · exact ⟨rfl, trivial⟩
     · exact ⟨hB, hm0_0, (by omega), (upTo_succ hq (okR_t (x := (l.getD k ⟨⟨0, 0⟩, 0⟩)) hs4_6 hs4_11 hc1)), trivial⟩
     · first | omega | (dsimp only; omega)
 ·
  try with_reducible replace hc0 := of_decide_eq_false hc0
  refine WC_exit ?_
  refine hK7 _ _ ?_
  clear hK17 K16
  clear hJ13 J12
  clear hK7 K6
  refine WC_seq (fun K42 hK43 => ?_)
  refine WC_region ?_
  refine WL_val (dd := some 4) rfl rfl rfl (r_assign (v := .bool true) rfl) ?_
  refine WL_nil ?_
  refine hK43 _ _ ?_
  clear hK43 K42
  refine WC_ret ?_
  repeat (first | refine thenQ_ret ?_ | refine blockQ_ret ?_)
  refine ret_t (v := .bool true) rfl ?_
  refine ⟨hB, ?_⟩
  obtain rfl : k = l.length := by omega
  exact vb_t (mayL_iff.2 hq)

theorem C_spec_Points (xa : Value) (l : List Rw) (n out : Int) (w : World) (hl : SlT encR 3 w xa l) (hlb : l.length ≤ 2000000) (hlr : RowB l) :
    Fn Try.prog 124 #[xa, .int .i64 n, .int .i64 out] w fun v w' => v = if ptOk l n out = true then .tuple #[setV (ptsR l n.toNat out.toNat l.length), .int .i64 0] else .tuple #[setV 0, .int .i64 1] := by
 refine Fn_intro (n := 56) Try.func124 rfl rfl (Nat.le_of_ble_eq_true rfl) ?_
 have hB : Below w.heap.size w w := Below.refl _ _
 refine WC_seq (fun K1 hK2 => ?_)
 refine WC_region ?_
 refine WL_step (dd := some 6) rfl rfl rfl (Y_alloc tb_z24 rfl (fun b0_0 W3 hb4 hE5 hm0_0 => ?_))
 have lo_b0_0 : w.heap.size ≤ b0_0 := hb4 ▸ (Below.size hB)
 clear hb4
 replace hB := below_ext hB hE5 (Nat.le_refl _)
 clear hE5
 replace hm0_0 : At W3 b0_0 #[wv 0 0, wv 0 1, wv 0 2, wv 0 3] 24 := hm0_0
 refine WL_val (dd := some 7) rfl rfl rfl (r_assign (v := .int .i64 0) rfl) ?_
 refine WL_nil ?_
 refine hK2 _ _ ?_
 clear hK2 K1
 refine WC_seq (fun K6 hK7 => ?_)
 refine WC_seq (fun K8 hK9 => ?_)
 refine WC_region ?_
 refine WL_val (dd := some 13) rfl rfl rfl (r_move (v := .int .i64 _) rfl) ?_
 refine WL_val (dd := some 14) rfl rfl rfl (r_lss rfl rfl) ?_
 refine WL_split (dd := some 15) rfl rfl rfl (r_move (v := .bool _) rfl) (fun hs1_2 => ?_) (fun hs1_2 => ?_)
 ·
  try with_reducible replace hs1_2 := of_decide_eq_true hs1_2
  refine WL_skip (dd := some 16) rfl rfl rfl ?_
  refine WL_skip (dd := some 17) rfl rfl rfl ?_
  refine WL_val (dd := some 18) rfl rfl rfl (r_pick_t rfl (v := .bool true) rfl) ?_
  refine WL_val (dd := some 19) rfl rfl rfl (r_move (v := .bool true) rfl) ?_
  refine WL_skip (dd := some 20) rfl rfl rfl ?_
  refine WL_skip (dd := some 21) rfl rfl rfl ?_
  refine WL_val (dd := some 22) rfl rfl rfl (r_pick_t rfl (v := .bool true) rfl) ?_
  refine WL_val (dd := some 23) rfl rfl rfl (r_move (v := .bool true) rfl) ?_
  refine WL_skip (dd := some 24) rfl rfl rfl ?_
  refine WL_skip (dd := some 25) rfl rfl rfl ?_
  refine WL_val (dd := some 26) rfl rfl rfl (r_pick_t rfl (v := .bool true) rfl) ?_
  refine WL_nil ?_
  refine hK9 _ _ ?_
  clear hK9 K8
  refine WC_cond_true rfl ?_
  refine WC_seq (fun K10 hK11 => ?_)
  refine WC_region ?_
  refine WL_val (dd := some 27) (v := setV 0) rfl rfl rfl (tb_build24_ ) ?_
  refine WL_step (dd := none) rfl rfl rfl (Y_storeW rfl rfl tb_ag24 rfl hm0_0 rfl (by rfl) (fun W12 hG13 hm14 => ?_))
  replace hB := below_grown hB hG13 (Nat.le_refl _) (fun j hj => by cases hj; exact lo_b0_0)
  clear hG13 hm0_0
  have hm0_0 := hm14
  clear hm14
  refine WL_val (dd := some 7) rfl rfl rfl (r_assign (v := .int .i64 1) rfl) ?_
  refine WL_nil ?_
  refine hK11 _ _ ?_
  clear hK11 K10
  refine WC_ret ?_
  repeat (first | refine thenQ_ret ?_ | refine blockQ_ret ?_)
  try clear hK7 K6
  refine ret_ct rfl tb_ag24 hm0_0 rfl (v1 := .int .i64 1) rfl ?_
  refine ⟨hB, ?_⟩
  rw [if_neg (ptOk_no (by omega))]
 ·
  try with_reducible replace hs1_2 := of_decide_eq_false hs1_2
  refine WL_val (dd := some 16) rfl rfl rfl (r_move (v := .int .i64 _) rfl) ?_
  refine WL_val (dd := some 17) rfl rfl rfl (r_gtr rfl rfl) ?_
  refine WL_val (dd := some 18) rfl rfl rfl (r_pick_f rfl (v := .bool _) rfl) ?_
  refine WL_split (dd := some 19) rfl rfl rfl (r_move (v := .bool _) rfl) (fun hs1_6 => ?_) (fun hs1_6 => ?_)
  ·
   try with_reducible replace hs1_6 := of_decide_eq_true hs1_6
   refine WL_skip (dd := some 20) rfl rfl rfl ?_
   refine WL_skip (dd := some 21) rfl rfl rfl ?_
   refine WL_val (dd := some 22) rfl rfl rfl (r_pick_t rfl (v := .bool true) rfl) ?_
   refine WL_val (dd := some 23) rfl rfl rfl (r_move (v := .bool true) rfl) ?_
   refine WL_skip (dd := some 24) rfl rfl rfl ?_
   refine WL_skip (dd := some 25) rfl rfl rfl ?_
   refine WL_val (dd := some 26) rfl rfl rfl (r_pick_t rfl (v := .bool true) rfl) ?_
   refine WL_nil ?_
   refine hK9 _ _ ?_
   clear hK9 K8
   refine WC_cond_true rfl ?_
   refine WC_seq (fun K15 hK16 => ?_)
   refine WC_region ?_
   refine WL_val (dd := some 27) (v := setV 0) rfl rfl rfl (tb_build24_ ) ?_
   refine WL_step (dd := none) rfl rfl rfl (Y_storeW rfl rfl tb_ag24 rfl hm0_0 rfl (by rfl) (fun W17 hG18 hm19 => ?_))
   replace hB := below_grown hB hG18 (Nat.le_refl _) (fun j hj => by cases hj; exact lo_b0_0)
   clear hG18 hm0_0
   have hm0_0 := hm19
   clear hm19
   refine WL_val (dd := some 7) rfl rfl rfl (r_assign (v := .int .i64 1) rfl) ?_
   refine WL_nil ?_
   refine hK16 _ _ ?_
   clear hK16 K15
   refine WC_ret ?_
   repeat (first | refine thenQ_ret ?_ | refine blockQ_ret ?_)
   try clear hK7 K6
   refine ret_ct rfl tb_ag24 hm0_0 rfl (v1 := .int .i64 1) rfl ?_
   refine ⟨hB, ?_⟩
   rw [if_neg (ptOk_no (by omega))]
  ·
   try with_reducible replace hs1_6 := of_decide_eq_false hs1_6
   refine WL_val (dd := some 20) rfl rfl rfl (r_move (v := .int .i64 _) rfl) ?_
   refine WL_val (dd := some 21) rfl rfl rfl (r_lss rfl rfl) ?_
   refine WL_val (dd := some 22) rfl rfl rfl (r_pick_f rfl (v := .bool _) rfl) ?_
   refine WL_split (dd := some 23) rfl rfl rfl (r_move (v := .bool _) rfl) (fun hs1_10 => ?_) (fun hs1_10 => ?_)
   ·
    try with_reducible replace hs1_10 := of_decide_eq_true hs1_10
    refine WL_skip (dd := some 24) rfl rfl rfl ?_
    refine WL_skip (dd := some 25) rfl rfl rfl ?_
    refine WL_val (dd := some 26) rfl rfl rfl (r_pick_t rfl (v := .bool true) rfl) ?_
    refine WL_nil ?_
    refine hK9 _ _ ?_
    clear hK9 K8
    refine WC_cond_true rfl ?_
    refine WC_seq (fun K20 hK21 => ?_)
    refine WC_region ?_
    refine WL_val (dd := some 27) (v := setV 0) rfl rfl rfl (tb_build24_ ) ?_
    refine WL_step (dd := none) rfl rfl rfl (Y_storeW rfl rfl tb_ag24 rfl hm0_0 rfl (by rfl) (fun W22 hG23 hm24 => ?_))
    replace hB := below_grown hB hG23 (Nat.le_refl _) (fun j hj => by cases hj; exact lo_b0_0)
    clear hG23 hm0_0
    have hm0_0 := hm24
    clear hm24
    refine WL_val (dd := some 7) rfl rfl rfl (r_assign (v := .int .i64 1) rfl) ?_
    refine WL_nil ?_
    refine hK21 _ _ ?_
    clear hK21 K20
    refine WC_ret ?_
    repeat (first | refine thenQ_ret ?_ | refine blockQ_ret ?_)
    try clear hK7 K6
    refine ret_ct rfl tb_ag24 hm0_0 rfl (v1 := .int .i64 1) rfl ?_
    refine ⟨hB, ?_⟩
    rw [if_neg (ptOk_no (by omega))]
   ·
    try with_reducible replace hs1_10 := of_decide_eq_false hs1_10
    refine WL_val (dd := some 24) rfl rfl rfl (r_move (v := .int .i64 _) rfl) ?_
    refine WL_val (dd := some 25) rfl rfl rfl (r_geq rfl rfl) ?_
    refine WL_val (dd := some 26) rfl rfl rfl (r_pick_f rfl (v := .bool _) rfl) ?_
    refine WL_nil ?_
    refine hK9 _ _ ?_
    clear hK9 K8
    refine WC_cond (b := _) rfl (fun hc0 => ?_) (fun hc0 => ?_)
    ·
     try with_reducible replace hc0 := of_decide_eq_true hc0
     refine WC_seq (fun K25 hK26 => ?_)
     refine WC_region ?_
     refine WL_val (dd := some 27) (v := setV 0) rfl rfl rfl (tb_build24_ ) ?_
     refine WL_step (dd := none) rfl rfl rfl (Y_storeW rfl rfl tb_ag24 rfl hm0_0 rfl (by rfl) (fun W27 hG28 hm29 => ?_))
     replace hB := below_grown hB hG28 (Nat.le_refl _) (fun j hj => by cases hj; exact lo_b0_0)
     clear hG28 hm0_0
     have hm0_0 := hm29
     clear hm29
     refine WL_val (dd := some 7) rfl rfl rfl (r_assign (v := .int .i64 1) rfl) ?_
     refine WL_nil ?_
     refine hK26 _ _ ?_
     clear hK26 K25
     refine WC_ret ?_
     repeat (first | refine thenQ_ret ?_ | refine blockQ_ret ?_)
     try clear hK7 K6
     refine ret_ct rfl tb_ag24 hm0_0 rfl (v1 := .int .i64 1) rfl ?_
     refine ⟨hB, ?_⟩
     rw [if_neg (ptOk_no (by omega))]
    ·
     try with_reducible replace hc0 := of_decide_eq_false hc0
     refine WC_skip ?_
     refine hK7 _ _ ?_
     clear hK7 K6
     refine WC_seq (fun K30 hK31 => ?_)
     refine WC_region ?_
     refine WL_step (dd := some 8) rfl rfl rfl (Y_alloc tb_z24 rfl (fun b3_0 W32 hb33 hE34 hm3_0 => ?_))
     have lo_b3_0 : w.heap.size ≤ b3_0 := hb33 ▸ (Below.size hB)
     have ne_b0_0_b3_0 : b0_0 ≠ b3_0 := Nat.ne_of_lt (hb33 ▸ hm0_0.lt)
     clear hb33
     replace hB := below_ext hB hE34 (Nat.le_refl _)
     replace hm0_0 := hE34.at hm0_0
     clear hE34
     replace hm3_0 : At W32 b3_0 #[wv 0 0, wv 0 1, wv 0 2, wv 0 3] 24 := hm3_0
     refine WL_nil ?_
     refine hK31 _ _ ?_
     clear hK31 K30
     refine WC_seq (fun K35 hK36 => ?_)
     refine WC_seq (fun K37 hK38 => ?_)
     refine WC_region ?_
     refine WL_val (dd := some 28) rfl rfl rfl (r_move (v := xa) rfl) ?_
     refine WL_val (dd := some 29) rfl rfl rfl (r_lenS (v := xa) rfl (Below.slT hB hl) tb_el65) ?_
     refine WL_val (dd := some 30) rfl rfl rfl (r_move (v := .int .i64 0) rfl) ?_
     refine WL_nil ?_
     refine hK38 _ _ ?_
     clear hK38 K37
     refine WC_block ?_
     refine WC_loop (σ := (Nat)) [7, 10, 11, 12, 30, 31, 32, 33, 34, 35, 36, 37, 38, 39, 40, 41, 42, 43, 44, 45, 46, 47, 48, 49, 50, 51, 52, 53, 54] (fun k => [(30, .int .i64 (k : Int))]) (fun k W => (Below w.heap.size w W) ∧ (At W b0_0 _ 24) ∧ (At W b3_0 #[wv (ptsR l n.toNat out.toNat k) 0, wv (ptsR l n.toNat out.toNat k) 1, wv (ptsR l n.toNat out.toNat k) 2, wv (ptsR l n.toNat out.toNat k) 3] 24) ∧ (k ≤ l.length) ∧ (∀ q, q < k → rightB (l.getD q ⟨⟨0, 0⟩, 0⟩).c.m (l.getD q ⟨⟨0, 0⟩, 0⟩).c.v n = true) ∧ (True)) (fun k => l.length - k) (0) ⟨rfl, trivial⟩ ⟨hB, hm0_0, hm3_0, (Nat.zero_le _), upTo_zero, trivial⟩ ?_
     clear hB hm0_0 hm3_0
     rintro k g40 W39 ⟨hB, hm0_0, hm3_0, hk, hq, _⟩ J41 hJ42
     refine WC_seq (fun K43 hK44 => ?_)
     refine WC_region ?_
     refine WL_val (dd := some 31) rfl rfl rfl (r_lss rfl rfl) ?_
     refine WL_nil ?_
     refine hK44 _ _ ?_
     clear hK44 K43
     refine WC_seq (fun K45 hK46 => ?_)
     refine WC_cond (b := _) rfl (fun hc1 => ?_) (fun hc1 => ?_)
     ·
      try with_reducible replace hc1 := of_decide_eq_true hc1
      refine WC_skip ?_
      refine hK46 _ _ ?_
      clear hK46 K45
      refine WC_seq (fun K47 hK48 => ?_)
      refine WC_block ?_
      refine WC_seq (fun K49 hK50 => ?_)
      obtain ⟨hb1, hb2, hb3⟩ := hlr.get (k := k) (by omega)
      have hb4 : (l.getD k ⟨⟨0, 0⟩, 0⟩).o / 2 ^ out.toNat ≤ (l.getD k ⟨⟨0, 0⟩, 0⟩).o := Nat.div_le_self _ _
      refine WC_region ?_
      refine WL_val (dd := some 32) rfl rfl rfl (r_idxS (v := xa) rfl (Below.slT hB hl) rfl tb_el65 (by omega) (by first | omega | (simp only [flagsTo_len, litsTo_len, firstF_len, ptF_len, setF_len]; omega))) ?_
      refine WL_val (dd := some 33) rfl rfl rfl (r_load3 rfl tb_ag79 (SlT.cell (Below.slT hB hl) encR_len ⟨⟨0, 0⟩, 0⟩ (by omega) (by first | omega | (simp only [flagsTo_len, litsTo_len, firstF_len, ptF_len, setF_len]; omega)) 0 rfl) (SlT.cell (Below.slT hB hl) encR_len ⟨⟨0, 0⟩, 0⟩ (by omega) (by first | omega | (simp only [flagsTo_len, litsTo_len, firstF_len, ptF_len, setF_len]; omega)) 1 rfl) (SlT.cell (Below.slT hB hl) encR_len ⟨⟨0, 0⟩, 0⟩ (by omega) (by first | omega | (simp only [flagsTo_len, litsTo_len, firstF_len, ptF_len, setF_len]; omega)) 2 rfl)) ?_
      refine WL_step (dd := some 10) rfl rfl rfl (Y_alloc tb_z79 rfl (fun b6_2 W51 hb52 hE53 hm6_2 => ?_))
      have lo_b6_2 : w.heap.size ≤ b6_2 := hb52 ▸ (Below.size hB)
      clear hb52
      replace hB := below_ext hB hE53 (Nat.le_refl _)
      replace hm0_0 := hE53.at hm0_0
      replace hm3_0 := hE53.at hm3_0
      clear hE53
      refine WL_step (dd := none) rfl rfl rfl (Y_storeW rfl rfl tb_ag79 rfl hm6_2 rfl (by rfl) (fun W54 hG55 hm56 => ?_))
      replace hB := below_grown hB hG55 (Nat.le_refl _) (fun j hj => by cases hj; exact lo_b6_2)
      replace hm0_0 := At.grownAt hm0_0 hm6_2 hG55 (by decide)
      replace hm3_0 := At.grownAt hm3_0 hm6_2 hG55 (by decide)
      clear hG55 hm6_2
      have hm6_2 := hm56
      clear hm56
      refine WL_nil ?_
      refine hK50 _ _ ?_
      clear hK50 K49
      refine WC_seq (fun K57 hK58 => ?_)
      refine WC_region ?_
      refine WL_val (dd := some 35) rfl rfl rfl (r_fieldAddr (b := _) (o := _) rfl tb_fo79_0) ?_
      refine WL_val (dd := some 36) rfl rfl rfl (r_load2 rfl tb_ag34 (At.cell hm6_2 rfl) (At.cell hm6_2 rfl)) ?_
      refine WL_val (dd := some 37) rfl rfl rfl (r_move (v := .int .i64 _) rfl) ?_
      refine WL_call (dd := some 38) rfl rfl rfl (r_call2 tb_c29 (v0 := .agg #[_, _]) rfl (v1 := .int .i64 _) rfl) (C_cube_Points _ _ _ _ hb1 hb2) (fun v7_3 W59 hE60 hP7_3 => ?_)
      have hsz61 := (Below.size hB)
      replace hB := below_ext hB hE60 (Nat.le_refl _)
      replace hm0_0 := hE60.at hm0_0
      replace hm3_0 := hE60.at hm3_0
      replace hm6_2 := hE60.at hm6_2
      clear hE60
      obtain ⟨sa, er, rfl, hhP7_3⟩ := pts_cases hP7_3
      clear hsz61
      refine WL_val (dd := some 34) rfl rfl rfl (r_move (v := .tuple #[.agg #[_, _, _, _], .int .i64 _]) rfl) ?_
      refine WL_val (dd := some 39) rfl rfl rfl (r_ext2_0 (h := rfl)) ?_
      refine WL_val (dd := some 40) rfl rfl rfl (r_ext2_1 (h := rfl)) ?_
      refine WL_step (dd := some 11) rfl rfl rfl (Y_alloc tb_z24 rfl (fun b7_7 W62 hb63 hE64 hm7_7 => ?_))
      have lo_b7_7 : w.heap.size ≤ b7_7 := hb63 ▸ (Below.size hB)
      have ne_b0_0_b7_7 : b0_0 ≠ b7_7 := Nat.ne_of_lt (hb63 ▸ hm0_0.lt)
      have ne_b3_0_b7_7 : b3_0 ≠ b7_7 := Nat.ne_of_lt (hb63 ▸ hm3_0.lt)
      clear hb63
      replace hB := below_ext hB hE64 (Nat.le_refl _)
      replace hm0_0 := hE64.at hm0_0
      replace hm3_0 := hE64.at hm3_0
      replace hm6_2 := hE64.at hm6_2
      clear hE64
      replace hm7_7 : At W62 b7_7 #[wv 0 0, wv 0 1, wv 0 2, wv 0 3] 24 := hm7_7
      refine WL_step (dd := none) rfl rfl rfl (Y_storeW rfl rfl tb_ag24 rfl hm7_7 rfl (by rfl) (fun W65 hG66 hm67 => ?_))
      replace hB := below_grown hB hG66 (Nat.le_refl _) (fun j hj => by cases hj; exact lo_b7_7)
      replace hm0_0 := At.grownNe hm0_0 ne_b0_0_b7_7 hG66
      replace hm3_0 := At.grownNe hm3_0 ne_b3_0_b7_7 hG66
      replace hm6_2 := At.grownAt hm6_2 hm7_7 hG66 (by decide)
      clear hG66 hm7_7
      have hm7_7 := hm67
      clear hm67
      refine WL_val (dd := some 12) rfl rfl rfl (r_assign (v := .int .i64 _) rfl) ?_
      refine WL_nil ?_
      refine hK58 _ _ ?_
      clear hK58 K57
      refine WC_seq (fun K68 hK69 => ?_)
      refine WC_seq (fun K70 hK71 => ?_)
      refine WC_region ?_
      refine WL_val (dd := some 41) rfl rfl rfl (r_move (v := .int .i64 _) rfl) ?_
      refine WL_val (dd := some 42) rfl rfl rfl (r_neq rfl rfl) ?_
      refine WL_nil ?_
      refine hK71 _ _ ?_
      clear hK71 K70
      refine WC_cond (b := _) rfl (fun hc2 => ?_) (fun hc2 => ?_)
      ·
       try with_reducible replace hc2 := of_decide_eq_true hc2
       refine WC_seq (fun K72 hK73 => ?_)
       refine WC_region ?_
       refine WL_val (dd := some 43) (v := setV 0) rfl rfl rfl (tb_build24_ ) ?_
       refine WL_val (dd := some 44) rfl rfl rfl (r_move (v := .int .i64 _) rfl) ?_
       refine WL_step (dd := none) rfl rfl rfl (Y_storeW rfl rfl tb_ag24 rfl hm0_0 rfl (by rfl) (fun W74 hG75 hm76 => ?_))
       replace hB := below_grown hB hG75 (Nat.le_refl _) (fun j hj => by cases hj; exact lo_b0_0)
       replace hm3_0 := At.grownNe hm3_0 (Ne.symm ne_b0_0_b3_0) hG75
       replace hm6_2 := At.grownAt hm6_2 hm0_0 hG75 (by decide)
       replace hm7_7 := At.grownNe hm7_7 (Ne.symm ne_b0_0_b7_7) hG75
       clear hG75 hm0_0
       have hm0_0 := hm76
       clear hm76
       refine WL_val (dd := some 7) rfl rfl rfl (r_assign (v := .int .i64 _) rfl) ?_
       refine WL_nil ?_
       refine hK73 _ _ ?_
       clear hK73 K72
       refine WC_ret ?_
       repeat (first | refine thenQ_ret ?_ | refine blockQ_ret ?_)
       try clear hK69 K68
       try clear hK48 K47
       try clear hJ42 J41
       try clear hK36 K35
       refine ret_ct rfl tb_ag24 hm0_0 rfl (v1 := .int .i64 _) rfl ?_
       refine ⟨hB, ?_⟩
       obtain ⟨hrr, her⟩ := hhP7_3.resolve_left (fun h => hc2 h.2.2)
       rw [if_neg (ptOk_k (k := k) (by omega) hrr), her]
      ·
       try with_reducible replace hc2 := of_decide_eq_false hc2
       refine WC_skip ?_
       refine hK69 _ _ ?_
       clear hK69 K68
       refine WC_seq (fun K77 hK78 => ?_)
       obtain ⟨hrr, hsa, _⟩ := hhP7_3.resolve_right (fun h => hc2 (fun e => by rw [h.2] at e; cases e))
       subst hsa
       refine WC_region ?_
       refine WL_val (dd := some 45) rfl rfl rfl (r_fieldAddr (b := _) (o := _) rfl tb_fo79_1) ?_
       refine WL_val (dd := some 46) rfl rfl rfl (r_load1 (v := .int .u8 _) rfl tb_sc5 (At.cell hm6_2 rfl)) ?_
       refine WL_val (dd := some 47) rfl rfl rfl (r_move (v := .int .i64 _) rfl) ?_
       refine WL_val (dd := some 48) rfl rfl rfl (r_shr rfl rfl (by omega) (by simp only [IntKind.bits]; omega)) ?_
       refine WL_val (dd := some 49) rfl rfl rfl (r_and (n := 1) rfl rfl rfl (by show (l.getD k ⟨⟨0, 0⟩, 0⟩).o / 2 ^ out.toNat < 256; omega) (by decide)) ?_
       refine WL_val (dd := some 50) rfl rfl rfl (r_eql rfl rfl) ?_
       refine WL_nil ?_
       refine hK78 _ _ ?_
       clear hK78 K77
       refine WC_cond (b := _) rfl (fun hc3 => ?_) (fun hc3 => ?_)
       ·
        try with_reducible replace hc3 := of_decide_eq_true hc3
        refine WC_region ?_
        refine WL_val (dd := some 51) rfl rfl rfl (r_loadW rfl tb_ag24 rfl hm3_0) ?_
        refine WL_val (dd := some 52) rfl rfl rfl (r_loadW rfl tb_ag24 rfl hm7_7) ?_
        refine WL_call (dd := some 53) rfl rfl rfl (r_call2 tb_c30 (v0 := .agg #[_, _, _, _]) rfl (v1 := .agg #[_, _, _, _]) rfl) (C_set_Or _ _ _) (fun v11_2 W79 hE80 hP11_2 => ?_)
        have hsz81 := (Below.size hB)
        replace hB := below_ext hB hE80 (Nat.le_refl _)
        replace hm0_0 := hE80.at hm0_0
        replace hm3_0 := hE80.at hm3_0
        replace hm6_2 := hE80.at hm6_2
        replace hm7_7 := hE80.at hm7_7
        clear hE80
        clear hsz81
        obtain rfl := hP11_2
        refine WL_step (dd := none) rfl rfl rfl (Y_storeW rfl rfl tb_ag24 rfl hm3_0 rfl (by rfl) (fun W82 hG83 hm84 => ?_))
        replace hB := below_grown hB hG83 (Nat.le_refl _) (fun j hj => by cases hj; exact lo_b3_0)
        replace hm0_0 := At.grownNe hm0_0 ne_b0_0_b3_0 hG83
        replace hm6_2 := At.grownAt hm6_2 hm3_0 hG83 (by decide)
        replace hm7_7 := At.grownNe hm7_7 (Ne.symm ne_b3_0_b7_7) hG83
        clear hG83 hm3_0
        have hm3_0 := hm84
        clear hm84
        refine WL_nil ?_
        refine hK48 _ _ ?_
        clear hK48 K47
        refine WC_region ?_
        refine WL_val (dd := some 54) rfl rfl rfl (r_addI rfl rfl (by omega) (by omega)) ?_
        refine WL_val (dd := some 30) rfl rfl rfl (r_move (v := .int .i64 _) rfl) ?_
        refine WL_nil ?_
        refine hJ42 _ _ (k + 1) ?_ ?_ ?_ ?_
        · repeat (first | exact agree.mask _ _ _ | refine agree.updo ?_ rfl _ | refine agree.updL ?_ _ rfl | refine agree.maskS rfl ?_)
        · exact ⟨rfl, trivial⟩
        · exact ⟨hB, hm0_0, (by first | (rw [← ptsR_t (l := l) (k := k) (bit_yesI hc3)]; exact hm3_0) | (rw [← ptsR_f (l := l) (k := k) (bit_notI hc3)]; exact hm3_0)), (by omega), (upTo_succ hq hrr), trivial⟩
        · first | omega | (dsimp only; omega)
       ·
        try with_reducible replace hc3 := of_decide_eq_false hc3
        refine WC_skip ?_
        refine hK48 _ _ ?_
        clear hK48 K47
        refine WC_region ?_
        refine WL_val (dd := some 54) rfl rfl rfl (r_addI rfl rfl (by omega) (by omega)) ?_
        refine WL_val (dd := some 30) rfl rfl rfl (r_move (v := .int .i64 _) rfl) ?_
        refine WL_nil ?_
        refine hJ42 _ _ (k + 1) ?_ ?_ ?_ ?_
        · repeat (first | exact agree.mask _ _ _ | refine agree.updo ?_ rfl _ | refine agree.updL ?_ _ rfl | refine agree.maskS rfl ?_)
        · exact ⟨rfl, trivial⟩
        · exact ⟨hB, hm0_0, (by first | (rw [← ptsR_t (l := l) (k := k) (bit_yesI hc3)]; exact hm3_0) | (rw [← ptsR_f (l := l) (k := k) (bit_notI hc3)]; exact hm3_0)), (by omega), (upTo_succ hq hrr), trivial⟩
        · first | omega | (dsimp only; omega)
     ·
      try with_reducible replace hc1 := of_decide_eq_false hc1
      refine WC_exit ?_
      refine hK36 _ _ ?_
      clear hK46 K45
      clear hJ42 J41
      clear hK36 K35
      refine WC_seq (fun K85 hK86 => ?_)
      refine WC_region ?_
      refine WL_val (dd := some 55) rfl rfl rfl (r_loadW rfl tb_ag24 rfl hm3_0) ?_
      refine WL_step (dd := none) rfl rfl rfl (Y_storeW rfl rfl tb_ag24 rfl hm0_0 rfl (by rfl) (fun W87 hG88 hm89 => ?_))
      replace hB := below_grown hB hG88 (Nat.le_refl _) (fun j hj => by cases hj; exact lo_b0_0)
      replace hm3_0 := At.grownNe hm3_0 (Ne.symm ne_b0_0_b3_0) hG88
      clear hG88 hm0_0
      have hm0_0 := hm89
      clear hm89
      refine WL_val (dd := some 7) rfl rfl rfl (r_assign (v := .int .i64 0) rfl) ?_
      refine WL_nil ?_
      refine hK86 _ _ ?_
      clear hK86 K85
      refine WC_ret ?_
      repeat (first | refine thenQ_ret ?_ | refine blockQ_ret ?_)
      refine ret_ct rfl tb_ag24 hm0_0 rfl (v1 := .int .i64 0) rfl ?_
      refine ⟨hB, ?_⟩
      obtain rfl : k = l.length := by omega
      rw [if_pos (ptOk_iff.2 ⟨by omega, hq⟩)]

theorem C_spec_Covers (S : Sp) (onV mayV : Value) (xa : Value) (l : List Rw) (w : World) (hon : SlT encS 4 w onV S.on) (hmay : SlT encS 4 w mayV S.may) (hl : SlT encR 3 w xa l) (hlb : l.length ≤ 2000000) (hlr : RowB l) (h4 : S.on.length ≤ 20) :
    Fn Try.prog 66 #[.agg #[.int .i64 S.n, onV, mayV], xa] w fun v w' => v = .bool (covB S l) := by
 refine Fn_intro (n := 49) Try.func66 rfl rfl (Nat.le_of_ble_eq_true rfl) ?_
 have hB : Below w.heap.size w w := Below.refl _ _
 refine WC_seq (fun K1 hK2 => ?_)
 refine WC_region ?_
 refine WL_step (dd := some 2) rfl rfl rfl (Y_box (c := #[_, _, _]) rfl rfl (fun b0_0 W3 hb4 hE5 hm0_0 => ?_))
 have lo_b0_0 : w.heap.size ≤ b0_0 := hb4 ▸ (Below.size hB)
 clear hb4
 replace hB := below_ext hB hE5 (Nat.le_refl _)
 clear hE5
 refine WL_val (dd := some 4) rfl rfl rfl (r_assign (v := .bool false) rfl) ?_
 refine WL_nil ?_
 refine hK2 _ _ ?_
 clear hK2 K1
 refine WC_seq (fun K6 hK7 => ?_)
 refine WC_seq (fun K8 hK9 => ?_)
 refine WC_region ?_
 refine WL_val (dd := some 9) rfl rfl rfl (r_loadW rfl tb_ag64 rfl hm0_0) ?_
 refine WL_call (dd := some 10) rfl rfl rfl (r_call1 tb_c105 (v0 := .agg #[_, _, _]) rfl) (C_spec_Right S _ _  _ (Below.slT hB hon) (Below.slT hB hmay) ) (fun v1_1 W10 hE11 hP1_1 => ?_)
 have hsz12 := (Below.size hB)
 replace hB := below_ext hB hE11 (Nat.le_refl _)
 replace hm0_0 := hE11.at hm0_0
 clear hE11
 clear hsz12
 obtain rfl := hP1_1
 refine WL_val (dd := some 11) rfl rfl rfl (r_not rfl) ?_
 refine WL_split (dd := some 12) rfl rfl rfl (r_move (v := .bool _) rfl) (fun hs1_3 => ?_) (fun hs1_3 => ?_)
 ·
  try with_reducible replace hs1_3 := of_decide_eq_true hs1_3
  refine WL_skip (dd := some 13) rfl rfl rfl ?_
  refine WL_skip (dd := some 14) rfl rfl rfl ?_
  refine WL_skip (dd := some 15) rfl rfl rfl ?_
  refine WL_skip (dd := some 16) rfl rfl rfl ?_
  refine WL_val (dd := some 17) rfl rfl rfl (r_pick_t rfl (v := .bool true) rfl) ?_
  refine WL_nil ?_
  refine hK9 _ _ ?_
  clear hK9 K8
  refine WC_cond_true rfl ?_
  refine WC_seq (fun K13 hK14 => ?_)
  refine WC_region ?_
  refine WL_val (dd := some 4) rfl rfl rfl (r_assign (v := .bool false) rfl) ?_
  refine WL_nil ?_
  refine hK14 _ _ ?_
  clear hK14 K13
  refine WC_ret ?_
  repeat (first | refine thenQ_ret ?_ | refine blockQ_ret ?_)
  try clear hK7 K6
  refine ret_t (v := .bool false) rfl ?_
  refine ⟨hB, ?_⟩
  exact cov_f1 (not_t hs1_3)
 ·
  try with_reducible replace hs1_3 := of_decide_eq_false hs1_3
  refine WL_val (dd := some 13) rfl rfl rfl (r_loadW rfl tb_ag64 rfl hm0_0) ?_
  refine WL_val (dd := some 14) rfl rfl rfl (r_move (v := xa) rfl) ?_
  refine WL_call (dd := some 15) rfl rfl rfl (r_call2 tb_c123 (v0 := .agg #[_, _, _]) rfl (v1 := xa) rfl) (C_spec_may S _ _ _ l _ (Below.slT hB hon) (Below.slT hB hmay) (Below.slT hB hl) hlb hlr h4) (fun v1_6 W15 hE16 hP1_6 => ?_)
  have hsz17 := (Below.size hB)
  replace hB := below_ext hB hE16 (Nat.le_refl _)
  replace hm0_0 := hE16.at hm0_0
  clear hE16
  clear hsz17
  obtain rfl := hP1_6
  refine WL_val (dd := some 16) rfl rfl rfl (r_not rfl) ?_
  refine WL_val (dd := some 17) rfl rfl rfl (r_pick_f rfl (v := .bool _) rfl) ?_
  refine WL_nil ?_
  refine hK9 _ _ ?_
  clear hK9 K8
  refine WC_cond (b := _) rfl (fun hc0 => ?_) (fun hc0 => ?_)
  ·
   try with_reducible replace hc0 := of_decide_eq_true hc0
   refine WC_seq (fun K18 hK19 => ?_)
   refine WC_region ?_
   refine WL_val (dd := some 4) rfl rfl rfl (r_assign (v := .bool false) rfl) ?_
   refine WL_nil ?_
   refine hK19 _ _ ?_
   clear hK19 K18
   refine WC_ret ?_
   repeat (first | refine thenQ_ret ?_ | refine blockQ_ret ?_)
   try clear hK7 K6
   refine ret_t (v := .bool false) rfl ?_
   refine ⟨hB, ?_⟩
   exact cov_f2 (not_t hc0)
  ·
   try with_reducible replace hc0 := of_decide_eq_false hc0
   refine WC_skip ?_
   refine hK7 _ _ ?_
   clear hK7 K6
   refine WC_seq (fun K20 hK21 => ?_)
   refine WC_seq (fun K22 hK23 => ?_)
   have hr : rightS S = true := not_f hs1_3
   have hm : mayL S l = true := not_f hc0
   obtain ⟨h0, h8, h1, h5, h6, _⟩ := rightS_iff.1 hr
   refine WC_region ?_
   refine WL_val (dd := some 18) rfl rfl rfl (r_fieldAddr (b := _) (o := _) rfl tb_fo64_1) ?_
   refine WL_val (dd := some 19) rfl rfl rfl (r_load1 (v := onV) rfl tb_sc62 (At.cell hm0_0 rfl)) ?_
   refine WL_val (dd := some 20) rfl rfl rfl (r_lenS (v := onV) rfl (Below.slT hB hon) tb_el62) ?_
   refine WL_val (dd := some 21) rfl rfl rfl (r_move (v := .int .i64 0) rfl) ?_
   refine WL_nil ?_
   refine hK23 _ _ ?_
   clear hK23 K22
   refine WC_block ?_
   refine WC_loop (σ := (Nat)) [4, 5, 6, 7, 8, 21, 22, 23, 24, 25, 26, 27, 28, 29, 30, 31, 32, 33, 34, 35, 36, 37, 38, 39, 40, 41, 42, 43, 44, 45, 46, 47, 48] (fun k => [(21, .int .i64 (k : Int))]) (fun k W => (Below w.heap.size w W) ∧ (At W b0_0 _ 64) ∧ (k ≤ S.on.length) ∧ (∀ q, q < k → covO S l q = true) ∧ (True)) (fun k => S.on.length - k) (0) ⟨rfl, trivial⟩ ⟨hB, hm0_0, (Nat.zero_le _), upTo_zero, trivial⟩ ?_
   clear hB hm0_0
   rintro k g25 W24 ⟨hB, hm0_0, hk, hq, _⟩ J26 hJ27
   refine WC_seq (fun K28 hK29 => ?_)
   refine WC_region ?_
   refine WL_val (dd := some 22) rfl rfl rfl (r_lss rfl rfl) ?_
   refine WL_nil ?_
   refine hK29 _ _ ?_
   clear hK29 K28
   refine WC_seq (fun K30 hK31 => ?_)
   refine WC_cond (b := _) rfl (fun hc1 => ?_) (fun hc1 => ?_)
   ·
    try with_reducible replace hc1 := of_decide_eq_true hc1
    refine WC_skip ?_
    refine hK31 _ _ ?_
    clear hK31 K30
    refine WC_seq (fun K32 hK33 => ?_)
    refine WC_block ?_
    refine WC_seq (fun K34 hK35 => ?_)
    refine WC_region ?_
    refine WL_val (dd := some 23) rfl rfl rfl (r_move (v := .int .i64 _) rfl) ?_
    refine WL_val (dd := some 24) rfl rfl rfl (r_idxS (v := onV) rfl (Below.slT hB hon) rfl tb_el62 (by omega) (by first | omega | (simp only [flagsTo_len, litsTo_len, firstF_len, ptF_len, setF_len]; omega))) ?_
    refine WL_val (dd := some 25) rfl rfl rfl (r_load4 rfl tb_ag24 (SlT.cell (Below.slT hB hon) encS_len 0 (by omega) (by first | omega | (simp only [flagsTo_len, litsTo_len, firstF_len, ptF_len, setF_len]; omega)) 0 rfl) (SlT.cell (Below.slT hB hon) encS_len 0 (by omega) (by first | omega | (simp only [flagsTo_len, litsTo_len, firstF_len, ptF_len, setF_len]; omega)) 1 rfl) (SlT.cell (Below.slT hB hon) encS_len 0 (by omega) (by first | omega | (simp only [flagsTo_len, litsTo_len, firstF_len, ptF_len, setF_len]; omega)) 2 rfl) (SlT.cell (Below.slT hB hon) encS_len 0 (by omega) (by first | omega | (simp only [flagsTo_len, litsTo_len, firstF_len, ptF_len, setF_len]; omega)) 3 rfl)) ?_
    refine WL_step (dd := some 6) rfl rfl rfl (Y_alloc tb_z24 rfl (fun b5_3 W36 hb37 hE38 hm5_3 => ?_))
    have lo_b5_3 : w.heap.size ≤ b5_3 := hb37 ▸ (Below.size hB)
    clear hb37
    replace hB := below_ext hB hE38 (Nat.le_refl _)
    replace hm0_0 := hE38.at hm0_0
    clear hE38
    replace hm5_3 : At W36 b5_3 #[wv 0 0, wv 0 1, wv 0 2, wv 0 3] 24 := hm5_3
    refine WL_val (dd := some 5) rfl rfl rfl (r_assign (v := .int .i64 _) rfl) ?_
    refine WL_step (dd := none) rfl rfl rfl (Y_storeW rfl rfl tb_ag24 rfl hm5_3 rfl (by rfl) (fun W39 hG40 hm41 => ?_))
    replace hB := below_grown hB hG40 (Nat.le_refl _) (fun j hj => by cases hj; exact lo_b5_3)
    replace hm0_0 := At.grownAt hm0_0 hm5_3 hG40 (by decide)
    clear hG40 hm5_3
    have hm5_3 := hm41
    clear hm41
    refine WL_nil ?_
    refine hK35 _ _ ?_
    clear hK35 K34
    refine WC_seq (fun K42 hK43 => ?_)
    refine WC_region ?_
    refine WL_val (dd := some 27) rfl rfl rfl (r_move (v := xa) rfl) ?_
    refine WL_val (dd := some 28) rfl rfl rfl (r_fieldAddr (b := _) (o := _) rfl tb_fo64_0) ?_
    refine WL_val (dd := some 29) rfl rfl rfl (r_load1 (v := .int .i64 _) rfl tb_sc3 (At.cell hm0_0 rfl)) ?_
    refine WL_val (dd := some 30) rfl rfl rfl (r_move (v := .int .i64 _) rfl) ?_
    refine WL_call (dd := some 31) rfl rfl rfl (r_call3 tb_c124 (v0 := xa) rfl (v1 := .int .i64 _) rfl (v2 := .int .i64 _) rfl) (C_spec_Points _ l S.n (k : Int) _ (Below.slT hB hl) hlb hlr) (fun v6_4 W44 hE45 hP6_4 => ?_)
    have hsz46 := (Below.size hB)
    replace hB := below_ext hB hE45 (Nat.le_refl _)
    replace hm0_0 := hE45.at hm0_0
    replace hm5_3 := hE45.at hm5_3
    clear hE45
    obtain ⟨sa, er, rfl, hhP6_4⟩ := pts_res hP6_4
    clear hsz46
    refine WL_val (dd := some 26) rfl rfl rfl (r_move (v := .tuple #[.agg #[_, _, _, _], .int .i64 _]) rfl) ?_
    refine WL_val (dd := some 32) rfl rfl rfl (r_ext2_0 (h := rfl)) ?_
    refine WL_val (dd := some 33) rfl rfl rfl (r_ext2_1 (h := rfl)) ?_
    refine WL_step (dd := some 7) rfl rfl rfl (Y_alloc tb_z24 rfl (fun b6_8 W47 hb48 hE49 hm6_8 => ?_))
    have lo_b6_8 : w.heap.size ≤ b6_8 := hb48 ▸ (Below.size hB)
    have ne_b5_3_b6_8 : b5_3 ≠ b6_8 := Nat.ne_of_lt (hb48 ▸ hm5_3.lt)
    clear hb48
    replace hB := below_ext hB hE49 (Nat.le_refl _)
    replace hm0_0 := hE49.at hm0_0
    replace hm5_3 := hE49.at hm5_3
    clear hE49
    replace hm6_8 : At W47 b6_8 #[wv 0 0, wv 0 1, wv 0 2, wv 0 3] 24 := hm6_8
    refine WL_step (dd := none) rfl rfl rfl (Y_storeW rfl rfl tb_ag24 rfl hm6_8 rfl (by rfl) (fun W50 hG51 hm52 => ?_))
    replace hB := below_grown hB hG51 (Nat.le_refl _) (fun j hj => by cases hj; exact lo_b6_8)
    replace hm0_0 := At.grownAt hm0_0 hm6_8 hG51 (by decide)
    replace hm5_3 := At.grownNe hm5_3 ne_b5_3_b6_8 hG51
    clear hG51 hm6_8
    have hm6_8 := hm52
    clear hm52
    refine WL_val (dd := some 8) rfl rfl rfl (r_assign (v := .int .i64 _) rfl) ?_
    refine WL_nil ?_
    refine hK43 _ _ ?_
    clear hK43 K42
    refine WC_seq (fun K53 hK54 => ?_)
    obtain ⟨_, hsa, _⟩ := hhP6_4.resolve_right (fun h => by have h2 := may_pts (l := l) hr hm (show k < S.on.length by omega); rw [h.1] at h2; cases h2)
    rw [Int.toNat_natCast] at hsa
    subst hsa
    refine WC_draw Ext tb_mix (fun W55 hE56 => ?_)
    replace hB := below_ext hB hE56 (Nat.le_refl _)
    replace hm0_0 := hE56.at hm0_0
    replace hm5_3 := hE56.at hm5_3
    replace hm6_8 := hE56.at hm6_8
    have hS := Ext.refl W55
    refine WT_take (dd := some 34) 0 rfl (by kernel_rfl) (by kernel_rfl) (by kernel_rfl) rfl rfl rfl (fun _wq hq => r_loadW rfl tb_ag24 rfl (hq.at hm5_3)) hS ?_
    refine WT_take (dd := some 35) 1 rfl (by kernel_rfl) (by kernel_rfl) (by kernel_rfl) rfl rfl rfl (fun _wq hq => r_loadW rfl tb_ag24 rfl (hq.at hm6_8)) hS ?_
    refine WT_one (dd := some 36) 2 (by kernel_rfl) rfl rfl rfl rfl (Yd.call (r_call2 tb_c82 (v0 := .agg #[_, _, _, _]) rfl (v1 := .agg #[_, _, _, _]) rfl) (C_set_Within _ _ _) (fun v7_2 W57 hE58 hP7_2 => ⟨.inl (hS.trans hE58), ?_⟩))
    have hsz59 := (Below.size hB)
    have sv60_hB := hB
    have sv60_hm0_0 := hm0_0
    have sv60_hm5_3 := hm5_3
    have sv60_hm6_8 := hm6_8
    replace hB := below_ext hB hE58 (Nat.le_refl _)
    replace hm0_0 := hE58.at hm0_0
    replace hm5_3 := hE58.at hm5_3
    replace hm6_8 := hE58.at hm6_8
    replace hS := hS.trans hE58
    clear hE58
    clear hsz59
    obtain rfl := hP7_2
    refine WT_take (dd := some 37) 3 rfl (by kernel_rfl) (by kernel_rfl) (by kernel_rfl) rfl rfl rfl (fun _wq _hq => r_not rfl) hS ?_
    refine WT_split (dd := some 38) 4 rfl (by kernel_rfl) (by kernel_rfl) (by kernel_rfl) rfl rfl rfl (fun wq hq => r_move (v := .bool _) rfl) hS (fun hs7_4 => ?_) (fun hs7_4 => ?_)
    ·
     try with_reducible replace hs7_4 := of_decide_eq_true hs7_4
     refine WT_pass (dd := some 39) 5 rfl (by kernel_rfl) (by kernel_rfl) (by kernel_rfl) rfl rfl rfl hS ?_
     refine WT_pass (dd := some 40) 6 rfl (by kernel_rfl) (by kernel_rfl) (by kernel_rfl) rfl rfl rfl hS ?_
     refine WT_pass (dd := some 41) 7 rfl (by kernel_rfl) (by kernel_rfl) (by kernel_rfl) rfl rfl rfl hS ?_
     refine WT_pass (dd := some 42) 8 rfl (by kernel_rfl) (by kernel_rfl) (by kernel_rfl) rfl rfl rfl hS ?_
     refine WT_pass (dd := some 43) 9 rfl (by kernel_rfl) (by kernel_rfl) (by kernel_rfl) rfl rfl rfl hS ?_
     refine WT_pass (dd := some 44) 10 rfl (by kernel_rfl) (by kernel_rfl) (by kernel_rfl) rfl rfl rfl hS ?_
     refine WT_pass (dd := some 45) 11 rfl (by kernel_rfl) (by kernel_rfl) (by kernel_rfl) rfl rfl rfl hS ?_
     refine WT_pass (dd := some 46) 12 rfl (by kernel_rfl) (by kernel_rfl) (by kernel_rfl) rfl rfl rfl hS ?_
     refine WT_take (dd := some 47) 13 rfl (by kernel_rfl) (by kernel_rfl) (by kernel_rfl) rfl rfl rfl (fun _wq _hq => r_pick_t rfl (v := .bool true) rfl) hS ?_
     refine WT_done (by kernel_rfl) ?_
     try clear sv60_hB sv60_hm0_0 sv60_hm5_3 sv60_hm6_8
     refine hK54 _ _ ?_
     clear hK54 K53
     refine WC_cond_true rfl ?_
     refine WC_seq (fun K61 hK62 => ?_)
     refine WC_region ?_
     refine WL_val (dd := some 4) rfl rfl rfl (r_assign (v := .bool false) rfl) ?_
     refine WL_nil ?_
     refine hK62 _ _ ?_
     clear hK62 K61
     refine WC_ret ?_
     repeat (first | refine thenQ_ret ?_ | refine blockQ_ret ?_)
     try clear hK33 K32
     try clear hJ27 J26
     try clear hK21 K20
     refine ret_t (v := .bool false) rfl ?_
     refine ⟨hB, ?_⟩
     exact cov_f3 (o := k) (by omega) (not_t hs7_4)
    ·
     try with_reducible replace hs7_4 := of_decide_eq_false hs7_4
     refine WT_take (dd := some 39) 5 rfl (by kernel_rfl) (by kernel_rfl) (by kernel_rfl) rfl rfl rfl (fun _wq hq => r_loadW rfl tb_ag24 rfl (hq.at sv60_hm6_8)) hS ?_
     refine WT_take (dd := some 40) 6 rfl (by kernel_rfl) (by kernel_rfl) (by kernel_rfl) rfl rfl rfl (fun _wq _hq => r_fieldAddr (b := _) (o := _) rfl tb_fo64_2) hS ?_
     refine WT_take (dd := some 41) 7 rfl (by kernel_rfl) (by kernel_rfl) (by kernel_rfl) rfl rfl rfl (fun _wq hq => r_load1 (v := mayV) rfl tb_sc62 (At.cell (hq.at sv60_hm0_0) rfl)) hS ?_
     refine WT_take (dd := some 42) 8 rfl (by kernel_rfl) (by kernel_rfl) (by kernel_rfl) rfl rfl rfl (fun _wq _hq => r_move (v := .int .i64 _) rfl) hS ?_
     refine WT_take (dd := some 43) 9 rfl (by kernel_rfl) (by kernel_rfl) (by kernel_rfl) rfl rfl rfl (fun _wq hq => r_idxS (v := mayV) rfl (hq.slT (Below.slT sv60_hB hmay)) rfl tb_el62 (by omega) (by first | omega | (simp only [flagsTo_len, litsTo_len, firstF_len, ptF_len, setF_len]; omega))) hS ?_
     refine WT_take (dd := some 44) 10 rfl (by kernel_rfl) (by kernel_rfl) (by kernel_rfl) rfl rfl rfl (fun _wq hq => r_load4 rfl tb_ag24 (SlT.cell (hq.slT (Below.slT sv60_hB hmay)) encS_len 0 (by omega) (by first | omega | (simp only [flagsTo_len, litsTo_len, firstF_len, ptF_len, setF_len]; omega)) 0 rfl) (SlT.cell (hq.slT (Below.slT sv60_hB hmay)) encS_len 0 (by omega) (by first | omega | (simp only [flagsTo_len, litsTo_len, firstF_len, ptF_len, setF_len]; omega)) 1 rfl) (SlT.cell (hq.slT (Below.slT sv60_hB hmay)) encS_len 0 (by omega) (by first | omega | (simp only [flagsTo_len, litsTo_len, firstF_len, ptF_len, setF_len]; omega)) 2 rfl) (SlT.cell (hq.slT (Below.slT sv60_hB hmay)) encS_len 0 (by omega) (by first | omega | (simp only [flagsTo_len, litsTo_len, firstF_len, ptF_len, setF_len]; omega)) 3 rfl)) hS ?_
     refine WT_one (dd := some 45) 11 (by kernel_rfl) rfl rfl rfl rfl (Yd.call (r_call2 tb_c82 (v0 := .agg #[_, _, _, _]) rfl (v1 := .agg #[_, _, _, _]) rfl) (C_set_Within _ _ _) (fun v7_11 W63 hE64 hP7_11 => ⟨.inl (hS.trans hE64), ?_⟩))
     have hsz65 := (Below.size hB)
     replace hB := below_ext hB hE64 (Nat.le_refl _)
     replace hm0_0 := hE64.at hm0_0
     replace hm5_3 := hE64.at hm5_3
     replace hm6_8 := hE64.at hm6_8
     replace hS := hS.trans hE64
     clear hE64
     clear hsz65
     obtain rfl := hP7_11
     refine WT_take (dd := some 46) 12 rfl (by kernel_rfl) (by kernel_rfl) (by kernel_rfl) rfl rfl rfl (fun _wq _hq => r_not rfl) hS ?_
     refine WT_take (dd := some 47) 13 rfl (by kernel_rfl) (by kernel_rfl) (by kernel_rfl) rfl rfl rfl (fun _wq _hq => r_pick_f rfl (v := .bool _) rfl) hS ?_
     refine WT_done (by kernel_rfl) ?_
     try clear sv60_hB sv60_hm0_0 sv60_hm5_3 sv60_hm6_8
     refine hK54 _ _ ?_
     clear hK54 K53
     refine WC_cond (b := _) rfl (fun hc2 => ?_) (fun hc2 => ?_)
     ·
      try with_reducible replace hc2 := of_decide_eq_true hc2
      refine WC_seq (fun K66 hK67 => ?_)
      refine WC_region ?_
      refine WL_val (dd := some 4) rfl rfl rfl (r_assign (v := .bool false) rfl) ?_
      refine WL_nil ?_
      refine hK67 _ _ ?_
      clear hK67 K66
      refine WC_ret ?_
      repeat (first | refine thenQ_ret ?_ | refine blockQ_ret ?_)
      try clear hK33 K32
      try clear hJ27 J26
      try clear hK21 K20
      refine ret_t (v := .bool false) rfl ?_
      refine ⟨hB, ?_⟩
      exact cov_f4 (o := k) (by omega) (not_t hc2)
     ·
      try with_reducible replace hc2 := of_decide_eq_false hc2
      refine WC_skip ?_
      refine hK33 _ _ ?_
      clear hK33 K32
      refine WC_region ?_
      refine WL_val (dd := some 48) rfl rfl rfl (r_addI rfl rfl (by omega) (by omega)) ?_
      refine WL_val (dd := some 21) rfl rfl rfl (r_move (v := .int .i64 _) rfl) ?_
      refine WL_nil ?_
      refine hJ27 _ _ (k + 1) ?_ ?_ ?_ ?_
      · repeat (first | exact agree.mask _ _ _ | refine agree.updo ?_ rfl _ | refine agree.updL ?_ _ rfl | refine agree.maskS rfl ?_)
      · exact ⟨rfl, trivial⟩
      · exact ⟨hB, hm0_0, (by omega), (upTo_succ hq (covO_t (not_f hs7_4) (not_f hc2))), trivial⟩
      · first | omega | (dsimp only; omega)
   ·
    try with_reducible replace hc1 := of_decide_eq_false hc1
    refine WC_exit ?_
    refine hK21 _ _ ?_
    clear hK31 K30
    clear hJ27 J26
    clear hK21 K20
    refine WC_seq (fun K68 hK69 => ?_)
    refine WC_region ?_
    refine WL_val (dd := some 4) rfl rfl rfl (r_assign (v := .bool true) rfl) ?_
    refine WL_nil ?_
    refine hK69 _ _ ?_
    clear hK69 K68
    refine WC_ret ?_
    repeat (first | refine thenQ_ret ?_ | refine blockQ_ret ?_)
    refine ret_t (v := .bool true) rfl ?_
    refine ⟨hB, ?_⟩
    obtain rfl : k = S.on.length := by omega
    exact vb_t (covB_iff.2 ⟨hr, hm, hq⟩)

theorem C_drawkniferef04_size (n : Int) (w : World) (h0 : 0 ≤ n) (h1 : n ≤ 8) :
    Fn Try.prog 125 #[.int .i64 n] w fun v w' => v = .int .i64 ((2 ^ n.toNat : Nat) : Int) := by
 refine Fn_intro (n := 8) Try.func125 rfl rfl (Nat.le_of_ble_eq_true rfl) ?_
 have hB : Below w.heap.size w w := Below.refl _ _
 refine WC_seq (fun K1 hK2 => ?_)
 refine WC_region ?_
 refine WL_val (dd := some 2) rfl rfl rfl (r_assign (v := .int .i64 0) rfl) ?_
 refine WL_nil ?_
 refine hK2 _ _ ?_
 clear hK2 K1
 refine WC_seq (fun K3 hK4 => ?_)
 refine WC_region ?_
 refine WL_val (dd := some 3) rfl rfl rfl (r_move (v := .int .i64 _) rfl) ?_
 refine WL_call (dd := some 4) rfl rfl rfl (r_call1 tb_c78 (v0 := .int .i64 _) rfl) (C_drawkniferef01_All _ _ (by first | assumption | omega) (by first | assumption | omega)) (fun v1_1 W5 hE6 hP1_1 => ?_)
 have hsz7 := (Below.size hB)
 replace hB := below_ext hB hE6 (Nat.le_refl _)
 clear hE6
 replace hP1_1 := OwT.mono hP1_1 hsz7
 clear hsz7
 refine WL_call (dd := some 5) rfl rfl rfl (r_call1 tb_c35 (v0 := v1_1) rfl) (C_drawkniferef01_Set _ _ _ hP1_1.sl (firstF_len _)) (fun v1_2 W8 hE9 hP1_2 => ?_)
 have hsz10 := (Below.size hB)
 replace hB := below_ext hB hE9 (Nat.le_refl _)
 replace hP1_1 := hE9.ow hP1_1
 clear hE9
 clear hsz10
 obtain rfl := hP1_2
 refine WL_call (dd := some 6) rfl rfl rfl (r_call1 tb_c111 (v0 := .agg #[_, _, _, _]) rfl) (C_drawkniferef01_List _ _) (fun v1_3 W11 hE12 hP1_3 => ?_)
 have hsz13 := (Below.size hB)
 replace hB := below_ext hB hE12 (Nat.le_refl _)
 replace hP1_1 := hE12.ow hP1_1
 clear hE12
 replace hP1_3 := OwT.mono hP1_3 hsz13
 clear hsz13
 refine WL_val (dd := some 7) rfl rfl rfl (r_lenS (v := v1_3) rfl hP1_3.sl tb_el57) ?_
 refine WL_val (dd := some 2) rfl rfl rfl (r_assign (v := .int .i64 _) rfl) ?_
 refine WL_nil ?_
 refine hK4 _ _ ?_
 clear hK4 K3
 refine WC_ret ?_
 repeat (first | refine thenQ_ret ?_ | refine blockQ_ret ?_)
 refine ret_t (v := .int .i64 _) rfl ?_
 refine ⟨hB, ?_⟩
 rw [size_all n.toNat (by omega)]

theorem C_drawkniferef04_Covered (xa : Value) (l : List Rw) (p o : Nat) (w : World) (hl : SlT encR 3 w xa l) (hlb : l.length ≤ 2000000) (hlr : RowB l) (hp : p < 256) (ho : o < 8) :
    Fn Try.prog 126 #[xa, .int .i64 (p : Int), .int .i64 (o : Int)] w fun v w' => v = .bool (cvB l p o) := by
 refine Fn_intro (n := 30) Try.func126 rfl rfl (Nat.le_of_ble_eq_true rfl) ?_
 have hB : Below w.heap.size w w := Below.refl _ _
 refine WC_seq (fun K1 hK2 => ?_)
 refine WC_region ?_
 refine WL_val (dd := some 6) rfl rfl rfl (r_assign (v := .bool false) rfl) ?_
 refine WL_nil ?_
 refine hK2 _ _ ?_
 clear hK2 K1
 refine WC_seq (fun K3 hK4 => ?_)
 refine WC_seq (fun K5 hK6 => ?_)
 refine WC_region ?_
 refine WL_val (dd := some 7) rfl rfl rfl (r_assign (v := .int .i64 0) rfl) ?_
 refine WL_nil ?_
 refine hK6 _ _ ?_
 clear hK6 K5
 refine WC_block ?_
 refine WC_loop (σ := (Nat)) [6, 7, 8, 9, 10, 11, 12, 13, 14, 15, 16, 17, 18, 19, 20, 21, 22, 23, 24, 25, 26, 27, 28, 29] (fun k => [(7, .int .i64 (k : Int))]) (fun k W => (Below w.heap.size w W) ∧ (k ≤ l.length) ∧ (∀ q, q < k → ((l.getD q ⟨⟨0, 0⟩, 0⟩).o.testBit o && hasC (l.getD q ⟨⟨0, 0⟩, 0⟩).c.m (l.getD q ⟨⟨0, 0⟩, 0⟩).c.v p) = false) ∧ (True)) (fun k => l.length - k) (0) ⟨rfl, trivial⟩ ⟨hB, (Nat.zero_le _), upTo_zero, trivial⟩ ?_
 clear hB
 rintro k g8 W7 ⟨hB, hk, hq, _⟩ J9 hJ10
 refine WC_seq (fun K11 hK12 => ?_)
 refine WC_seq (fun K13 hK14 => ?_)
 refine WC_region ?_
 refine WL_val (dd := some 8) rfl rfl rfl (r_move (v := .int .i64 _) rfl) ?_
 refine WL_val (dd := some 9) rfl rfl rfl (r_move (v := xa) rfl) ?_
 refine WL_val (dd := some 10) rfl rfl rfl (r_lenS (v := xa) rfl (Below.slT hB hl) tb_el65) ?_
 refine WL_val (dd := some 11) rfl rfl rfl (r_lss rfl rfl) ?_
 refine WL_nil ?_
 refine hK14 _ _ ?_
 clear hK14 K13
 refine WC_cond (b := _) rfl (fun hc0 => ?_) (fun hc0 => ?_)
 ·
  try with_reducible replace hc0 := of_decide_eq_true hc0
  refine WC_skip ?_
  refine hK12 _ _ ?_
  clear hK12 K11
  refine WC_seq (fun K15 hK16 => ?_)
  refine WC_block ?_
  refine WC_seq (fun K17 hK18 => ?_)
  obtain ⟨hb1, hb2, hb3⟩ := hlr.get (k := k) (by omega)
  refine WC_region ?_
  refine WL_val (dd := some 14) rfl rfl rfl (r_move (v := xa) rfl) ?_
  refine WL_val (dd := some 15) rfl rfl rfl (r_move (v := .int .i64 _) rfl) ?_
  refine WL_val (dd := some 16) rfl rfl rfl (r_idxS (v := xa) rfl (Below.slT hB hl) rfl tb_el65 (by omega) (by first | omega | (simp only [flagsTo_len, litsTo_len, firstF_len, ptF_len, setF_len]; omega))) ?_
  refine WL_val (dd := some 17) rfl rfl rfl (r_fieldAddr (b := _) (o := _) rfl tb_fo79_1) ?_
  refine WL_val (dd := some 18) rfl rfl rfl (r_load1 (v := .int .u8 _) rfl tb_sc5 (SlT.cell (Below.slT hB hl) encR_len ⟨⟨0, 0⟩, 0⟩ (by omega) (by first | omega | (simp only [flagsTo_len, litsTo_len, firstF_len, ptF_len, setF_len]; omega)) 2 rfl)) ?_
  refine WL_val (dd := some 19) rfl rfl rfl (r_move (v := .int .i64 _) rfl) ?_
  refine WL_call (dd := some 20) rfl rfl rfl (r_call2 tb_c112 (v0 := .int .u8 _) rfl (v1 := .int .i64 _) rfl) (C_drawkniferef04_Bit _ _ _ hb3 ho) (fun v4_6 W19 hE20 hP4_6 => ?_)
  have hsz21 := (Below.size hB)
  replace hB := below_ext hB hE20 (Nat.le_refl _)
  clear hE20
  clear hsz21
  obtain rfl := hP4_6
  refine WL_split (dd := some 21) rfl rfl rfl (r_move (v := .bool _) rfl) (fun hs4_7 => ?_) (fun hs4_7 => ?_)
  ·
   try with_reducible replace hs4_7 := of_decide_eq_true hs4_7
   refine WL_val (dd := some 22) rfl rfl rfl (r_move (v := xa) rfl) ?_
   refine WL_val (dd := some 23) rfl rfl rfl (r_move (v := .int .i64 _) rfl) ?_
   refine WL_val (dd := some 24) rfl rfl rfl (r_idxS (v := xa) rfl (Below.slT hB hl) rfl tb_el65 (by omega) (by first | omega | (simp only [flagsTo_len, litsTo_len, firstF_len, ptF_len, setF_len]; omega))) ?_
   refine WL_val (dd := some 25) rfl rfl rfl (r_fieldAddr (b := _) (o := _) rfl tb_fo79_0) ?_
   refine WL_val (dd := some 26) rfl rfl rfl (r_load2 rfl tb_ag34 (SlT.cell (Below.slT hB hl) encR_len ⟨⟨0, 0⟩, 0⟩ (by omega) (by first | omega | (simp only [flagsTo_len, litsTo_len, firstF_len, ptF_len, setF_len]; omega)) 0 rfl) (SlT.cell (Below.slT hB hl) encR_len ⟨⟨0, 0⟩, 0⟩ (by omega) (by first | omega | (simp only [flagsTo_len, litsTo_len, firstF_len, ptF_len, setF_len]; omega)) 1 rfl)) ?_
   refine WL_val (dd := some 27) rfl rfl rfl (r_move (v := .int .i64 _) rfl) ?_
   refine WL_call (dd := some 28) rfl rfl rfl (r_call2 tb_c113 (v0 := .agg #[_, _]) rfl (v1 := .int .i64 _) rfl) (C_drawkniferef02_Has _ _ p _ hb1 hb2 hp) (fun v4_14 W22 hE23 hP4_14 => ?_)
   have hsz24 := (Below.size hB)
   replace hB := below_ext hB hE23 (Nat.le_refl _)
   clear hE23
   clear hsz24
   obtain rfl := hP4_14
   refine WL_val (dd := some 29) rfl rfl rfl (r_pick_t rfl (v := .bool _) rfl) ?_
   refine WL_nil ?_
   refine hK18 _ _ ?_
   clear hK18 K17
   refine WC_cond (b := _) rfl (fun hc1 => ?_) (fun hc1 => ?_)
   ·
    try with_reducible replace hc1 := of_decide_eq_true hc1
    refine WC_seq (fun K25 hK26 => ?_)
    refine WC_region ?_
    refine WL_val (dd := some 6) rfl rfl rfl (r_assign (v := .bool true) rfl) ?_
    refine WL_nil ?_
    refine hK26 _ _ ?_
    clear hK26 K25
    refine WC_ret ?_
    repeat (first | refine thenQ_ret ?_ | refine blockQ_ret ?_)
    try clear hK16 K15
    try clear hJ10 J9
    try clear hK4 K3
    refine ret_t (v := .bool true) rfl ?_
    refine ⟨hB, ?_⟩
    exact cv_t (k := k) (by omega) hs4_7 hc1
   ·
    try with_reducible replace hc1 := of_decide_eq_false hc1
    refine WC_skip ?_
    refine hK16 _ _ ?_
    clear hK16 K15
    refine WC_region ?_
    refine WL_val (dd := some 12) rfl rfl rfl (r_move (v := .int .i64 _) rfl) ?_
    refine WL_val (dd := some 13) rfl rfl rfl (r_addI rfl rfl (by omega) (by omega)) ?_
    refine WL_val (dd := some 7) rfl rfl rfl (r_assign (v := .int .i64 _) rfl) ?_
    refine WL_nil ?_
    refine hJ10 _ _ (k + 1) ?_ ?_ ?_ ?_
    · repeat (first | exact agree.mask _ _ _ | refine agree.updo ?_ rfl _ | refine agree.updL ?_ _ rfl | refine agree.maskS rfl ?_)
    · exact ⟨rfl, trivial⟩
    · exact ⟨hB, (by omega), (upTo_succ hq (by first | exact and_f1 hs4_7 | exact and_f2 hc1)), trivial⟩
    · first | omega | (dsimp only; omega)
  ·
   try with_reducible replace hs4_7 := of_decide_eq_false hs4_7
   refine WL_skip (dd := some 22) rfl rfl rfl ?_
   refine WL_skip (dd := some 23) rfl rfl rfl ?_
   refine WL_skip (dd := some 24) rfl rfl rfl ?_
   refine WL_skip (dd := some 25) rfl rfl rfl ?_
   refine WL_skip (dd := some 26) rfl rfl rfl ?_
   refine WL_skip (dd := some 27) rfl rfl rfl ?_
   refine WL_skip (dd := some 28) rfl rfl rfl ?_
   refine WL_val (dd := some 29) rfl rfl rfl (r_pick_f rfl (v := .bool false) rfl) ?_
   refine WL_nil ?_
   refine hK18 _ _ ?_
   clear hK18 K17
   refine WC_cond_false rfl ?_
   refine WC_skip ?_
   refine hK16 _ _ ?_
   clear hK16 K15
   refine WC_region ?_
   refine WL_val (dd := some 12) rfl rfl rfl (r_move (v := .int .i64 _) rfl) ?_
   refine WL_val (dd := some 13) rfl rfl rfl (r_addI rfl rfl (by omega) (by omega)) ?_
   refine WL_val (dd := some 7) rfl rfl rfl (r_assign (v := .int .i64 _) rfl) ?_
   refine WL_nil ?_
   refine hJ10 _ _ (k + 1) ?_ ?_ ?_ ?_
   · repeat (first | exact agree.mask _ _ _ | refine agree.updo ?_ rfl _ | refine agree.updL ?_ _ rfl | refine agree.maskS rfl ?_)
   · exact ⟨rfl, trivial⟩
   · exact ⟨hB, (by omega), (upTo_succ hq (by first | exact and_f1 hs4_7 | exact and_f2 hc1)), trivial⟩
   · first | omega | (dsimp only; omega)
 ·
  try with_reducible replace hc0 := of_decide_eq_false hc0
  refine WC_exit ?_
  refine hK4 _ _ ?_
  clear hK12 K11
  clear hJ10 J9
  clear hK4 K3
  refine WC_seq (fun K27 hK28 => ?_)
  refine WC_region ?_
  refine WL_val (dd := some 6) rfl rfl rfl (r_assign (v := .bool false) rfl) ?_
  refine WL_nil ?_
  refine hK28 _ _ ?_
  clear hK28 K27
  refine WC_ret ?_
  repeat (first | refine thenQ_ret ?_ | refine blockQ_ret ?_)
  refine ret_t (v := .bool false) rfl ?_
  refine ⟨hB, ?_⟩
  exact cv_f (by omega) hq

theorem C_drawkniferef04_Covers (S : Sp) (onV mayV : Value) (xa : Value) (l : List Rw) (w : World) (hon : SlT encS 4 w onV S.on) (hmay : SlT encS 4 w mayV S.may) (hl : SlT encR 3 w xa l) (hlb : l.length ≤ 2000000) (hlr : RowB l) (hr : rightS S = true) :
    Fn Try.prog 67 #[.agg #[.int .i64 S.n, onV, mayV], xa] w fun v w' => v = .bool (covB S l) := by
 refine Fn_intro (n := 76) Try.func67 rfl rfl (Nat.le_of_ble_eq_true rfl) ?_
 have hB : Below w.heap.size w w := Below.refl _ _
 obtain ⟨h0, h8, h1, h5, h6, _⟩ := rightS_iff.1 hr
 have h256 := two_pow_le h8
 refine WC_seq (fun K1 hK2 => ?_)
 refine WC_region ?_
 refine WL_step (dd := some 2) rfl rfl rfl (Y_box (c := #[_, _, _]) rfl rfl (fun b0_0 W3 hb4 hE5 hm0_0 => ?_))
 have lo_b0_0 : w.heap.size ≤ b0_0 := hb4 ▸ (Below.size hB)
 clear hb4
 replace hB := below_ext hB hE5 (Nat.le_refl _)
 clear hE5
 refine WL_val (dd := some 4) rfl rfl rfl (r_assign (v := .bool false) rfl) ?_
 refine WL_nil ?_
 refine hK2 _ _ ?_
 clear hK2 K1
 refine WC_seq (fun K6 hK7 => ?_)
 refine WC_seq (fun K8 hK9 => ?_)
 refine WC_region ?_
 refine WL_val (dd := some 5) rfl rfl rfl (r_assign (v := .int .i64 0) rfl) ?_
 refine WL_nil ?_
 refine hK9 _ _ ?_
 clear hK9 K8
 refine WC_block ?_
 refine WC_loop (σ := (Nat)) [4, 5, 11, 12, 13, 14, 15, 16, 17, 18, 19, 20, 21, 22, 23, 24, 25, 26, 27] (fun k => [(5, .int .i64 (k : Int))]) (fun k W => (Below w.heap.size w W) ∧ (At W b0_0 _ 64) ∧ (k ≤ l.length) ∧ (∀ q, q < k → okR S (l.getD q ⟨⟨0, 0⟩, 0⟩) = true) ∧ (True)) (fun k => l.length - k) (0) ⟨rfl, trivial⟩ ⟨hB, hm0_0, (Nat.zero_le _), upTo_zero, trivial⟩ ?_
 clear hB hm0_0
 rintro k g11 W10 ⟨hB, hm0_0, hk, hq, _⟩ J12 hJ13
 refine WC_seq (fun K14 hK15 => ?_)
 refine WC_seq (fun K16 hK17 => ?_)
 refine WC_region ?_
 refine WL_val (dd := some 11) rfl rfl rfl (r_move (v := .int .i64 _) rfl) ?_
 refine WL_val (dd := some 12) rfl rfl rfl (r_move (v := xa) rfl) ?_
 refine WL_val (dd := some 13) rfl rfl rfl (r_lenS (v := xa) rfl (Below.slT hB hl) tb_el65) ?_
 refine WL_val (dd := some 14) rfl rfl rfl (r_lss rfl rfl) ?_
 refine WL_nil ?_
 refine hK17 _ _ ?_
 clear hK17 K16
 refine WC_cond (b := _) rfl (fun hc0 => ?_) (fun hc0 => ?_)
 ·
  try with_reducible replace hc0 := of_decide_eq_true hc0
  refine WC_skip ?_
  refine hK15 _ _ ?_
  clear hK15 K14
  refine WC_seq (fun K18 hK19 => ?_)
  refine WC_block ?_
  refine WC_seq (fun K20 hK21 => ?_)
  obtain ⟨hb1, hb2, hb3⟩ := hlr.get (k := k) (by omega)
  refine WC_draw Ext tb_mix (fun W22 hE23 => ?_)
  replace hB := below_ext hB hE23 (Nat.le_refl _)
  replace hm0_0 := hE23.at hm0_0
  have hS := Ext.refl W22
  refine WT_take (dd := some 17) 0 rfl (by kernel_rfl) (by kernel_rfl) (by kernel_rfl) rfl rfl rfl (fun _wq _hq => r_move (v := xa) rfl) hS ?_
  refine WT_take (dd := some 18) 1 rfl (by kernel_rfl) (by kernel_rfl) (by kernel_rfl) rfl rfl rfl (fun _wq _hq => r_move (v := .int .i64 _) rfl) hS ?_
  refine WT_take (dd := some 19) 2 rfl (by kernel_rfl) (by kernel_rfl) (by kernel_rfl) rfl rfl rfl (fun _wq hq => r_idxS (v := xa) rfl (hq.slT (Below.slT hB hl)) rfl tb_el65 (by omega) (by first | omega | (simp only [flagsTo_len, litsTo_len, firstF_len, ptF_len, setF_len]; omega))) hS ?_
  refine WT_take (dd := some 20) 3 rfl (by kernel_rfl) (by kernel_rfl) (by kernel_rfl) rfl rfl rfl (fun _wq hq => r_load3 rfl tb_ag79 (SlT.cell (hq.slT (Below.slT hB hl)) encR_len ⟨⟨0, 0⟩, 0⟩ (by omega) (by first | omega | (simp only [flagsTo_len, litsTo_len, firstF_len, ptF_len, setF_len]; omega)) 0 rfl) (SlT.cell (hq.slT (Below.slT hB hl)) encR_len ⟨⟨0, 0⟩, 0⟩ (by omega) (by first | omega | (simp only [flagsTo_len, litsTo_len, firstF_len, ptF_len, setF_len]; omega)) 1 rfl) (SlT.cell (hq.slT (Below.slT hB hl)) encR_len ⟨⟨0, 0⟩, 0⟩ (by omega) (by first | omega | (simp only [flagsTo_len, litsTo_len, firstF_len, ptF_len, setF_len]; omega)) 2 rfl)) hS ?_
  refine WT_take (dd := some 21) 4 rfl (by kernel_rfl) (by kernel_rfl) (by kernel_rfl) rfl rfl rfl (fun _wq _hq => r_fieldAddr (b := _) (o := _) rfl tb_fo64_0) hS ?_
  refine WT_take (dd := some 22) 5 rfl (by kernel_rfl) (by kernel_rfl) (by kernel_rfl) rfl rfl rfl (fun _wq hq => r_load1 (v := .int .i64 _) rfl tb_sc3 (At.cell (hq.at hm0_0) rfl)) hS ?_
  refine WT_take (dd := some 23) 6 rfl (by kernel_rfl) (by kernel_rfl) (by kernel_rfl) rfl rfl rfl (fun _wq _hq => r_fieldAddr (b := _) (o := _) rfl tb_fo64_1) hS ?_
  refine WT_take (dd := some 24) 7 rfl (by kernel_rfl) (by kernel_rfl) (by kernel_rfl) rfl rfl rfl (fun _wq hq => r_load1 (v := onV) rfl tb_sc62 (At.cell (hq.at hm0_0) rfl)) hS ?_
  refine WT_take (dd := some 25) 8 rfl (by kernel_rfl) (by kernel_rfl) (by kernel_rfl) rfl rfl rfl (fun _wq hq => r_lenS (v := onV) rfl (hq.slT (Below.slT hB hon)) tb_el62) hS ?_
  refine WT_one (dd := some 26) 9 (by kernel_rfl) rfl rfl rfl rfl (Yd.call (r_call3 tb_c122 (v0 := .agg #[_, _, _]) rfl (v1 := .int .i64 _) rfl (v2 := .int .i64 _) rfl) (C_drawkniferef04_May _ _ _ S.on.length _ _ hb1 hb2 hb3) (fun v4_9 W24 hE25 hP4_9 => ⟨.inl (hS.trans hE25), ?_⟩))
  have hsz26 := (Below.size hB)
  have sv27_hB := hB
  have sv27_hm0_0 := hm0_0
  replace hB := below_ext hB hE25 (Nat.le_refl _)
  replace hm0_0 := hE25.at hm0_0
  replace hS := hS.trans hE25
  clear hE25
  clear hsz26
  obtain rfl := hP4_9
  refine WT_take (dd := some 27) 10 rfl (by kernel_rfl) (by kernel_rfl) (by kernel_rfl) rfl rfl rfl (fun _wq _hq => r_not rfl) hS ?_
  refine WT_done (by kernel_rfl) ?_
  try clear sv27_hB sv27_hm0_0
  refine hK21 _ _ ?_
  clear hK21 K20
  refine WC_cond (b := _) rfl (fun hc1 => ?_) (fun hc1 => ?_)
  ·
   try with_reducible replace hc1 := of_decide_eq_true hc1
   refine WC_seq (fun K28 hK29 => ?_)
   refine WC_region ?_
   refine WL_val (dd := some 4) rfl rfl rfl (r_assign (v := .bool false) rfl) ?_
   refine WL_nil ?_
   refine hK29 _ _ ?_
   clear hK29 K28
   refine WC_ret ?_
   repeat (first | refine thenQ_ret ?_ | refine blockQ_ret ?_)
   try clear hK19 K18
   try clear hJ13 J12
   try clear hK7 K6
   refine ret_t (v := .bool false) rfl ?_
   refine ⟨hB, ?_⟩
   exact cov_rowf (k := k) (by omega) (fun h => Bool.noConfusion (h.symm.trans ((okR_ref (S := S) (x := (l.getD k ⟨⟨0, 0⟩, 0⟩))).symm.trans (not_t hc1))))
  ·
   try with_reducible replace hc1 := of_decide_eq_false hc1
   refine WC_skip ?_
   refine hK19 _ _ ?_
   clear hK19 K18
   refine WC_region ?_
   refine WL_val (dd := some 15) rfl rfl rfl (r_move (v := .int .i64 _) rfl) ?_
   refine WL_val (dd := some 16) rfl rfl rfl (r_addI rfl rfl (by omega) (by omega)) ?_
   refine WL_val (dd := some 5) rfl rfl rfl (r_assign (v := .int .i64 _) rfl) ?_
   refine WL_nil ?_
   refine hJ13 _ _ (k + 1) ?_ ?_ ?_ ?_
   · repeat (first | exact agree.mask _ _ _ | refine agree.updo ?_ rfl _ | refine agree.updL ?_ _ rfl | refine agree.maskS rfl ?_)
   · exact ⟨rfl, trivial⟩
   · exact ⟨hB, hm0_0, (by omega), (upTo_succ hq ((okR_ref (S := S) (x := (l.getD k ⟨⟨0, 0⟩, 0⟩))).symm.trans (not_f hc1))), trivial⟩
   · first | omega | (dsimp only; omega)
 ·
  try with_reducible replace hc0 := of_decide_eq_false hc0
  refine WC_exit ?_
  refine hK7 _ _ ?_
  clear hK15 K14
  clear hJ13 J12
  clear hK7 K6
  refine WC_seq (fun K30 hK31 => ?_)
  refine WC_seq (fun K32 hK33 => ?_)
  obtain rfl : k = l.length := by omega
  have hm : mayL S l = true := mayL_iff.2 hq
  refine WC_region ?_
  refine WL_val (dd := some 6) rfl rfl rfl (r_assign (v := .int .i64 0) rfl) ?_
  refine WL_nil ?_
  refine hK33 _ _ ?_
  clear hK33 K32
  refine WC_block ?_
  refine WC_loop (σ := (Nat)) [4, 6, 7, 8, 9, 10, 28, 29, 30, 31, 32, 33, 34, 35, 36, 37, 38, 39, 40, 41, 42, 43, 44, 45, 46, 47, 48, 49, 50, 51, 52, 53, 54, 55, 56, 57, 58, 59, 60, 61, 62, 63, 64, 65, 66, 67, 68, 69, 70, 71, 72, 73, 74, 75] (fun o => [(6, .int .i64 (o : Int))]) (fun o W => (Below w.heap.size w W) ∧ (At W b0_0 _ 64) ∧ (o ≤ S.on.length) ∧ (∀ q, q < o → covO S l q = true) ∧ (True)) (fun o => S.on.length - o) (0) ⟨rfl, trivial⟩ ⟨hB, hm0_0, (Nat.zero_le _), upTo_zero, trivial⟩ ?_
  clear hB hm0_0
  rintro o g35 W34 ⟨hB, hm0_0, ho, hq2, _⟩ J36 hJ37
  refine WC_seq (fun K38 hK39 => ?_)
  refine WC_seq (fun K40 hK41 => ?_)
  refine WC_region ?_
  refine WL_val (dd := some 28) rfl rfl rfl (r_move (v := .int .i64 _) rfl) ?_
  refine WL_val (dd := some 29) rfl rfl rfl (r_fieldAddr (b := _) (o := _) rfl tb_fo64_1) ?_
  refine WL_val (dd := some 30) rfl rfl rfl (r_load1 (v := onV) rfl tb_sc62 (At.cell hm0_0 rfl)) ?_
  refine WL_val (dd := some 31) rfl rfl rfl (r_lenS (v := onV) rfl (Below.slT hB hon) tb_el62) ?_
  refine WL_val (dd := some 32) rfl rfl rfl (r_lss rfl rfl) ?_
  refine WL_nil ?_
  refine hK41 _ _ ?_
  clear hK41 K40
  refine WC_cond (b := _) rfl (fun hc2 => ?_) (fun hc2 => ?_)
  ·
   try with_reducible replace hc2 := of_decide_eq_true hc2
   refine WC_skip ?_
   refine hK39 _ _ ?_
   clear hK39 K38
   refine WC_seq (fun K42 hK43 => ?_)
   refine WC_block ?_
   refine WC_seq (fun K44 hK45 => ?_)
   refine WC_draw Ext tb_mix (fun W46 hE47 => ?_)
   replace hB := below_ext hB hE47 (Nat.le_refl _)
   replace hm0_0 := hE47.at hm0_0
   have hS := Ext.refl W46
   refine WT_take (dd := some 35) 0 rfl (by kernel_rfl) (by kernel_rfl) (by kernel_rfl) rfl rfl rfl (fun _wq _hq => r_fieldAddr (b := _) (o := _) rfl tb_fo64_1) hS ?_
   refine WT_take (dd := some 36) 1 rfl (by kernel_rfl) (by kernel_rfl) (by kernel_rfl) rfl rfl rfl (fun _wq hq => r_load1 (v := onV) rfl tb_sc62 (At.cell (hq.at hm0_0) rfl)) hS ?_
   refine WT_take (dd := some 37) 2 rfl (by kernel_rfl) (by kernel_rfl) (by kernel_rfl) rfl rfl rfl (fun _wq _hq => r_move (v := .int .i64 _) rfl) hS ?_
   refine WT_take (dd := some 38) 3 rfl (by kernel_rfl) (by kernel_rfl) (by kernel_rfl) rfl rfl rfl (fun _wq hq => r_idxS (v := onV) rfl (hq.slT (Below.slT hB hon)) rfl tb_el62 (by omega) (by first | omega | (simp only [flagsTo_len, litsTo_len, firstF_len, ptF_len, setF_len]; omega))) hS ?_
   refine WT_take (dd := some 39) 4 rfl (by kernel_rfl) (by kernel_rfl) (by kernel_rfl) rfl rfl rfl (fun _wq hq => r_load4 rfl tb_ag24 (SlT.cell (hq.slT (Below.slT hB hon)) encS_len 0 (by omega) (by first | omega | (simp only [flagsTo_len, litsTo_len, firstF_len, ptF_len, setF_len]; omega)) 0 rfl) (SlT.cell (hq.slT (Below.slT hB hon)) encS_len 0 (by omega) (by first | omega | (simp only [flagsTo_len, litsTo_len, firstF_len, ptF_len, setF_len]; omega)) 1 rfl) (SlT.cell (hq.slT (Below.slT hB hon)) encS_len 0 (by omega) (by first | omega | (simp only [flagsTo_len, litsTo_len, firstF_len, ptF_len, setF_len]; omega)) 2 rfl) (SlT.cell (hq.slT (Below.slT hB hon)) encS_len 0 (by omega) (by first | omega | (simp only [flagsTo_len, litsTo_len, firstF_len, ptF_len, setF_len]; omega)) 3 rfl)) hS ?_
   refine WT_take (dd := some 41) 6 rfl (by kernel_rfl) (by kernel_rfl) (by kernel_rfl) rfl rfl rfl (fun _wq _hq => r_fieldAddr (b := _) (o := _) rfl tb_fo64_2) hS ?_
   refine WT_take (dd := some 42) 7 rfl (by kernel_rfl) (by kernel_rfl) (by kernel_rfl) rfl rfl rfl (fun _wq hq => r_load1 (v := mayV) rfl tb_sc62 (At.cell (hq.at hm0_0) rfl)) hS ?_
   refine WT_take (dd := some 43) 8 rfl (by kernel_rfl) (by kernel_rfl) (by kernel_rfl) rfl rfl rfl (fun _wq _hq => r_move (v := .int .i64 _) rfl) hS ?_
   refine WT_take (dd := some 44) 9 rfl (by kernel_rfl) (by kernel_rfl) (by kernel_rfl) rfl rfl rfl (fun _wq hq => r_idxS (v := mayV) rfl (hq.slT (Below.slT hB hmay)) rfl tb_el62 (by omega) (by first | omega | (simp only [flagsTo_len, litsTo_len, firstF_len, ptF_len, setF_len]; omega))) hS ?_
   refine WT_take (dd := some 45) 10 rfl (by kernel_rfl) (by kernel_rfl) (by kernel_rfl) rfl rfl rfl (fun _wq hq => r_load4 rfl tb_ag24 (SlT.cell (hq.slT (Below.slT hB hmay)) encS_len 0 (by omega) (by first | omega | (simp only [flagsTo_len, litsTo_len, firstF_len, ptF_len, setF_len]; omega)) 0 rfl) (SlT.cell (hq.slT (Below.slT hB hmay)) encS_len 0 (by omega) (by first | omega | (simp only [flagsTo_len, litsTo_len, firstF_len, ptF_len, setF_len]; omega)) 1 rfl) (SlT.cell (hq.slT (Below.slT hB hmay)) encS_len 0 (by omega) (by first | omega | (simp only [flagsTo_len, litsTo_len, firstF_len, ptF_len, setF_len]; omega)) 2 rfl) (SlT.cell (hq.slT (Below.slT hB hmay)) encS_len 0 (by omega) (by first | omega | (simp only [flagsTo_len, litsTo_len, firstF_len, ptF_len, setF_len]; omega)) 3 rfl)) hS ?_
   refine WT_one (dd := some 40) 5 (by kernel_rfl) rfl rfl rfl rfl (Yd.call (r_call1 tb_c37 (v0 := .agg #[_, _, _, _]) rfl) (C_drawkniferef01_Flags _ _) (fun v9_5 W48 hE49 hP9_5 => ⟨.inl (hS.trans hE49), ?_⟩))
   have hsz50 := (Below.size hB)
   have sv51_hB := hB
   have sv51_hm0_0 := hm0_0
   replace hB := below_ext hB hE49 (Nat.le_refl _)
   replace hm0_0 := hE49.at hm0_0
   replace hS := hS.trans hE49
   clear hE49
   replace hP9_5 := OwT.mono hP9_5 hsz50
   clear hsz50
   refine WT_one (dd := some 46) 11 (by kernel_rfl) rfl rfl rfl rfl (Yd.call (r_call1 tb_c37 (v0 := .agg #[_, _, _, _]) rfl) (C_drawkniferef01_Flags _ _) (fun v9_11 W52 hE53 hP9_11 => ⟨.inl (hS.trans hE53), ?_⟩))
   have hlt54 := OwT.lt2 hP9_5
   have hsz55 := (Below.size hB)
   replace hB := below_ext hB hE53 (Nat.le_refl _)
   replace hm0_0 := hE53.at hm0_0
   replace hP9_5 := hE53.ow hP9_5
   replace hS := hS.trans hE53
   clear hE53
   have hap56 := Apart.new hlt54 hP9_11
   replace hP9_11 := OwT.mono hP9_11 hsz55
   clear hsz55
   refine WT_take (dd := some 7) 12 rfl (by kernel_rfl) (by kernel_rfl) (by kernel_rfl) rfl rfl rfl (fun _wq _hq => r_assign (v := v9_5) rfl) hS ?_
   refine WT_take (dd := some 8) 13 rfl (by kernel_rfl) (by kernel_rfl) (by kernel_rfl) rfl rfl rfl (fun _wq _hq => r_assign (v := v9_11) rfl) hS ?_
   refine WT_done (by kernel_rfl) ?_
   try clear sv51_hB sv51_hm0_0
   refine hK45 _ _ ?_
   clear hK45 K44
   refine WC_seq (fun K57 hK58 => ?_)
   refine WC_region ?_
   refine WL_val (dd := some 9) rfl rfl rfl (r_assign (v := .int .i64 0) rfl) ?_
   refine WL_nil ?_
   refine hK58 _ _ ?_
   clear hK58 K57
   refine WC_block ?_
   refine WC_loop (σ := (Nat)) [4, 9, 10, 47, 48, 49, 50, 51, 52, 53, 54, 55, 56, 57, 58, 59, 60, 61, 62, 63, 64, 65, 66, 67, 68, 69, 70, 71, 72, 73, 74, 75] (fun p => [(9, .int .i64 (p : Int))]) (fun p W => (Below w.heap.size w W) ∧ (At W b0_0 _ 64) ∧ (OwT encB 1 4 W w.heap.size v9_5 _) ∧ (Apart v9_5 v9_11) ∧ (OwT encB 1 4 W w.heap.size v9_11 _) ∧ (p ≤ 2 ^ S.n.toNat) ∧ (∀ q, q < p → ((onP S o).testBit q = true → cvB l q o = true) ∧ (cvB l q o = true → (mayP S o).testBit q = true)) ∧ (True)) (fun p => 2 ^ S.n.toNat - p) (0) ⟨rfl, trivial⟩ ⟨hB, hm0_0, hP9_5, hap56, hP9_11, (Nat.zero_le _), upTo_zero, trivial⟩ ?_
   clear hB hm0_0 hP9_5 hap56 hP9_11
   rintro p g60 W59 ⟨hB, hm0_0, hP9_5, hap56, hP9_11, hp, hq3, _⟩ J61 hJ62
   refine WC_seq (fun K63 hK64 => ?_)
   refine WC_seq (fun K65 hK66 => ?_)
   refine WC_region ?_
   refine WL_val (dd := some 47) rfl rfl rfl (r_move (v := .int .i64 _) rfl) ?_
   refine WL_val (dd := some 48) rfl rfl rfl (r_fieldAddr (b := _) (o := _) rfl tb_fo64_0) ?_
   refine WL_val (dd := some 49) rfl rfl rfl (r_load1 (v := .int .i64 _) rfl tb_sc3 (At.cell hm0_0 rfl)) ?_
   refine WL_call (dd := some 50) rfl rfl rfl (r_call1 tb_c125 (v0 := .int .i64 _) rfl) (C_drawkniferef04_size _ _ (by first | assumption | omega) (by first | assumption | omega)) (fun v11_3 W67 hE68 hP11_3 => ?_)
   have hsz69 := (Below.size hB)
   replace hB := below_ext hB hE68 (Nat.le_refl _)
   replace hm0_0 := hE68.at hm0_0
   replace hP9_5 := hE68.ow hP9_5
   replace hP9_11 := hE68.ow hP9_11
   clear hE68
   clear hsz69
   obtain rfl := hP11_3
   refine WL_val (dd := some 51) rfl rfl rfl (r_lss rfl rfl) ?_
   refine WL_nil ?_
   refine hK66 _ _ ?_
   clear hK66 K65
   refine WC_cond (b := _) rfl (fun hc3 => ?_) (fun hc3 => ?_)
   ·
    try with_reducible replace hc3 := of_decide_eq_true hc3
    refine WC_skip ?_
    refine hK64 _ _ ?_
    clear hK64 K63
    refine WC_seq (fun K70 hK71 => ?_)
    refine WC_block ?_
    refine WC_seq (fun K72 hK73 => ?_)
    refine WC_region ?_
    refine WL_val (dd := some 54) rfl rfl rfl (r_move (v := xa) rfl) ?_
    refine WL_val (dd := some 55) rfl rfl rfl (r_move (v := .int .i64 _) rfl) ?_
    refine WL_val (dd := some 56) rfl rfl rfl (r_move (v := .int .i64 _) rfl) ?_
    refine WL_call (dd := some 57) rfl rfl rfl (r_call3 tb_c126 (v0 := xa) rfl (v1 := .int .i64 _) rfl (v2 := .int .i64 _) rfl) (C_drawkniferef04_Covered _ l p o _ (Below.slT hB hl) hlb hlr (by omega) (by omega)) (fun v13_3 W74 hE75 hP13_3 => ?_)
    have hsz76 := (Below.size hB)
    replace hB := below_ext hB hE75 (Nat.le_refl _)
    replace hm0_0 := hE75.at hm0_0
    replace hP9_5 := hE75.ow hP9_5
    replace hP9_11 := hE75.ow hP9_11
    clear hE75
    clear hsz76
    obtain rfl := hP13_3
    refine WL_val (dd := some 10) rfl rfl rfl (r_assign (v := .bool _) rfl) ?_
    refine WL_nil ?_
    refine hK73 _ _ ?_
    clear hK73 K72
    refine WC_seq (fun K77 hK78 => ?_)
    refine WC_region ?_
    refine WL_val (dd := some 58) rfl rfl rfl (r_move (v := v9_5) rfl) ?_
    refine WL_val (dd := some 59) rfl rfl rfl (r_move (v := .int .i64 _) rfl) ?_
    refine WL_val (dd := some 60) rfl rfl rfl (r_idxS (v := v9_5) rfl hP9_5.sl rfl tb_el43 (by omega) (by first | omega | (simp only [flagsTo_len, litsTo_len, firstF_len, ptF_len, setF_len]; omega))) ?_
    refine WL_val (dd := some 61) rfl rfl rfl (r_load1 (v := .bool _) rfl tb_sc4 (SlT.cell hP9_5.sl encB_len false (by omega) (by first | omega | (simp only [flagsTo_len, litsTo_len, firstF_len, ptF_len, setF_len]; omega)) 0 rfl)) ?_
    refine WL_split (dd := some 62) rfl rfl rfl (r_move (v := .bool _) rfl) (fun hs14_4 => ?_) (fun hs14_4 => ?_)
    ·
     try with_reducible replace hs14_4 := of_decide_eq_true hs14_4
     refine WL_val (dd := some 63) rfl rfl rfl (r_move (v := .bool _) rfl) ?_
     refine WL_val (dd := some 64) rfl rfl rfl (r_not rfl) ?_
     refine WL_val (dd := some 65) rfl rfl rfl (r_pick_t rfl (v := .bool _) rfl) ?_
     refine WL_split (dd := some 66) rfl rfl rfl (r_move (v := .bool _) rfl) (fun hs14_8 => ?_) (fun hs14_8 => ?_)
     ·
      try with_reducible replace hs14_8 := of_decide_eq_true hs14_8
      refine WL_skip (dd := some 67) rfl rfl rfl ?_
      refine WL_skip (dd := some 68) rfl rfl rfl ?_
      refine WL_skip (dd := some 69) rfl rfl rfl ?_
      refine WL_skip (dd := some 70) rfl rfl rfl ?_
      refine WL_skip (dd := some 71) rfl rfl rfl ?_
      refine WL_skip (dd := some 72) rfl rfl rfl ?_
      refine WL_skip (dd := some 73) rfl rfl rfl ?_
      refine WL_skip (dd := some 74) rfl rfl rfl ?_
      refine WL_val (dd := some 75) rfl rfl rfl (r_pick_t rfl (v := .bool true) rfl) ?_
      refine WL_nil ?_
      refine hK78 _ _ ?_
      clear hK78 K77
      refine WC_cond_true rfl ?_
      refine WC_seq (fun K79 hK80 => ?_)
      refine WC_region ?_
      refine WL_val (dd := some 4) rfl rfl rfl (r_assign (v := .bool false) rfl) ?_
      refine WL_nil ?_
      refine hK80 _ _ ?_
      clear hK80 K79
      refine WC_ret ?_
      repeat (first | refine thenQ_ret ?_ | refine blockQ_ret ?_)
      try clear hK71 K70
      try clear hJ62 J61
      try clear hK43 K42
      try clear hJ37 J36
      try clear hK31 K30
      refine ret_t (v := .bool false) rfl ?_
      refine ⟨hB, ?_⟩
      exact cov_ref_no hr hm (o := o) (p := p) (by omega) (by omega) (fun h => Bool.noConfusion ((h.1 (cr_y (by omega) hs14_4)).symm.trans (not_t hs14_8)))
     ·
      try with_reducible replace hs14_8 := of_decide_eq_false hs14_8
      refine WL_val (dd := some 67) rfl rfl rfl (r_move (v := .bool _) rfl) ?_
      refine WL_split (dd := some 68) rfl rfl rfl (r_move (v := .bool _) rfl) (fun hs14_10 => ?_) (fun hs14_10 => ?_)
      ·
       try with_reducible replace hs14_10 := of_decide_eq_true hs14_10
       refine WL_val (dd := some 69) rfl rfl rfl (r_move (v := v9_11) rfl) ?_
       refine WL_val (dd := some 70) rfl rfl rfl (r_move (v := .int .i64 _) rfl) ?_
       refine WL_val (dd := some 71) rfl rfl rfl (r_idxS (v := v9_11) rfl hP9_11.sl rfl tb_el43 (by omega) (by first | omega | (simp only [flagsTo_len, litsTo_len, firstF_len, ptF_len, setF_len]; omega))) ?_
       refine WL_val (dd := some 72) rfl rfl rfl (r_load1 (v := .bool _) rfl tb_sc4 (SlT.cell hP9_11.sl encB_len false (by omega) (by first | omega | (simp only [flagsTo_len, litsTo_len, firstF_len, ptF_len, setF_len]; omega)) 0 rfl)) ?_
       refine WL_val (dd := some 73) rfl rfl rfl (r_not rfl) ?_
       refine WL_val (dd := some 74) rfl rfl rfl (r_pick_t rfl (v := .bool _) rfl) ?_
       refine WL_val (dd := some 75) rfl rfl rfl (r_pick_f rfl (v := .bool _) rfl) ?_
       refine WL_nil ?_
       refine hK78 _ _ ?_
       clear hK78 K77
       refine WC_cond (b := _) rfl (fun hc4 => ?_) (fun hc4 => ?_)
       ·
        try with_reducible replace hc4 := of_decide_eq_true hc4
        refine WC_seq (fun K81 hK82 => ?_)
        refine WC_region ?_
        refine WL_val (dd := some 4) rfl rfl rfl (r_assign (v := .bool false) rfl) ?_
        refine WL_nil ?_
        refine hK82 _ _ ?_
        clear hK82 K81
        refine WC_ret ?_
        repeat (first | refine thenQ_ret ?_ | refine blockQ_ret ?_)
        try clear hK71 K70
        try clear hJ62 J61
        try clear hK43 K42
        try clear hJ37 J36
        try clear hK31 K30
        refine ret_t (v := .bool false) rfl ?_
        refine ⟨hB, ?_⟩
        exact cov_ref_no hr hm (o := o) (p := p) (by omega) (by omega) (fun h => cr_n (by omega) (not_t hc4) (h.2 hs14_10))
       ·
        try with_reducible replace hc4 := of_decide_eq_false hc4
        refine WC_skip ?_
        refine hK71 _ _ ?_
        clear hK71 K70
        refine WC_region ?_
        refine WL_val (dd := some 52) rfl rfl rfl (r_move (v := .int .i64 _) rfl) ?_
        refine WL_val (dd := some 53) rfl rfl rfl (r_addI rfl rfl (by omega) (by omega)) ?_
        refine WL_val (dd := some 9) rfl rfl rfl (r_assign (v := .int .i64 _) rfl) ?_
        refine WL_nil ?_
        refine hJ62 _ _ (p + 1) ?_ ?_ ?_ ?_
        · repeat (first | exact agree.mask _ _ _ | refine agree.updo ?_ rfl _ | refine agree.updL ?_ _ rfl | refine agree.maskS rfl ?_)
        · exact ⟨rfl, trivial⟩
        · exact ⟨hB, hm0_0, hP9_5, hap56, hP9_11, (by omega), (upTo_succ hq3 ⟨fun h1 => by first | exact not_f hs14_8 | exact hs14_10 | exact absurd h1 (cr_n (by omega) hs14_4), fun h2 => by first | exact cr_y (by omega) (not_f hc4) | exact absurd h2 (by rw [hs14_10]; decide)⟩), trivial⟩
        · first | omega | (dsimp only; omega)
      ·
       try with_reducible replace hs14_10 := of_decide_eq_false hs14_10
       refine WL_skip (dd := some 69) rfl rfl rfl ?_
       refine WL_skip (dd := some 70) rfl rfl rfl ?_
       refine WL_skip (dd := some 71) rfl rfl rfl ?_
       refine WL_skip (dd := some 72) rfl rfl rfl ?_
       refine WL_skip (dd := some 73) rfl rfl rfl ?_
       refine WL_val (dd := some 74) rfl rfl rfl (r_pick_f rfl (v := .bool false) rfl) ?_
       refine WL_val (dd := some 75) rfl rfl rfl (r_pick_f rfl (v := .bool false) rfl) ?_
       refine WL_nil ?_
       refine hK78 _ _ ?_
       clear hK78 K77
       refine WC_cond_false rfl ?_
       refine WC_skip ?_
       refine hK71 _ _ ?_
       clear hK71 K70
       refine WC_region ?_
       refine WL_val (dd := some 52) rfl rfl rfl (r_move (v := .int .i64 _) rfl) ?_
       refine WL_val (dd := some 53) rfl rfl rfl (r_addI rfl rfl (by omega) (by omega)) ?_
       refine WL_val (dd := some 9) rfl rfl rfl (r_assign (v := .int .i64 _) rfl) ?_
       refine WL_nil ?_
       refine hJ62 _ _ (p + 1) ?_ ?_ ?_ ?_
       · repeat (first | exact agree.mask _ _ _ | refine agree.updo ?_ rfl _ | refine agree.updL ?_ _ rfl | refine agree.maskS rfl ?_)
       · exact ⟨rfl, trivial⟩
       · exact ⟨hB, hm0_0, hP9_5, hap56, hP9_11, (by omega), (upTo_succ hq3 ⟨fun h1 => by first | exact not_f hs14_8 | exact hs14_10 | exact absurd h1 (cr_n (by omega) hs14_4), fun h2 => by first | exact cr_y (by omega) (not_f hc4) | exact absurd h2 (by rw [hs14_10]; decide)⟩), trivial⟩
       · first | omega | (dsimp only; omega)
    ·
     try with_reducible replace hs14_4 := of_decide_eq_false hs14_4
     refine WL_skip (dd := some 63) rfl rfl rfl ?_
     refine WL_skip (dd := some 64) rfl rfl rfl ?_
     refine WL_val (dd := some 65) rfl rfl rfl (r_pick_f rfl (v := .bool false) rfl) ?_
     refine WL_val (dd := some 66) rfl rfl rfl (r_move (v := .bool false) rfl) ?_
     refine WL_val (dd := some 67) rfl rfl rfl (r_move (v := .bool _) rfl) ?_
     refine WL_split (dd := some 68) rfl rfl rfl (r_move (v := .bool _) rfl) (fun hs14_10 => ?_) (fun hs14_10 => ?_)
     ·
      try with_reducible replace hs14_10 := of_decide_eq_true hs14_10
      refine WL_val (dd := some 69) rfl rfl rfl (r_move (v := v9_11) rfl) ?_
      refine WL_val (dd := some 70) rfl rfl rfl (r_move (v := .int .i64 _) rfl) ?_
      refine WL_val (dd := some 71) rfl rfl rfl (r_idxS (v := v9_11) rfl hP9_11.sl rfl tb_el43 (by omega) (by first | omega | (simp only [flagsTo_len, litsTo_len, firstF_len, ptF_len, setF_len]; omega))) ?_
      refine WL_val (dd := some 72) rfl rfl rfl (r_load1 (v := .bool _) rfl tb_sc4 (SlT.cell hP9_11.sl encB_len false (by omega) (by first | omega | (simp only [flagsTo_len, litsTo_len, firstF_len, ptF_len, setF_len]; omega)) 0 rfl)) ?_
      refine WL_val (dd := some 73) rfl rfl rfl (r_not rfl) ?_
      refine WL_val (dd := some 74) rfl rfl rfl (r_pick_t rfl (v := .bool _) rfl) ?_
      refine WL_val (dd := some 75) rfl rfl rfl (r_pick_f rfl (v := .bool _) rfl) ?_
      refine WL_nil ?_
      refine hK78 _ _ ?_
      clear hK78 K77
      refine WC_cond (b := _) rfl (fun hc4 => ?_) (fun hc4 => ?_)
      ·
       try with_reducible replace hc4 := of_decide_eq_true hc4
       refine WC_seq (fun K83 hK84 => ?_)
       refine WC_region ?_
       refine WL_val (dd := some 4) rfl rfl rfl (r_assign (v := .bool false) rfl) ?_
       refine WL_nil ?_
       refine hK84 _ _ ?_
       clear hK84 K83
       refine WC_ret ?_
       repeat (first | refine thenQ_ret ?_ | refine blockQ_ret ?_)
       try clear hK71 K70
       try clear hJ62 J61
       try clear hK43 K42
       try clear hJ37 J36
       try clear hK31 K30
       refine ret_t (v := .bool false) rfl ?_
       refine ⟨hB, ?_⟩
       exact cov_ref_no hr hm (o := o) (p := p) (by omega) (by omega) (fun h => cr_n (by omega) (not_t hc4) (h.2 hs14_10))
      ·
       try with_reducible replace hc4 := of_decide_eq_false hc4
       refine WC_skip ?_
       refine hK71 _ _ ?_
       clear hK71 K70
       refine WC_region ?_
       refine WL_val (dd := some 52) rfl rfl rfl (r_move (v := .int .i64 _) rfl) ?_
       refine WL_val (dd := some 53) rfl rfl rfl (r_addI rfl rfl (by omega) (by omega)) ?_
       refine WL_val (dd := some 9) rfl rfl rfl (r_assign (v := .int .i64 _) rfl) ?_
       refine WL_nil ?_
       refine hJ62 _ _ (p + 1) ?_ ?_ ?_ ?_
       · repeat (first | exact agree.mask _ _ _ | refine agree.updo ?_ rfl _ | refine agree.updL ?_ _ rfl | refine agree.maskS rfl ?_)
       · exact ⟨rfl, trivial⟩
       · exact ⟨hB, hm0_0, hP9_5, hap56, hP9_11, (by omega), (upTo_succ hq3 ⟨fun h1 => by first | exact not_f hs14_8 | exact hs14_10 | exact absurd h1 (cr_n (by omega) hs14_4), fun h2 => by first | exact cr_y (by omega) (not_f hc4) | exact absurd h2 (by rw [hs14_10]; decide)⟩), trivial⟩
       · first | omega | (dsimp only; omega)
     ·
      try with_reducible replace hs14_10 := of_decide_eq_false hs14_10
      refine WL_skip (dd := some 69) rfl rfl rfl ?_
      refine WL_skip (dd := some 70) rfl rfl rfl ?_
      refine WL_skip (dd := some 71) rfl rfl rfl ?_
      refine WL_skip (dd := some 72) rfl rfl rfl ?_
      refine WL_skip (dd := some 73) rfl rfl rfl ?_
      refine WL_val (dd := some 74) rfl rfl rfl (r_pick_f rfl (v := .bool false) rfl) ?_
      refine WL_val (dd := some 75) rfl rfl rfl (r_pick_f rfl (v := .bool false) rfl) ?_
      refine WL_nil ?_
      refine hK78 _ _ ?_
      clear hK78 K77
      refine WC_cond_false rfl ?_
      refine WC_skip ?_
      refine hK71 _ _ ?_
      clear hK71 K70
      refine WC_region ?_
      refine WL_val (dd := some 52) rfl rfl rfl (r_move (v := .int .i64 _) rfl) ?_
      refine WL_val (dd := some 53) rfl rfl rfl (r_addI rfl rfl (by omega) (by omega)) ?_
      refine WL_val (dd := some 9) rfl rfl rfl (r_assign (v := .int .i64 _) rfl) ?_
      refine WL_nil ?_
      refine hJ62 _ _ (p + 1) ?_ ?_ ?_ ?_
      · repeat (first | exact agree.mask _ _ _ | refine agree.updo ?_ rfl _ | refine agree.updL ?_ _ rfl | refine agree.maskS rfl ?_)
      · exact ⟨rfl, trivial⟩
      · exact ⟨hB, hm0_0, hP9_5, hap56, hP9_11, (by omega), (upTo_succ hq3 ⟨fun h1 => by first | exact not_f hs14_8 | exact hs14_10 | exact absurd h1 (cr_n (by omega) hs14_4), fun h2 => by first | exact cr_y (by omega) (not_f hc4) | exact absurd h2 (by rw [hs14_10]; decide)⟩), trivial⟩
      · first | omega | (dsimp only; omega)
   ·
    try with_reducible replace hc3 := of_decide_eq_false hc3
    refine WC_exit ?_
    refine hK43 _ _ ?_
    clear hK64 K63
    clear hJ62 J61
    clear hK43 K42
    refine WC_region ?_
    refine WL_val (dd := some 33) rfl rfl rfl (r_move (v := .int .i64 _) rfl) ?_
    refine WL_val (dd := some 34) rfl rfl rfl (r_addI rfl rfl (by omega) (by omega)) ?_
    refine WL_val (dd := some 6) rfl rfl rfl (r_assign (v := .int .i64 _) rfl) ?_
    refine WL_nil ?_
    refine hJ37 _ _ (o + 1) ?_ ?_ ?_ ?_
    · repeat (first | exact agree.mask _ _ _ | refine agree.updo ?_ rfl _ | refine agree.updL ?_ _ rfl | refine agree.maskS rfl ?_)
    · exact ⟨rfl, trivial⟩
    · exact ⟨hB, hm0_0, (by omega), (upTo_succ hq2 ((covO_iff hr hm (by omega)).2 (fun q hq => hq3 q (by omega)))), trivial⟩
    · first | omega | (dsimp only; omega)
  ·
   try with_reducible replace hc2 := of_decide_eq_false hc2
   refine WC_exit ?_
   refine hK31 _ _ ?_
   clear hK39 K38
   clear hJ37 J36
   clear hK31 K30
   refine WC_seq (fun K85 hK86 => ?_)
   refine WC_region ?_
   refine WL_val (dd := some 4) rfl rfl rfl (r_assign (v := .bool true) rfl) ?_
   refine WL_nil ?_
   refine hK86 _ _ ?_
   clear hK86 K85
   refine WC_ret ?_
   repeat (first | refine thenQ_ret ?_ | refine blockQ_ret ?_)
   refine ret_t (v := .bool true) rfl ?_
   refine ⟨hB, ?_⟩
   obtain rfl : o = S.on.length := by omega
   exact vb_t (covB_iff.2 ⟨hr, hm, hq2⟩)

end Go.Proofs.Ytdbcijijhhbkaaa
