/-
  The walks of what rows cover, and of the document's rows, primes and growing.
-/
import Derived.Test.YtnkaebjaeaecmaaDoorProg
import Derived.Test.YtnkaebjaeaecmaaDoorWMulti
import Derived.Test.YtnkaebjaeaecmaaDoorCov
namespace Go.Proofs.YtnkaebjaeaecmaaDoor
set_option linter.unusedVariables false
set_option linter.unusedSimpArgs false
open Go Go.RowKit

theorem tb_el40 : elemI Tryd.prog 40 = some (47, 3, 3) := by kernel_rfl
theorem tb_ag47 : aggN Tryd.prog 47 = some 3 := by kernel_rfl
theorem tb_z47 : zeroI Tryd.prog 47 = some (.agg #[.int .u8 0, .int .u8 0, .int .u8 0]) := by kernel_rfl
theorem tb_fo47_0 : fieldO Tryd.prog 47 0 = some 0 := by kernel_rfl
theorem tb_fo47_1 : fieldO Tryd.prog 47 1 = some 2 := by kernel_rfl
theorem tb_c39 : callB Tryd.prog 39 = true := by kernel_rfl
theorem tb_c40 : callB Tryd.prog 40 = true := by kernel_rfl
theorem tb_ag37 : aggN Tryd.prog 37 = some 3 := by kernel_rfl
theorem tb_c33 : callB Tryd.prog 33 = true := by kernel_rfl
theorem tb_c37 : callB Tryd.prog 37 = true := by kernel_rfl
theorem tb_c19 : callB Tryd.prog 19 = true := by kernel_rfl
theorem tb_c46 : callB Tryd.prog 46 = true := by kernel_rfl
theorem tb_c47 : callB Tryd.prog 47 = true := by kernel_rfl

theorem C_spec_may (S : Sp) (onV mayV : Value) (xa : Value) (l : List Rw) (w : World) (hon : SlT encS 4 w onV S.on) (hmay : SlT encS 4 w mayV S.may) (hl : SlT encR 3 w xa l) (hlb : l.length ≤ 2000000) (hlr : RowB l) (h4 : S.on.length ≤ 20) :
    Fn Tryd.prog 37 #[.agg #[.int .i64 S.n, onV, mayV], xa] w fun v w' => v = .bool (mayL S l) := by
  refine Fn_intro (n := 35) Tryd.func37 rfl rfl (Nat.le_of_ble_eq_true rfl) ?_
  have hB : Below w.heap.size w w := Below.refl _ _
  refine WC_seq (fun K1 hK2 => ?_)
  refine WC_region ?_
  refine WL_step (dd := some 2) rfl rfl rfl (Y_box (c := #[_, _, _]) rfl rfl (fun b0_0 W3 hb4 hE5 hm0_0 => ?_))
  have lo_b0_0 : w.heap.size ≤ b0_0 := hb4 ▸ (Below.size hB)
  clear hb4
  replace hB := below_ext hB hE5 (Nat.le_refl _)
  clear hE5
  refine WL_val (dd := some 4) rfl rfl rfl (r_assign (v := .bool false) rfl) ?_
  refine WL_nil ?_
  refine hK2 _ _ ?_
  clear hK2 K1
  refine WC_seq (fun K6 hK7 => ?_)
  refine WC_seq (fun K8 hK9 => ?_)
  refine WC_region ?_
  refine WL_val (dd := some 7) rfl rfl rfl (r_move (v := xa) rfl) ?_
  refine WL_val (dd := some 8) rfl rfl rfl (r_lenS (v := xa) rfl (Below.slT hB hl) tb_el40) ?_
  refine WL_val (dd := some 9) rfl rfl rfl (r_move (v := .int .i64 0) rfl) ?_
  refine WL_nil ?_
  refine hK9 _ _ ?_
  clear hK9 K8
  refine WC_block ?_
  refine WC_loop (σ := (Nat)) [4, 6, 9, 10, 11, 12, 13, 14, 15, 16, 17, 18, 19, 20, 21, 22, 23, 24, 25, 26, 27, 28, 29, 30, 31, 32, 33, 34] (fun k => [(9, .int .i64 (k : Int))]) (fun k W => (Below w.heap.size w W) ∧ (At W b0_0 _ 37) ∧ (k ≤ l.length) ∧ (∀ q, q < k → okR S (l.getD q ⟨⟨0, 0⟩, 0⟩) = true) ∧ (True)) (fun k => l.length - k) (0) ⟨rfl, trivial⟩ ⟨hB, hm0_0, (Nat.zero_le _), upTo_zero, trivial⟩ ?_
  clear hB hm0_0
  rintro k g11 W10 ⟨hB, hm0_0, hk, hq, _⟩ J12 hJ13
  refine WC_seq (fun K14 hK15 => ?_)
  refine WC_region ?_
  refine WL_val (dd := some 10) rfl rfl rfl (r_lss rfl rfl) ?_
  refine WL_nil ?_
  refine hK15 _ _ ?_
  clear hK15 K14
  refine WC_seq (fun K16 hK17 => ?_)
  refine WC_cond (b := _) rfl (fun hc0 => ?_) (fun hc0 => ?_)
  ·
    try with_reducible replace hc0 := dec_t hc0
    refine WC_skip ?_
    refine hK17 _ _ ?_
    clear hK17 K16
    refine WC_seq (fun K18 hK19 => ?_)
    refine WC_block ?_
    refine WC_seq (fun K20 hK21 => ?_)
    obtain ⟨hb1, hb2, hb3⟩ := hlr.get (k := k) (by omega)
    refine WC_region ?_
    refine WL_val (dd := some 11) rfl rfl rfl (r_idxS (v := xa) rfl (Below.slT hB hl) rfl tb_el40 (by omega) (by first | omega | (simp only [flagsTo_len, litsTo_len, firstF_len, ptF_len, setF_len]; omega))) ?_
    refine WL_val (dd := some 12) rfl rfl rfl (r_load3 rfl tb_ag47 (SlT.cell (Below.slT hB hl) encR_len ⟨⟨0, 0⟩, 0⟩ (by omega) (by first | omega | (simp only [flagsTo_len, litsTo_len, firstF_len, ptF_len, setF_len]; omega)) 0 rfl) (SlT.cell (Below.slT hB hl) encR_len ⟨⟨0, 0⟩, 0⟩ (by omega) (by first | omega | (simp only [flagsTo_len, litsTo_len, firstF_len, ptF_len, setF_len]; omega)) 1 rfl) (SlT.cell (Below.slT hB hl) encR_len ⟨⟨0, 0⟩, 0⟩ (by omega) (by first | omega | (simp only [flagsTo_len, litsTo_len, firstF_len, ptF_len, setF_len]; omega)) 2 rfl)) ?_
    refine WL_step (dd := some 6) rfl rfl rfl (Y_alloc tb_z47 rfl (fun b3_2 W22 hb23 hE24 hm3_2 => ?_))
    have lo_b3_2 : w.heap.size ≤ b3_2 := hb23 ▸ (Below.size hB)
    clear hb23
    replace hB := below_ext hB hE24 (Nat.le_refl _)
    replace hm0_0 := hE24.at hm0_0
    clear hE24
    refine WL_step (dd := none) rfl rfl rfl (Y_storeW rfl rfl tb_ag47 rfl hm3_2 rfl (by rfl) (fun W25 hG26 hm27 => ?_))
    replace hB := below_grown hB hG26 (Nat.le_refl _) (fun j hj => by cases hj; exact lo_b3_2)
    replace hm0_0 := At.grownAt hm0_0 hm3_2 hG26 (by decide)
    clear hG26 hm3_2
    have hm3_2 := hm27
    clear hm27
    refine WL_nil ?_
    refine hK21 _ _ ?_
    clear hK21 K20
    refine WC_seq (fun K28 hK29 => ?_)
    refine WC_draw Ext tb_mix (fun W30 hE31 => ?_)
    replace hB := below_ext hB hE31 (Nat.le_refl _)
    replace hm0_0 := hE31.at hm0_0
    replace hm3_2 := hE31.at hm3_2
    have hS := Ext.refl W30
    refine WT_take (dd := some 13) 0 rfl (by kernel_rfl) (by kernel_rfl) (by kernel_rfl) rfl rfl rfl (fun _wq _hq => r_fieldAddr (b := _) (o := _) rfl tb_fo47_0) hS ?_
    refine WT_take (dd := some 14) 1 rfl (by kernel_rfl) (by kernel_rfl) (by kernel_rfl) rfl rfl rfl (fun _wq hq => r_load2 rfl tb_ag42 (At.cell (hq.at hm3_2) rfl) (At.cell (hq.at hm3_2) rfl)) hS ?_
    refine WT_take (dd := some 15) 2 rfl (by kernel_rfl) (by kernel_rfl) (by kernel_rfl) rfl rfl rfl (fun _wq _hq => r_fieldAddr (b := _) (o := _) rfl tb_fo37_0) hS ?_
    refine WT_take (dd := some 16) 3 rfl (by kernel_rfl) (by kernel_rfl) (by kernel_rfl) rfl rfl rfl (fun _wq hq => r_load1 (v := .int .i64 _) rfl tb_sc3 (At.cell (hq.at hm0_0) rfl)) hS ?_
    refine WT_one (dd := some 17) 4 (by kernel_rfl) rfl rfl rfl rfl (Yd.call (r_call2 tb_c27 (v0 := .agg #[_, _]) rfl (v1 := .int .i64 _) rfl) (C_cube_Right _ _ _ _ hb1 hb2) (fun v4_4 W32 hE33 hP4_4 => ⟨.inl (hS.trans hE33), ?_⟩))
    have hsz34 := (Below.size hB)
    have sv35_hB := hB
    have sv35_hm0_0 := hm0_0
    have sv35_hm3_2 := hm3_2
    replace hB := below_ext hB hE33 (Nat.le_refl _)
    replace hm0_0 := hE33.at hm0_0
    replace hm3_2 := hE33.at hm3_2
    replace hS := hS.trans hE33
    clear hE33
    clear hsz34
    obtain rfl := hP4_4
    refine WT_take (dd := some 18) 5 rfl (by kernel_rfl) (by kernel_rfl) (by kernel_rfl) rfl rfl rfl (fun _wq _hq => r_not rfl) hS ?_
    refine WT_split (dd := some 19) 6 rfl (by kernel_rfl) (by kernel_rfl) (by kernel_rfl) rfl rfl rfl (fun wq hq => r_move (v := .bool _) rfl) hS (fun hs4_6 => ?_) (fun hs4_6 => ?_)
    ·
      try with_reducible replace hs4_6 := dec_t hs4_6
      refine WT_pass (dd := some 20) 7 rfl (by kernel_rfl) (by kernel_rfl) (by kernel_rfl) rfl rfl rfl hS ?_
      refine WT_pass (dd := some 21) 8 rfl (by kernel_rfl) (by kernel_rfl) (by kernel_rfl) rfl rfl rfl hS ?_
      refine WT_pass (dd := some 22) 9 rfl (by kernel_rfl) (by kernel_rfl) (by kernel_rfl) rfl rfl rfl hS ?_
      refine WT_take (dd := some 23) 10 rfl (by kernel_rfl) (by kernel_rfl) (by kernel_rfl) rfl rfl rfl (fun _wq _hq => r_pick_t rfl (v := .bool true) rfl) hS ?_
      refine WT_take (dd := some 24) 11 rfl (by kernel_rfl) (by kernel_rfl) (by kernel_rfl) rfl rfl rfl (fun _wq _hq => r_move (v := .bool true) rfl) hS ?_
      refine WT_pass (dd := some 25) 12 rfl (by kernel_rfl) (by kernel_rfl) (by kernel_rfl) rfl rfl rfl hS ?_
      refine WT_pass (dd := some 26) 13 rfl (by kernel_rfl) (by kernel_rfl) (by kernel_rfl) rfl rfl rfl hS ?_
      refine WT_pass (dd := some 27) 14 rfl (by kernel_rfl) (by kernel_rfl) (by kernel_rfl) rfl rfl rfl hS ?_
      refine WT_pass (dd := some 28) 15 rfl (by kernel_rfl) (by kernel_rfl) (by kernel_rfl) rfl rfl rfl hS ?_
      refine WT_pass (dd := some 29) 16 rfl (by kernel_rfl) (by kernel_rfl) (by kernel_rfl) rfl rfl rfl hS ?_
      refine WT_pass (dd := some 30) 17 rfl (by kernel_rfl) (by kernel_rfl) (by kernel_rfl) rfl rfl rfl hS ?_
      refine WT_pass (dd := some 31) 18 rfl (by kernel_rfl) (by kernel_rfl) (by kernel_rfl) rfl rfl rfl hS ?_
      refine WT_pass (dd := some 32) 19 rfl (by kernel_rfl) (by kernel_rfl) (by kernel_rfl) rfl rfl rfl hS ?_
      refine WT_take (dd := some 33) 20 rfl (by kernel_rfl) (by kernel_rfl) (by kernel_rfl) rfl rfl rfl (fun _wq _hq => r_pick_t rfl (v := .bool true) rfl) hS ?_
      refine WT_done (by kernel_rfl) ?_
      try clear sv35_hB sv35_hm0_0 sv35_hm3_2
      refine hK29 _ _ ?_
      clear hK29 K28
      refine WC_cond_true rfl ?_
      refine WC_seq (fun K36 hK37 => ?_)
      refine WC_region ?_
      refine WL_val (dd := some 4) rfl rfl rfl (r_assign (v := .bool false) rfl) ?_
      refine WL_nil ?_
      refine hK37 _ _ ?_
      clear hK37 K36
      refine WC_ret ?_
      repeat (first | refine thenQ_ret ?_ | refine blockQ_ret ?_)
      try clear hK19 K18
      try clear hJ13 J12
      try clear hK7 K6
      refine ret_t (v := .bool false) rfl ?_
      refine ⟨hB, ?_⟩
      exact may_f (k := k) (by omega) (okR_1 hs4_6)
    ·
      try with_reducible replace hs4_6 := dec_f hs4_6
      refine WT_take (dd := some 20) 7 rfl (by kernel_rfl) (by kernel_rfl) (by kernel_rfl) rfl rfl rfl (fun _wq _hq => r_fieldAddr (b := _) (o := _) rfl tb_fo47_1) hS ?_
      refine WT_take (dd := some 21) 8 rfl (by kernel_rfl) (by kernel_rfl) (by kernel_rfl) rfl rfl rfl (fun _wq hq => r_load1 (v := .int .u8 _) rfl tb_sc5 (At.cell (hq.at sv35_hm3_2) rfl)) hS ?_
      refine WT_take (dd := some 22) 9 rfl (by kernel_rfl) (by kernel_rfl) (by kernel_rfl) rfl rfl rfl (fun _wq _hq => r_eql rfl rfl) hS ?_
      refine WT_take (dd := some 23) 10 rfl (by kernel_rfl) (by kernel_rfl) (by kernel_rfl) rfl rfl rfl (fun _wq _hq => r_pick_f rfl (v := .bool _) rfl) hS ?_
      refine WT_split (dd := some 24) 11 rfl (by kernel_rfl) (by kernel_rfl) (by kernel_rfl) rfl rfl rfl (fun wq hq => r_move (v := .bool _) rfl) hS (fun hs4_11 => ?_) (fun hs4_11 => ?_)
      ·
        try with_reducible replace hs4_11 := dec_t hs4_11
        refine WT_pass (dd := some 25) 12 rfl (by kernel_rfl) (by kernel_rfl) (by kernel_rfl) rfl rfl rfl hS ?_
        refine WT_pass (dd := some 26) 13 rfl (by kernel_rfl) (by kernel_rfl) (by kernel_rfl) rfl rfl rfl hS ?_
        refine WT_pass (dd := some 27) 14 rfl (by kernel_rfl) (by kernel_rfl) (by kernel_rfl) rfl rfl rfl hS ?_
        refine WT_pass (dd := some 28) 15 rfl (by kernel_rfl) (by kernel_rfl) (by kernel_rfl) rfl rfl rfl hS ?_
        refine WT_pass (dd := some 29) 16 rfl (by kernel_rfl) (by kernel_rfl) (by kernel_rfl) rfl rfl rfl hS ?_
        refine WT_pass (dd := some 30) 17 rfl (by kernel_rfl) (by kernel_rfl) (by kernel_rfl) rfl rfl rfl hS ?_
        refine WT_pass (dd := some 31) 18 rfl (by kernel_rfl) (by kernel_rfl) (by kernel_rfl) rfl rfl rfl hS ?_
        refine WT_pass (dd := some 32) 19 rfl (by kernel_rfl) (by kernel_rfl) (by kernel_rfl) rfl rfl rfl hS ?_
        refine WT_take (dd := some 33) 20 rfl (by kernel_rfl) (by kernel_rfl) (by kernel_rfl) rfl rfl rfl (fun _wq _hq => r_pick_t rfl (v := .bool true) rfl) hS ?_
        refine WT_done (by kernel_rfl) ?_
        try clear sv35_hB sv35_hm0_0 sv35_hm3_2
        refine hK29 _ _ ?_
        clear hK29 K28
        refine WC_cond_true rfl ?_
        refine WC_seq (fun K38 hK39 => ?_)
        refine WC_region ?_
        refine WL_val (dd := some 4) rfl rfl rfl (r_assign (v := .bool false) rfl) ?_
        refine WL_nil ?_
        refine hK39 _ _ ?_
        clear hK39 K38
        refine WC_ret ?_
        repeat (first | refine thenQ_ret ?_ | refine blockQ_ret ?_)
        try clear hK19 K18
        try clear hJ13 J12
        try clear hK7 K6
        refine ret_t (v := .bool false) rfl ?_
        refine ⟨hB, ?_⟩
        exact may_f (k := k) (by omega) (okR_2 hs4_11)
      ·
        try with_reducible replace hs4_11 := dec_f hs4_11
        refine WT_take (dd := some 25) 12 rfl (by kernel_rfl) (by kernel_rfl) (by kernel_rfl) rfl rfl rfl (fun _wq _hq => r_fieldAddr (b := _) (o := _) rfl tb_fo47_1) hS ?_
        refine WT_take (dd := some 26) 13 rfl (by kernel_rfl) (by kernel_rfl) (by kernel_rfl) rfl rfl rfl (fun _wq hq => r_load1 (v := .int .u8 _) rfl tb_sc5 (At.cell (hq.at sv35_hm3_2) rfl)) hS ?_
        refine WT_take (dd := some 27) 14 rfl (by kernel_rfl) (by kernel_rfl) (by kernel_rfl) rfl rfl rfl (fun _wq _hq => r_convN rfl Tryd.underlying5 Tryd.underlying3 (by show (l.getD k ⟨⟨0, 0⟩, 0⟩).o < 9223372036854775808; omega)) hS ?_
        refine WT_take (dd := some 28) 15 rfl (by kernel_rfl) (by kernel_rfl) (by kernel_rfl) rfl rfl rfl (fun _wq _hq => r_fieldAddr (b := _) (o := _) rfl tb_fo37_1) hS ?_
        refine WT_take (dd := some 29) 16 rfl (by kernel_rfl) (by kernel_rfl) (by kernel_rfl) rfl rfl rfl (fun _wq hq => r_load1 (v := onV) rfl tb_sc35 (At.cell (hq.at sv35_hm0_0) rfl)) hS ?_
        refine WT_take (dd := some 30) 17 rfl (by kernel_rfl) (by kernel_rfl) (by kernel_rfl) rfl rfl rfl (fun _wq hq => r_lenS (v := onV) rfl (hq.slT (Below.slT sv35_hB hon)) tb_el35) hS ?_
        refine WT_take (dd := some 31) 18 rfl (by kernel_rfl) (by kernel_rfl) (by kernel_rfl) rfl rfl rfl (fun _wq _hq => r_shl (m := 1) rfl rfl (by omega) (by simp only [IntKind.bits]; omega) (by exact shl1 _ _ (by simp only [bitsN]; omega))) hS ?_
        refine WT_take (dd := some 32) 19 rfl (by kernel_rfl) (by kernel_rfl) (by kernel_rfl) rfl rfl rfl (fun _wq _hq => r_geq rfl rfl) hS ?_
        refine WT_take (dd := some 33) 20 rfl (by kernel_rfl) (by kernel_rfl) (by kernel_rfl) rfl rfl rfl (fun _wq _hq => r_pick_f rfl (v := .bool _) rfl) hS ?_
        refine WT_done (by kernel_rfl) ?_
        try clear sv35_hB sv35_hm0_0 sv35_hm3_2
        refine hK29 _ _ ?_
        clear hK29 K28
        refine WC_cond (b := _) rfl (fun hc1 => ?_) (fun hc1 => ?_)
        ·
          try with_reducible replace hc1 := dec_t hc1
          refine WC_seq (fun K40 hK41 => ?_)
          refine WC_region ?_
          refine WL_val (dd := some 4) rfl rfl rfl (r_assign (v := .bool false) rfl) ?_
          refine WL_nil ?_
          refine hK41 _ _ ?_
          clear hK41 K40
          refine WC_ret ?_
          repeat (first | refine thenQ_ret ?_ | refine blockQ_ret ?_)
          try clear hK19 K18
          try clear hJ13 J12
          try clear hK7 K6
          refine ret_t (v := .bool false) rfl ?_
          refine ⟨hB, ?_⟩
          exact may_f (k := k) (by omega) (okR_3 hc1)
        ·
          try with_reducible replace hc1 := dec_f hc1
          refine WC_skip ?_
          refine hK19 _ _ ?_
          clear hK19 K18
          refine WC_region ?_
          refine WL_val (dd := some 34) rfl rfl rfl (r_addI rfl rfl (by omega) (by omega)) ?_
          refine WL_val (dd := some 9) rfl rfl rfl (r_move (v := .int .i64 _) rfl) ?_
          refine WL_nil ?_
          refine hJ13 _ _ (k + 1) ?_ ?_ ?_ ?_
          · repeat (first | exact agree.mask _ _ _ | refine agree.updo ?_ rfl _ | refine agree.updL ?_ _ rfl | refine agree.maskS rfl ?_)
          · exact ⟨rfl, trivial⟩
          · exact ⟨hB, hm0_0, (by omega), (upTo_succ hq (okR_t (x := (l.getD k ⟨⟨0, 0⟩, 0⟩)) hs4_6 hs4_11 hc1)), trivial⟩
          · first | omega | (dsimp only; omega)
  ·
    try with_reducible replace hc0 := dec_f hc0
    refine WC_exit ?_
    refine hK7 _ _ ?_
    clear hK17 K16
    clear hJ13 J12
    clear hK7 K6
    refine WC_seq (fun K42 hK43 => ?_)
    refine WC_region ?_
    refine WL_val (dd := some 4) rfl rfl rfl (r_assign (v := .bool true) rfl) ?_
    refine WL_nil ?_
    refine hK43 _ _ ?_
    clear hK43 K42
    refine WC_ret ?_
    repeat (first | refine thenQ_ret ?_ | refine blockQ_ret ?_)
    refine ret_t (v := .bool true) rfl ?_
    refine ⟨hB, ?_⟩
    obtain rfl : k = l.length := by omega
    exact vb_t (mayL_iff.2 hq)

theorem C_spec_Points (xa : Value) (l : List Rw) (n out : Int) (w : World) (hl : SlT encR 3 w xa l) (hlb : l.length ≤ 2000000) (hlr : RowB l) :
    Fn Tryd.prog 19 #[xa, .int .i64 n, .int .i64 out] w fun v w' => v = if ptOk l n out = true then .tuple #[setV (ptsR l n.toNat out.toNat l.length), .int .i64 0] else .tuple #[setV 0, .int .i64 1] := by
  refine Fn_intro (n := 56) Tryd.func19 rfl rfl (Nat.le_of_ble_eq_true rfl) ?_
  have hB : Below w.heap.size w w := Below.refl _ _
  refine WC_seq (fun K1 hK2 => ?_)
  refine WC_region ?_
  refine WL_step (dd := some 6) rfl rfl rfl (Y_alloc tb_z51 rfl (fun b0_0 W3 hb4 hE5 hm0_0 => ?_))
  have lo_b0_0 : w.heap.size ≤ b0_0 := hb4 ▸ (Below.size hB)
  clear hb4
  replace hB := below_ext hB hE5 (Nat.le_refl _)
  clear hE5
  replace hm0_0 : At W3 b0_0 #[wv 0 0, wv 0 1, wv 0 2, wv 0 3] 51 := hm0_0
  refine WL_val (dd := some 7) rfl rfl rfl (r_assign (v := .int .i64 0) rfl) ?_
  refine WL_nil ?_
  refine hK2 _ _ ?_
  clear hK2 K1
  refine WC_seq (fun K6 hK7 => ?_)
  refine WC_seq (fun K8 hK9 => ?_)
  refine WC_region ?_
  refine WL_val (dd := some 13) rfl rfl rfl (r_move (v := .int .i64 _) rfl) ?_
  refine WL_val (dd := some 14) rfl rfl rfl (r_lss rfl rfl) ?_
  refine WL_split (dd := some 15) rfl rfl rfl (r_move (v := .bool _) rfl) (fun hs1_2 => ?_) (fun hs1_2 => ?_)
  ·
    try with_reducible replace hs1_2 := dec_t hs1_2
    refine WL_skip (dd := some 16) rfl rfl rfl ?_
    refine WL_skip (dd := some 17) rfl rfl rfl ?_
    refine WL_val (dd := some 18) rfl rfl rfl (r_pick_t rfl (v := .bool true) rfl) ?_
    refine WL_val (dd := some 19) rfl rfl rfl (r_move (v := .bool true) rfl) ?_
    refine WL_skip (dd := some 20) rfl rfl rfl ?_
    refine WL_skip (dd := some 21) rfl rfl rfl ?_
    refine WL_val (dd := some 22) rfl rfl rfl (r_pick_t rfl (v := .bool true) rfl) ?_
    refine WL_val (dd := some 23) rfl rfl rfl (r_move (v := .bool true) rfl) ?_
    refine WL_skip (dd := some 24) rfl rfl rfl ?_
    refine WL_skip (dd := some 25) rfl rfl rfl ?_
    refine WL_val (dd := some 26) rfl rfl rfl (r_pick_t rfl (v := .bool true) rfl) ?_
    refine WL_nil ?_
    refine hK9 _ _ ?_
    clear hK9 K8
    refine WC_cond_true rfl ?_
    refine WC_seq (fun K10 hK11 => ?_)
    refine WC_region ?_
    refine WL_val (dd := some 27) (v := setV 0) rfl rfl rfl (tb_build51_ ) ?_
    refine WL_step (dd := none) rfl rfl rfl (Y_storeW rfl rfl tb_ag51 rfl hm0_0 rfl (by rfl) (fun W12 hG13 hm14 => ?_))
    replace hB := below_grown hB hG13 (Nat.le_refl _) (fun j hj => by cases hj; exact lo_b0_0)
    clear hG13 hm0_0
    have hm0_0 := hm14
    clear hm14
    refine WL_val (dd := some 7) rfl rfl rfl (r_assign (v := .int .i64 1) rfl) ?_
    refine WL_nil ?_
    refine hK11 _ _ ?_
    clear hK11 K10
    refine WC_ret ?_
    repeat (first | refine thenQ_ret ?_ | refine blockQ_ret ?_)
    try clear hK7 K6
    refine ret_ct rfl tb_ag51 hm0_0 rfl (v1 := .int .i64 1) rfl ?_
    refine ⟨hB, ?_⟩
    rw [if_neg (ptOk_no (by omega))]
  ·
    try with_reducible replace hs1_2 := dec_f hs1_2
    refine WL_val (dd := some 16) rfl rfl rfl (r_move (v := .int .i64 _) rfl) ?_
    refine WL_val (dd := some 17) rfl rfl rfl (r_gtr rfl rfl) ?_
    refine WL_val (dd := some 18) rfl rfl rfl (r_pick_f rfl (v := .bool _) rfl) ?_
    refine WL_split (dd := some 19) rfl rfl rfl (r_move (v := .bool _) rfl) (fun hs1_6 => ?_) (fun hs1_6 => ?_)
    ·
      try with_reducible replace hs1_6 := dec_t hs1_6
      refine WL_skip (dd := some 20) rfl rfl rfl ?_
      refine WL_skip (dd := some 21) rfl rfl rfl ?_
      refine WL_val (dd := some 22) rfl rfl rfl (r_pick_t rfl (v := .bool true) rfl) ?_
      refine WL_val (dd := some 23) rfl rfl rfl (r_move (v := .bool true) rfl) ?_
      refine WL_skip (dd := some 24) rfl rfl rfl ?_
      refine WL_skip (dd := some 25) rfl rfl rfl ?_
      refine WL_val (dd := some 26) rfl rfl rfl (r_pick_t rfl (v := .bool true) rfl) ?_
      refine WL_nil ?_
      refine hK9 _ _ ?_
      clear hK9 K8
      refine WC_cond_true rfl ?_
      refine WC_seq (fun K15 hK16 => ?_)
      refine WC_region ?_
      refine WL_val (dd := some 27) (v := setV 0) rfl rfl rfl (tb_build51_ ) ?_
      refine WL_step (dd := none) rfl rfl rfl (Y_storeW rfl rfl tb_ag51 rfl hm0_0 rfl (by rfl) (fun W17 hG18 hm19 => ?_))
      replace hB := below_grown hB hG18 (Nat.le_refl _) (fun j hj => by cases hj; exact lo_b0_0)
      clear hG18 hm0_0
      have hm0_0 := hm19
      clear hm19
      refine WL_val (dd := some 7) rfl rfl rfl (r_assign (v := .int .i64 1) rfl) ?_
      refine WL_nil ?_
      refine hK16 _ _ ?_
      clear hK16 K15
      refine WC_ret ?_
      repeat (first | refine thenQ_ret ?_ | refine blockQ_ret ?_)
      try clear hK7 K6
      refine ret_ct rfl tb_ag51 hm0_0 rfl (v1 := .int .i64 1) rfl ?_
      refine ⟨hB, ?_⟩
      rw [if_neg (ptOk_no (by omega))]
    ·
      try with_reducible replace hs1_6 := dec_f hs1_6
      refine WL_val (dd := some 20) rfl rfl rfl (r_move (v := .int .i64 _) rfl) ?_
      refine WL_val (dd := some 21) rfl rfl rfl (r_lss rfl rfl) ?_
      refine WL_val (dd := some 22) rfl rfl rfl (r_pick_f rfl (v := .bool _) rfl) ?_
      refine WL_split (dd := some 23) rfl rfl rfl (r_move (v := .bool _) rfl) (fun hs1_10 => ?_) (fun hs1_10 => ?_)
      ·
        try with_reducible replace hs1_10 := dec_t hs1_10
        refine WL_skip (dd := some 24) rfl rfl rfl ?_
        refine WL_skip (dd := some 25) rfl rfl rfl ?_
        refine WL_val (dd := some 26) rfl rfl rfl (r_pick_t rfl (v := .bool true) rfl) ?_
        refine WL_nil ?_
        refine hK9 _ _ ?_
        clear hK9 K8
        refine WC_cond_true rfl ?_
        refine WC_seq (fun K20 hK21 => ?_)
        refine WC_region ?_
        refine WL_val (dd := some 27) (v := setV 0) rfl rfl rfl (tb_build51_ ) ?_
        refine WL_step (dd := none) rfl rfl rfl (Y_storeW rfl rfl tb_ag51 rfl hm0_0 rfl (by rfl) (fun W22 hG23 hm24 => ?_))
        replace hB := below_grown hB hG23 (Nat.le_refl _) (fun j hj => by cases hj; exact lo_b0_0)
        clear hG23 hm0_0
        have hm0_0 := hm24
        clear hm24
        refine WL_val (dd := some 7) rfl rfl rfl (r_assign (v := .int .i64 1) rfl) ?_
        refine WL_nil ?_
        refine hK21 _ _ ?_
        clear hK21 K20
        refine WC_ret ?_
        repeat (first | refine thenQ_ret ?_ | refine blockQ_ret ?_)
        try clear hK7 K6
        refine ret_ct rfl tb_ag51 hm0_0 rfl (v1 := .int .i64 1) rfl ?_
        refine ⟨hB, ?_⟩
        rw [if_neg (ptOk_no (by omega))]
      ·
        try with_reducible replace hs1_10 := dec_f hs1_10
        refine WL_val (dd := some 24) rfl rfl rfl (r_move (v := .int .i64 _) rfl) ?_
        refine WL_val (dd := some 25) rfl rfl rfl (r_geq rfl rfl) ?_
        refine WL_val (dd := some 26) rfl rfl rfl (r_pick_f rfl (v := .bool _) rfl) ?_
        refine WL_nil ?_
        refine hK9 _ _ ?_
        clear hK9 K8
        refine WC_cond (b := _) rfl (fun hc0 => ?_) (fun hc0 => ?_)
        ·
          try with_reducible replace hc0 := dec_t hc0
          refine WC_seq (fun K25 hK26 => ?_)
          refine WC_region ?_
          refine WL_val (dd := some 27) (v := setV 0) rfl rfl rfl (tb_build51_ ) ?_
          refine WL_step (dd := none) rfl rfl rfl (Y_storeW rfl rfl tb_ag51 rfl hm0_0 rfl (by rfl) (fun W27 hG28 hm29 => ?_))
          replace hB := below_grown hB hG28 (Nat.le_refl _) (fun j hj => by cases hj; exact lo_b0_0)
          clear hG28 hm0_0
          have hm0_0 := hm29
          clear hm29
          refine WL_val (dd := some 7) rfl rfl rfl (r_assign (v := .int .i64 1) rfl) ?_
          refine WL_nil ?_
          refine hK26 _ _ ?_
          clear hK26 K25
          refine WC_ret ?_
          repeat (first | refine thenQ_ret ?_ | refine blockQ_ret ?_)
          try clear hK7 K6
          refine ret_ct rfl tb_ag51 hm0_0 rfl (v1 := .int .i64 1) rfl ?_
          refine ⟨hB, ?_⟩
          rw [if_neg (ptOk_no (by omega))]
        ·
          try with_reducible replace hc0 := dec_f hc0
          refine WC_skip ?_
          refine hK7 _ _ ?_
          clear hK7 K6
          refine WC_seq (fun K30 hK31 => ?_)
          refine WC_region ?_
          refine WL_step (dd := some 8) rfl rfl rfl (Y_alloc tb_z51 rfl (fun b3_0 W32 hb33 hE34 hm3_0 => ?_))
          have lo_b3_0 : w.heap.size ≤ b3_0 := hb33 ▸ (Below.size hB)
          have ne_b0_0_b3_0 : b0_0 ≠ b3_0 := Nat.ne_of_lt (hb33 ▸ hm0_0.lt)
          clear hb33
          replace hB := below_ext hB hE34 (Nat.le_refl _)
          replace hm0_0 := hE34.at hm0_0
          clear hE34
          replace hm3_0 : At W32 b3_0 #[wv 0 0, wv 0 1, wv 0 2, wv 0 3] 51 := hm3_0
          refine WL_nil ?_
          refine hK31 _ _ ?_
          clear hK31 K30
          refine WC_seq (fun K35 hK36 => ?_)
          refine WC_seq (fun K37 hK38 => ?_)
          refine WC_region ?_
          refine WL_val (dd := some 28) rfl rfl rfl (r_move (v := xa) rfl) ?_
          refine WL_val (dd := some 29) rfl rfl rfl (r_lenS (v := xa) rfl (Below.slT hB hl) tb_el40) ?_
          refine WL_val (dd := some 30) rfl rfl rfl (r_move (v := .int .i64 0) rfl) ?_
          refine WL_nil ?_
          refine hK38 _ _ ?_
          clear hK38 K37
          refine WC_block ?_
          refine WC_loop (σ := (Nat)) [7, 10, 11, 12, 30, 31, 32, 33, 34, 35, 36, 37, 38, 39, 40, 41, 42, 43, 44, 45, 46, 47, 48, 49, 50, 51, 52, 53, 54] (fun k => [(30, .int .i64 (k : Int))]) (fun k W => (Below w.heap.size w W) ∧ (At W b0_0 _ 51) ∧ (At W b3_0 #[wv (ptsR l n.toNat out.toNat k) 0, wv (ptsR l n.toNat out.toNat k) 1, wv (ptsR l n.toNat out.toNat k) 2, wv (ptsR l n.toNat out.toNat k) 3] 51) ∧ (k ≤ l.length) ∧ (∀ q, q < k → rightB (l.getD q ⟨⟨0, 0⟩, 0⟩).c.m (l.getD q ⟨⟨0, 0⟩, 0⟩).c.v n = true) ∧ (True)) (fun k => l.length - k) (0) ⟨rfl, trivial⟩ ⟨hB, hm0_0, hm3_0, (Nat.zero_le _), upTo_zero, trivial⟩ ?_
          clear hB hm0_0 hm3_0
          rintro k g40 W39 ⟨hB, hm0_0, hm3_0, hk, hq, _⟩ J41 hJ42
          refine WC_seq (fun K43 hK44 => ?_)
          refine WC_region ?_
          refine WL_val (dd := some 31) rfl rfl rfl (r_lss rfl rfl) ?_
          refine WL_nil ?_
          refine hK44 _ _ ?_
          clear hK44 K43
          refine WC_seq (fun K45 hK46 => ?_)
          refine WC_cond (b := _) rfl (fun hc1 => ?_) (fun hc1 => ?_)
          ·
            try with_reducible replace hc1 := dec_t hc1
            refine WC_skip ?_
            refine hK46 _ _ ?_
            clear hK46 K45
            refine WC_seq (fun K47 hK48 => ?_)
            refine WC_block ?_
            refine WC_seq (fun K49 hK50 => ?_)
            obtain ⟨hb1, hb2, hb3⟩ := hlr.get (k := k) (by omega)
            have hb4 : (l.getD k ⟨⟨0, 0⟩, 0⟩).o / 2 ^ out.toNat ≤ (l.getD k ⟨⟨0, 0⟩, 0⟩).o := Nat.div_le_self _ _
            refine WC_region ?_
            refine WL_val (dd := some 32) rfl rfl rfl (r_idxS (v := xa) rfl (Below.slT hB hl) rfl tb_el40 (by omega) (by first | omega | (simp only [flagsTo_len, litsTo_len, firstF_len, ptF_len, setF_len]; omega))) ?_
            refine WL_val (dd := some 33) rfl rfl rfl (r_load3 rfl tb_ag47 (SlT.cell (Below.slT hB hl) encR_len ⟨⟨0, 0⟩, 0⟩ (by omega) (by first | omega | (simp only [flagsTo_len, litsTo_len, firstF_len, ptF_len, setF_len]; omega)) 0 rfl) (SlT.cell (Below.slT hB hl) encR_len ⟨⟨0, 0⟩, 0⟩ (by omega) (by first | omega | (simp only [flagsTo_len, litsTo_len, firstF_len, ptF_len, setF_len]; omega)) 1 rfl) (SlT.cell (Below.slT hB hl) encR_len ⟨⟨0, 0⟩, 0⟩ (by omega) (by first | omega | (simp only [flagsTo_len, litsTo_len, firstF_len, ptF_len, setF_len]; omega)) 2 rfl)) ?_
            refine WL_step (dd := some 10) rfl rfl rfl (Y_alloc tb_z47 rfl (fun b6_2 W51 hb52 hE53 hm6_2 => ?_))
            have lo_b6_2 : w.heap.size ≤ b6_2 := hb52 ▸ (Below.size hB)
            clear hb52
            replace hB := below_ext hB hE53 (Nat.le_refl _)
            replace hm0_0 := hE53.at hm0_0
            replace hm3_0 := hE53.at hm3_0
            clear hE53
            refine WL_step (dd := none) rfl rfl rfl (Y_storeW rfl rfl tb_ag47 rfl hm6_2 rfl (by rfl) (fun W54 hG55 hm56 => ?_))
            replace hB := below_grown hB hG55 (Nat.le_refl _) (fun j hj => by cases hj; exact lo_b6_2)
            replace hm0_0 := At.grownAt hm0_0 hm6_2 hG55 (by decide)
            replace hm3_0 := At.grownAt hm3_0 hm6_2 hG55 (by decide)
            clear hG55 hm6_2
            have hm6_2 := hm56
            clear hm56
            refine WL_nil ?_
            refine hK50 _ _ ?_
            clear hK50 K49
            refine WC_seq (fun K57 hK58 => ?_)
            refine WC_region ?_
            refine WL_val (dd := some 35) rfl rfl rfl (r_fieldAddr (b := _) (o := _) rfl tb_fo47_0) ?_
            refine WL_val (dd := some 36) rfl rfl rfl (r_load2 rfl tb_ag42 (At.cell hm6_2 rfl) (At.cell hm6_2 rfl)) ?_
            refine WL_val (dd := some 37) rfl rfl rfl (r_move (v := .int .i64 _) rfl) ?_
            refine WL_call (dd := some 38) rfl rfl rfl (r_call2 tb_c39 (v0 := .agg #[_, _]) rfl (v1 := .int .i64 _) rfl) (C_cube_Points _ _ _ _ hb1 hb2) (fun v7_3 W59 hE60 hP7_3 => ?_)
            have hsz61 := (Below.size hB)
            replace hB := below_ext hB hE60 (Nat.le_refl _)
            replace hm0_0 := hE60.at hm0_0
            replace hm3_0 := hE60.at hm3_0
            replace hm6_2 := hE60.at hm6_2
            clear hE60
            obtain ⟨sa, er, rfl, hhP7_3⟩ := pts_cases hP7_3
            clear hsz61
            refine WL_val (dd := some 34) rfl rfl rfl (r_move (v := .tuple #[.agg #[_, _, _, _], .int .i64 _]) rfl) ?_
            refine WL_val (dd := some 39) rfl rfl rfl (r_ext2_0 (h := rfl)) ?_
            refine WL_val (dd := some 40) rfl rfl rfl (r_ext2_1 (h := rfl)) ?_
            refine WL_step (dd := some 11) rfl rfl rfl (Y_alloc tb_z51 rfl (fun b7_7 W62 hb63 hE64 hm7_7 => ?_))
            have lo_b7_7 : w.heap.size ≤ b7_7 := hb63 ▸ (Below.size hB)
            have ne_b0_0_b7_7 : b0_0 ≠ b7_7 := Nat.ne_of_lt (hb63 ▸ hm0_0.lt)
            have ne_b3_0_b7_7 : b3_0 ≠ b7_7 := Nat.ne_of_lt (hb63 ▸ hm3_0.lt)
            clear hb63
            replace hB := below_ext hB hE64 (Nat.le_refl _)
            replace hm0_0 := hE64.at hm0_0
            replace hm3_0 := hE64.at hm3_0
            replace hm6_2 := hE64.at hm6_2
            clear hE64
            replace hm7_7 : At W62 b7_7 #[wv 0 0, wv 0 1, wv 0 2, wv 0 3] 51 := hm7_7
            refine WL_step (dd := none) rfl rfl rfl (Y_storeW rfl rfl tb_ag51 rfl hm7_7 rfl (by rfl) (fun W65 hG66 hm67 => ?_))
            replace hB := below_grown hB hG66 (Nat.le_refl _) (fun j hj => by cases hj; exact lo_b7_7)
            replace hm0_0 := At.grownNe hm0_0 ne_b0_0_b7_7 hG66
            replace hm3_0 := At.grownNe hm3_0 ne_b3_0_b7_7 hG66
            replace hm6_2 := At.grownAt hm6_2 hm7_7 hG66 (by decide)
            clear hG66 hm7_7
            have hm7_7 := hm67
            clear hm67
            refine WL_val (dd := some 12) rfl rfl rfl (r_assign (v := .int .i64 _) rfl) ?_
            refine WL_nil ?_
            refine hK58 _ _ ?_
            clear hK58 K57
            refine WC_seq (fun K68 hK69 => ?_)
            refine WC_seq (fun K70 hK71 => ?_)
            refine WC_region ?_
            refine WL_val (dd := some 41) rfl rfl rfl (r_move (v := .int .i64 _) rfl) ?_
            refine WL_val (dd := some 42) rfl rfl rfl (r_neq rfl rfl) ?_
            refine WL_nil ?_
            refine hK71 _ _ ?_
            clear hK71 K70
            refine WC_cond (b := _) rfl (fun hc2 => ?_) (fun hc2 => ?_)
            ·
              try with_reducible replace hc2 := dec_t hc2
              refine WC_seq (fun K72 hK73 => ?_)
              refine WC_region ?_
              refine WL_val (dd := some 43) (v := setV 0) rfl rfl rfl (tb_build51_ ) ?_
              refine WL_val (dd := some 44) rfl rfl rfl (r_move (v := .int .i64 _) rfl) ?_
              refine WL_step (dd := none) rfl rfl rfl (Y_storeW rfl rfl tb_ag51 rfl hm0_0 rfl (by rfl) (fun W74 hG75 hm76 => ?_))
              replace hB := below_grown hB hG75 (Nat.le_refl _) (fun j hj => by cases hj; exact lo_b0_0)
              replace hm3_0 := At.grownNe hm3_0 (Ne.symm ne_b0_0_b3_0) hG75
              replace hm6_2 := At.grownAt hm6_2 hm0_0 hG75 (by decide)
              replace hm7_7 := At.grownNe hm7_7 (Ne.symm ne_b0_0_b7_7) hG75
              clear hG75 hm0_0
              have hm0_0 := hm76
              clear hm76
              refine WL_val (dd := some 7) rfl rfl rfl (r_assign (v := .int .i64 _) rfl) ?_
              refine WL_nil ?_
              refine hK73 _ _ ?_
              clear hK73 K72
              refine WC_ret ?_
              repeat (first | refine thenQ_ret ?_ | refine blockQ_ret ?_)
              try clear hK69 K68
              try clear hK48 K47
              try clear hJ42 J41
              try clear hK36 K35
              refine ret_ct rfl tb_ag51 hm0_0 rfl (v1 := .int .i64 _) rfl ?_
              refine ⟨hB, ?_⟩
              obtain ⟨hrr, her⟩ := hhP7_3.resolve_left (fun h => hc2 h.2.2)
              rw [if_neg (ptOk_k (k := k) (by omega) hrr), her]
            ·
              try with_reducible replace hc2 := dec_f hc2
              refine WC_skip ?_
              refine hK69 _ _ ?_
              clear hK69 K68
              refine WC_seq (fun K77 hK78 => ?_)
              obtain ⟨hrr, hsa, _⟩ := hhP7_3.resolve_right (fun h => hc2 (fun e => by rw [h.2] at e; cases e))
              subst hsa
              refine WC_region ?_
              refine WL_val (dd := some 45) rfl rfl rfl (r_fieldAddr (b := _) (o := _) rfl tb_fo47_1) ?_
              refine WL_val (dd := some 46) rfl rfl rfl (r_load1 (v := .int .u8 _) rfl tb_sc5 (At.cell hm6_2 rfl)) ?_
              refine WL_val (dd := some 47) rfl rfl rfl (r_move (v := .int .i64 _) rfl) ?_
              refine WL_val (dd := some 48) rfl rfl rfl (r_shr rfl rfl (by omega) (by simp only [IntKind.bits]; omega)) ?_
              refine WL_val (dd := some 49) rfl rfl rfl (r_and (n := 1) rfl rfl rfl (by show (l.getD k ⟨⟨0, 0⟩, 0⟩).o / 2 ^ out.toNat < 256; omega) (by decide)) ?_
              refine WL_val (dd := some 50) rfl rfl rfl (r_eql rfl rfl) ?_
              refine WL_nil ?_
              refine hK78 _ _ ?_
              clear hK78 K77
              refine WC_cond (b := _) rfl (fun hc3 => ?_) (fun hc3 => ?_)
              ·
                try with_reducible replace hc3 := dec_t hc3
                refine WC_region ?_
                refine WL_val (dd := some 51) rfl rfl rfl (r_loadW rfl tb_ag51 rfl hm3_0) ?_
                refine WL_val (dd := some 52) rfl rfl rfl (r_loadW rfl tb_ag51 rfl hm7_7) ?_
                refine WL_call (dd := some 53) rfl rfl rfl (r_call2 tb_c40 (v0 := .agg #[_, _, _, _]) rfl (v1 := .agg #[_, _, _, _]) rfl) (C_set_Or _ _ _) (fun v11_2 W79 hE80 hP11_2 => ?_)
                have hsz81 := (Below.size hB)
                replace hB := below_ext hB hE80 (Nat.le_refl _)
                replace hm0_0 := hE80.at hm0_0
                replace hm3_0 := hE80.at hm3_0
                replace hm6_2 := hE80.at hm6_2
                replace hm7_7 := hE80.at hm7_7
                clear hE80
                clear hsz81
                obtain rfl := hP11_2
                refine WL_step (dd := none) rfl rfl rfl (Y_storeW rfl rfl tb_ag51 rfl hm3_0 rfl (by rfl) (fun W82 hG83 hm84 => ?_))
                replace hB := below_grown hB hG83 (Nat.le_refl _) (fun j hj => by cases hj; exact lo_b3_0)
                replace hm0_0 := At.grownNe hm0_0 ne_b0_0_b3_0 hG83
                replace hm6_2 := At.grownAt hm6_2 hm3_0 hG83 (by decide)
                replace hm7_7 := At.grownNe hm7_7 (Ne.symm ne_b3_0_b7_7) hG83
                clear hG83 hm3_0
                have hm3_0 := hm84
                clear hm84
                refine WL_nil ?_
                refine hK48 _ _ ?_
                clear hK48 K47
                refine WC_region ?_
                refine WL_val (dd := some 54) rfl rfl rfl (r_addI rfl rfl (by omega) (by omega)) ?_
                refine WL_val (dd := some 30) rfl rfl rfl (r_move (v := .int .i64 _) rfl) ?_
                refine WL_nil ?_
                refine hJ42 _ _ (k + 1) ?_ ?_ ?_ ?_
                · repeat (first | exact agree.mask _ _ _ | refine agree.updo ?_ rfl _ | refine agree.updL ?_ _ rfl | refine agree.maskS rfl ?_)
                · exact ⟨rfl, trivial⟩
                · exact ⟨hB, hm0_0, (by first | (rw [← ptsR_t (l := l) (k := k) (bit_yesI hc3)]; exact hm3_0) | (rw [← ptsR_f (l := l) (k := k) (bit_notI hc3)]; exact hm3_0)), (by omega), (upTo_succ hq hrr), trivial⟩
                · first | omega | (dsimp only; omega)
              ·
                try with_reducible replace hc3 := dec_f hc3
                refine WC_skip ?_
                refine hK48 _ _ ?_
                clear hK48 K47
                refine WC_region ?_
                refine WL_val (dd := some 54) rfl rfl rfl (r_addI rfl rfl (by omega) (by omega)) ?_
                refine WL_val (dd := some 30) rfl rfl rfl (r_move (v := .int .i64 _) rfl) ?_
                refine WL_nil ?_
                refine hJ42 _ _ (k + 1) ?_ ?_ ?_ ?_
                · repeat (first | exact agree.mask _ _ _ | refine agree.updo ?_ rfl _ | refine agree.updL ?_ _ rfl | refine agree.maskS rfl ?_)
                · exact ⟨rfl, trivial⟩
                · exact ⟨hB, hm0_0, (by first | (rw [← ptsR_t (l := l) (k := k) (bit_yesI hc3)]; exact hm3_0) | (rw [← ptsR_f (l := l) (k := k) (bit_notI hc3)]; exact hm3_0)), (by omega), (upTo_succ hq hrr), trivial⟩
                · first | omega | (dsimp only; omega)
          ·
            try with_reducible replace hc1 := dec_f hc1
            refine WC_exit ?_
            refine hK36 _ _ ?_
            clear hK46 K45
            clear hJ42 J41
            clear hK36 K35
            refine WC_seq (fun K85 hK86 => ?_)
            refine WC_region ?_
            refine WL_val (dd := some 55) rfl rfl rfl (r_loadW rfl tb_ag51 rfl hm3_0) ?_
            refine WL_step (dd := none) rfl rfl rfl (Y_storeW rfl rfl tb_ag51 rfl hm0_0 rfl (by rfl) (fun W87 hG88 hm89 => ?_))
            replace hB := below_grown hB hG88 (Nat.le_refl _) (fun j hj => by cases hj; exact lo_b0_0)
            replace hm3_0 := At.grownNe hm3_0 (Ne.symm ne_b0_0_b3_0) hG88
            clear hG88 hm0_0
            have hm0_0 := hm89
            clear hm89
            refine WL_val (dd := some 7) rfl rfl rfl (r_assign (v := .int .i64 0) rfl) ?_
            refine WL_nil ?_
            refine hK86 _ _ ?_
            clear hK86 K85
            refine WC_ret ?_
            repeat (first | refine thenQ_ret ?_ | refine blockQ_ret ?_)
            refine ret_ct rfl tb_ag51 hm0_0 rfl (v1 := .int .i64 0) rfl ?_
            refine ⟨hB, ?_⟩
            obtain rfl : k = l.length := by omega
            rw [if_pos (ptOk_iff.2 ⟨by omega, hq⟩)]

theorem C_spec_Covers (S : Sp) (onV mayV : Value) (xa : Value) (l : List Rw) (w : World) (hon : SlT encS 4 w onV S.on) (hmay : SlT encS 4 w mayV S.may) (hl : SlT encR 3 w xa l) (hlb : l.length ≤ 2000000) (hlr : RowB l) (h4 : S.on.length ≤ 20) :
    Fn Tryd.prog 18 #[.agg #[.int .i64 S.n, onV, mayV], xa] w fun v w' => v = .bool (covB S l) := by
  refine Fn_intro (n := 49) Tryd.func18 rfl rfl (Nat.le_of_ble_eq_true rfl) ?_
  have hB : Below w.heap.size w w := Below.refl _ _
  refine WC_seq (fun K1 hK2 => ?_)
  refine WC_region ?_
  refine WL_step (dd := some 2) rfl rfl rfl (Y_box (c := #[_, _, _]) rfl rfl (fun b0_0 W3 hb4 hE5 hm0_0 => ?_))
  have lo_b0_0 : w.heap.size ≤ b0_0 := hb4 ▸ (Below.size hB)
  clear hb4
  replace hB := below_ext hB hE5 (Nat.le_refl _)
  clear hE5
  refine WL_val (dd := some 4) rfl rfl rfl (r_assign (v := .bool false) rfl) ?_
  refine WL_nil ?_
  refine hK2 _ _ ?_
  clear hK2 K1
  refine WC_seq (fun K6 hK7 => ?_)
  refine WC_seq (fun K8 hK9 => ?_)
  refine WC_region ?_
  refine WL_val (dd := some 9) rfl rfl rfl (r_loadW rfl tb_ag37 rfl hm0_0) ?_
  refine WL_call (dd := some 10) rfl rfl rfl (r_call1 tb_c33 (v0 := .agg #[_, _, _]) rfl) (C_spec_Right S _ _  _ (Below.slT hB hon) (Below.slT hB hmay) ) (fun v1_1 W10 hE11 hP1_1 => ?_)
  have hsz12 := (Below.size hB)
  replace hB := below_ext hB hE11 (Nat.le_refl _)
  replace hm0_0 := hE11.at hm0_0
  clear hE11
  clear hsz12
  obtain rfl := hP1_1
  refine WL_val (dd := some 11) rfl rfl rfl (r_not rfl) ?_
  refine WL_split (dd := some 12) rfl rfl rfl (r_move (v := .bool _) rfl) (fun hs1_3 => ?_) (fun hs1_3 => ?_)
  ·
    try with_reducible replace hs1_3 := dec_t hs1_3
    refine WL_skip (dd := some 13) rfl rfl rfl ?_
    refine WL_skip (dd := some 14) rfl rfl rfl ?_
    refine WL_skip (dd := some 15) rfl rfl rfl ?_
    refine WL_skip (dd := some 16) rfl rfl rfl ?_
    refine WL_val (dd := some 17) rfl rfl rfl (r_pick_t rfl (v := .bool true) rfl) ?_
    refine WL_nil ?_
    refine hK9 _ _ ?_
    clear hK9 K8
    refine WC_cond_true rfl ?_
    refine WC_seq (fun K13 hK14 => ?_)
    refine WC_region ?_
    refine WL_val (dd := some 4) rfl rfl rfl (r_assign (v := .bool false) rfl) ?_
    refine WL_nil ?_
    refine hK14 _ _ ?_
    clear hK14 K13
    refine WC_ret ?_
    repeat (first | refine thenQ_ret ?_ | refine blockQ_ret ?_)
    try clear hK7 K6
    refine ret_t (v := .bool false) rfl ?_
    refine ⟨hB, ?_⟩
    exact cov_f1 (not_t hs1_3)
  ·
    try with_reducible replace hs1_3 := dec_f hs1_3
    refine WL_val (dd := some 13) rfl rfl rfl (r_loadW rfl tb_ag37 rfl hm0_0) ?_
    refine WL_val (dd := some 14) rfl rfl rfl (r_move (v := xa) rfl) ?_
    refine WL_call (dd := some 15) rfl rfl rfl (r_call2 tb_c37 (v0 := .agg #[_, _, _]) rfl (v1 := xa) rfl) (C_spec_may S _ _ _ l _ (Below.slT hB hon) (Below.slT hB hmay) (Below.slT hB hl) hlb hlr h4) (fun v1_6 W15 hE16 hP1_6 => ?_)
    have hsz17 := (Below.size hB)
    replace hB := below_ext hB hE16 (Nat.le_refl _)
    replace hm0_0 := hE16.at hm0_0
    clear hE16
    clear hsz17
    obtain rfl := hP1_6
    refine WL_val (dd := some 16) rfl rfl rfl (r_not rfl) ?_
    refine WL_val (dd := some 17) rfl rfl rfl (r_pick_f rfl (v := .bool _) rfl) ?_
    refine WL_nil ?_
    refine hK9 _ _ ?_
    clear hK9 K8
    refine WC_cond (b := _) rfl (fun hc0 => ?_) (fun hc0 => ?_)
    ·
      try with_reducible replace hc0 := dec_t hc0
      refine WC_seq (fun K18 hK19 => ?_)
      refine WC_region ?_
      refine WL_val (dd := some 4) rfl rfl rfl (r_assign (v := .bool false) rfl) ?_
      refine WL_nil ?_
      refine hK19 _ _ ?_
      clear hK19 K18
      refine WC_ret ?_
      repeat (first | refine thenQ_ret ?_ | refine blockQ_ret ?_)
      try clear hK7 K6
      refine ret_t (v := .bool false) rfl ?_
      refine ⟨hB, ?_⟩
      exact cov_f2 (not_t hc0)
    ·
      try with_reducible replace hc0 := dec_f hc0
      refine WC_skip ?_
      refine hK7 _ _ ?_
      clear hK7 K6
      refine WC_seq (fun K20 hK21 => ?_)
      refine WC_seq (fun K22 hK23 => ?_)
      have hr : rightS S = true := not_f hs1_3
      have hm : mayL S l = true := not_f hc0
      obtain ⟨h0, h8, h1, h5, h6, _⟩ := rightS_iff.1 hr
      refine WC_region ?_
      refine WL_val (dd := some 18) rfl rfl rfl (r_fieldAddr (b := _) (o := _) rfl tb_fo37_1) ?_
      refine WL_val (dd := some 19) rfl rfl rfl (r_load1 (v := onV) rfl tb_sc35 (At.cell hm0_0 rfl)) ?_
      refine WL_val (dd := some 20) rfl rfl rfl (r_lenS (v := onV) rfl (Below.slT hB hon) tb_el35) ?_
      refine WL_val (dd := some 21) rfl rfl rfl (r_move (v := .int .i64 0) rfl) ?_
      refine WL_nil ?_
      refine hK23 _ _ ?_
      clear hK23 K22
      refine WC_block ?_
      refine WC_loop (σ := (Nat)) [4, 5, 6, 7, 8, 21, 22, 23, 24, 25, 26, 27, 28, 29, 30, 31, 32, 33, 34, 35, 36, 37, 38, 39, 40, 41, 42, 43, 44, 45, 46, 47, 48] (fun k => [(21, .int .i64 (k : Int))]) (fun k W => (Below w.heap.size w W) ∧ (At W b0_0 _ 37) ∧ (k ≤ S.on.length) ∧ (∀ q, q < k → covO S l q = true) ∧ (True)) (fun k => S.on.length - k) (0) ⟨rfl, trivial⟩ ⟨hB, hm0_0, (Nat.zero_le _), upTo_zero, trivial⟩ ?_
      clear hB hm0_0
      rintro k g25 W24 ⟨hB, hm0_0, hk, hq, _⟩ J26 hJ27
      refine WC_seq (fun K28 hK29 => ?_)
      refine WC_region ?_
      refine WL_val (dd := some 22) rfl rfl rfl (r_lss rfl rfl) ?_
      refine WL_nil ?_
      refine hK29 _ _ ?_
      clear hK29 K28
      refine WC_seq (fun K30 hK31 => ?_)
      refine WC_cond (b := _) rfl (fun hc1 => ?_) (fun hc1 => ?_)
      ·
        try with_reducible replace hc1 := dec_t hc1
        refine WC_skip ?_
        refine hK31 _ _ ?_
        clear hK31 K30
        refine WC_seq (fun K32 hK33 => ?_)
        refine WC_block ?_
        refine WC_seq (fun K34 hK35 => ?_)
        refine WC_region ?_
        refine WL_val (dd := some 23) rfl rfl rfl (r_move (v := .int .i64 _) rfl) ?_
        refine WL_val (dd := some 24) rfl rfl rfl (r_idxS (v := onV) rfl (Below.slT hB hon) rfl tb_el35 (by omega) (by first | omega | (simp only [flagsTo_len, litsTo_len, firstF_len, ptF_len, setF_len]; omega))) ?_
        refine WL_val (dd := some 25) rfl rfl rfl (r_load4 rfl tb_ag51 (SlT.cell (Below.slT hB hon) encS_len 0 (by omega) (by first | omega | (simp only [flagsTo_len, litsTo_len, firstF_len, ptF_len, setF_len]; omega)) 0 rfl) (SlT.cell (Below.slT hB hon) encS_len 0 (by omega) (by first | omega | (simp only [flagsTo_len, litsTo_len, firstF_len, ptF_len, setF_len]; omega)) 1 rfl) (SlT.cell (Below.slT hB hon) encS_len 0 (by omega) (by first | omega | (simp only [flagsTo_len, litsTo_len, firstF_len, ptF_len, setF_len]; omega)) 2 rfl) (SlT.cell (Below.slT hB hon) encS_len 0 (by omega) (by first | omega | (simp only [flagsTo_len, litsTo_len, firstF_len, ptF_len, setF_len]; omega)) 3 rfl)) ?_
        refine WL_step (dd := some 6) rfl rfl rfl (Y_alloc tb_z51 rfl (fun b5_3 W36 hb37 hE38 hm5_3 => ?_))
        have lo_b5_3 : w.heap.size ≤ b5_3 := hb37 ▸ (Below.size hB)
        clear hb37
        replace hB := below_ext hB hE38 (Nat.le_refl _)
        replace hm0_0 := hE38.at hm0_0
        clear hE38
        replace hm5_3 : At W36 b5_3 #[wv 0 0, wv 0 1, wv 0 2, wv 0 3] 51 := hm5_3
        refine WL_val (dd := some 5) rfl rfl rfl (r_assign (v := .int .i64 _) rfl) ?_
        refine WL_step (dd := none) rfl rfl rfl (Y_storeW rfl rfl tb_ag51 rfl hm5_3 rfl (by rfl) (fun W39 hG40 hm41 => ?_))
        replace hB := below_grown hB hG40 (Nat.le_refl _) (fun j hj => by cases hj; exact lo_b5_3)
        replace hm0_0 := At.grownAt hm0_0 hm5_3 hG40 (by decide)
        clear hG40 hm5_3
        have hm5_3 := hm41
        clear hm41
        refine WL_nil ?_
        refine hK35 _ _ ?_
        clear hK35 K34
        refine WC_seq (fun K42 hK43 => ?_)
        refine WC_region ?_
        refine WL_val (dd := some 27) rfl rfl rfl (r_move (v := xa) rfl) ?_
        refine WL_val (dd := some 28) rfl rfl rfl (r_fieldAddr (b := _) (o := _) rfl tb_fo37_0) ?_
        refine WL_val (dd := some 29) rfl rfl rfl (r_load1 (v := .int .i64 _) rfl tb_sc3 (At.cell hm0_0 rfl)) ?_
        refine WL_val (dd := some 30) rfl rfl rfl (r_move (v := .int .i64 _) rfl) ?_
        refine WL_call (dd := some 31) rfl rfl rfl (r_call3 tb_c19 (v0 := xa) rfl (v1 := .int .i64 _) rfl (v2 := .int .i64 _) rfl) (C_spec_Points _ l S.n (k : Int) _ (Below.slT hB hl) hlb hlr) (fun v6_4 W44 hE45 hP6_4 => ?_)
        have hsz46 := (Below.size hB)
        replace hB := below_ext hB hE45 (Nat.le_refl _)
        replace hm0_0 := hE45.at hm0_0
        replace hm5_3 := hE45.at hm5_3
        clear hE45
        obtain ⟨sa, er, rfl, hhP6_4⟩ := pts_res hP6_4
        clear hsz46
        refine WL_val (dd := some 26) rfl rfl rfl (r_move (v := .tuple #[.agg #[_, _, _, _], .int .i64 _]) rfl) ?_
        refine WL_val (dd := some 32) rfl rfl rfl (r_ext2_0 (h := rfl)) ?_
        refine WL_val (dd := some 33) rfl rfl rfl (r_ext2_1 (h := rfl)) ?_
        refine WL_step (dd := some 7) rfl rfl rfl (Y_alloc tb_z51 rfl (fun b6_8 W47 hb48 hE49 hm6_8 => ?_))
        have lo_b6_8 : w.heap.size ≤ b6_8 := hb48 ▸ (Below.size hB)
        have ne_b5_3_b6_8 : b5_3 ≠ b6_8 := Nat.ne_of_lt (hb48 ▸ hm5_3.lt)
        clear hb48
        replace hB := below_ext hB hE49 (Nat.le_refl _)
        replace hm0_0 := hE49.at hm0_0
        replace hm5_3 := hE49.at hm5_3
        clear hE49
        replace hm6_8 : At W47 b6_8 #[wv 0 0, wv 0 1, wv 0 2, wv 0 3] 51 := hm6_8
        refine WL_step (dd := none) rfl rfl rfl (Y_storeW rfl rfl tb_ag51 rfl hm6_8 rfl (by rfl) (fun W50 hG51 hm52 => ?_))
        replace hB := below_grown hB hG51 (Nat.le_refl _) (fun j hj => by cases hj; exact lo_b6_8)
        replace hm0_0 := At.grownAt hm0_0 hm6_8 hG51 (by decide)
        replace hm5_3 := At.grownNe hm5_3 ne_b5_3_b6_8 hG51
        clear hG51 hm6_8
        have hm6_8 := hm52
        clear hm52
        refine WL_val (dd := some 8) rfl rfl rfl (r_assign (v := .int .i64 _) rfl) ?_
        refine WL_nil ?_
        refine hK43 _ _ ?_
        clear hK43 K42
        refine WC_seq (fun K53 hK54 => ?_)
        obtain ⟨_, hsa, _⟩ := hhP6_4.resolve_right (fun h => by have h2 := may_pts (l := l) hr hm (show k < S.on.length by omega); rw [h.1] at h2; cases h2)
        rw [Int.toNat_natCast] at hsa
        subst hsa
        refine WC_draw Ext tb_mix (fun W55 hE56 => ?_)
        replace hB := below_ext hB hE56 (Nat.le_refl _)
        replace hm0_0 := hE56.at hm0_0
        replace hm5_3 := hE56.at hm5_3
        replace hm6_8 := hE56.at hm6_8
        have hS := Ext.refl W55
        refine WT_take (dd := some 34) 0 rfl (by kernel_rfl) (by kernel_rfl) (by kernel_rfl) rfl rfl rfl (fun _wq hq => r_loadW rfl tb_ag51 rfl (hq.at hm5_3)) hS ?_
        refine WT_take (dd := some 35) 1 rfl (by kernel_rfl) (by kernel_rfl) (by kernel_rfl) rfl rfl rfl (fun _wq hq => r_loadW rfl tb_ag51 rfl (hq.at hm6_8)) hS ?_
        refine WT_one (dd := some 36) 2 (by kernel_rfl) rfl rfl rfl rfl (Yd.call (r_call2 tb_c38 (v0 := .agg #[_, _, _, _]) rfl (v1 := .agg #[_, _, _, _]) rfl) (C_set_Within _ _ _) (fun v7_2 W57 hE58 hP7_2 => ⟨.inl (hS.trans hE58), ?_⟩))
        have hsz59 := (Below.size hB)
        have sv60_hB := hB
        have sv60_hm0_0 := hm0_0
        have sv60_hm5_3 := hm5_3
        have sv60_hm6_8 := hm6_8
        replace hB := below_ext hB hE58 (Nat.le_refl _)
        replace hm0_0 := hE58.at hm0_0
        replace hm5_3 := hE58.at hm5_3
        replace hm6_8 := hE58.at hm6_8
        replace hS := hS.trans hE58
        clear hE58
        clear hsz59
        obtain rfl := hP7_2
        refine WT_take (dd := some 37) 3 rfl (by kernel_rfl) (by kernel_rfl) (by kernel_rfl) rfl rfl rfl (fun _wq _hq => r_not rfl) hS ?_
        refine WT_split (dd := some 38) 4 rfl (by kernel_rfl) (by kernel_rfl) (by kernel_rfl) rfl rfl rfl (fun wq hq => r_move (v := .bool _) rfl) hS (fun hs7_4 => ?_) (fun hs7_4 => ?_)
        ·
          try with_reducible replace hs7_4 := dec_t hs7_4
          refine WT_pass (dd := some 39) 5 rfl (by kernel_rfl) (by kernel_rfl) (by kernel_rfl) rfl rfl rfl hS ?_
          refine WT_pass (dd := some 40) 6 rfl (by kernel_rfl) (by kernel_rfl) (by kernel_rfl) rfl rfl rfl hS ?_
          refine WT_pass (dd := some 41) 7 rfl (by kernel_rfl) (by kernel_rfl) (by kernel_rfl) rfl rfl rfl hS ?_
          refine WT_pass (dd := some 42) 8 rfl (by kernel_rfl) (by kernel_rfl) (by kernel_rfl) rfl rfl rfl hS ?_
          refine WT_pass (dd := some 43) 9 rfl (by kernel_rfl) (by kernel_rfl) (by kernel_rfl) rfl rfl rfl hS ?_
          refine WT_pass (dd := some 44) 10 rfl (by kernel_rfl) (by kernel_rfl) (by kernel_rfl) rfl rfl rfl hS ?_
          refine WT_pass (dd := some 45) 11 rfl (by kernel_rfl) (by kernel_rfl) (by kernel_rfl) rfl rfl rfl hS ?_
          refine WT_pass (dd := some 46) 12 rfl (by kernel_rfl) (by kernel_rfl) (by kernel_rfl) rfl rfl rfl hS ?_
          refine WT_take (dd := some 47) 13 rfl (by kernel_rfl) (by kernel_rfl) (by kernel_rfl) rfl rfl rfl (fun _wq _hq => r_pick_t rfl (v := .bool true) rfl) hS ?_
          refine WT_done (by kernel_rfl) ?_
          try clear sv60_hB sv60_hm0_0 sv60_hm5_3 sv60_hm6_8
          refine hK54 _ _ ?_
          clear hK54 K53
          refine WC_cond_true rfl ?_
          refine WC_seq (fun K61 hK62 => ?_)
          refine WC_region ?_
          refine WL_val (dd := some 4) rfl rfl rfl (r_assign (v := .bool false) rfl) ?_
          refine WL_nil ?_
          refine hK62 _ _ ?_
          clear hK62 K61
          refine WC_ret ?_
          repeat (first | refine thenQ_ret ?_ | refine blockQ_ret ?_)
          try clear hK33 K32
          try clear hJ27 J26
          try clear hK21 K20
          refine ret_t (v := .bool false) rfl ?_
          refine ⟨hB, ?_⟩
          exact cov_f3 (o := k) (by omega) (not_t hs7_4)
        ·
          try with_reducible replace hs7_4 := dec_f hs7_4
          refine WT_take (dd := some 39) 5 rfl (by kernel_rfl) (by kernel_rfl) (by kernel_rfl) rfl rfl rfl (fun _wq hq => r_loadW rfl tb_ag51 rfl (hq.at sv60_hm6_8)) hS ?_
          refine WT_take (dd := some 40) 6 rfl (by kernel_rfl) (by kernel_rfl) (by kernel_rfl) rfl rfl rfl (fun _wq _hq => r_fieldAddr (b := _) (o := _) rfl tb_fo37_2) hS ?_
          refine WT_take (dd := some 41) 7 rfl (by kernel_rfl) (by kernel_rfl) (by kernel_rfl) rfl rfl rfl (fun _wq hq => r_load1 (v := mayV) rfl tb_sc35 (At.cell (hq.at sv60_hm0_0) rfl)) hS ?_
          refine WT_take (dd := some 42) 8 rfl (by kernel_rfl) (by kernel_rfl) (by kernel_rfl) rfl rfl rfl (fun _wq _hq => r_move (v := .int .i64 _) rfl) hS ?_
          refine WT_take (dd := some 43) 9 rfl (by kernel_rfl) (by kernel_rfl) (by kernel_rfl) rfl rfl rfl (fun _wq hq => r_idxS (v := mayV) rfl (hq.slT (Below.slT sv60_hB hmay)) rfl tb_el35 (by omega) (by first | omega | (simp only [flagsTo_len, litsTo_len, firstF_len, ptF_len, setF_len]; omega))) hS ?_
          refine WT_take (dd := some 44) 10 rfl (by kernel_rfl) (by kernel_rfl) (by kernel_rfl) rfl rfl rfl (fun _wq hq => r_load4 rfl tb_ag51 (SlT.cell (hq.slT (Below.slT sv60_hB hmay)) encS_len 0 (by omega) (by first | omega | (simp only [flagsTo_len, litsTo_len, firstF_len, ptF_len, setF_len]; omega)) 0 rfl) (SlT.cell (hq.slT (Below.slT sv60_hB hmay)) encS_len 0 (by omega) (by first | omega | (simp only [flagsTo_len, litsTo_len, firstF_len, ptF_len, setF_len]; omega)) 1 rfl) (SlT.cell (hq.slT (Below.slT sv60_hB hmay)) encS_len 0 (by omega) (by first | omega | (simp only [flagsTo_len, litsTo_len, firstF_len, ptF_len, setF_len]; omega)) 2 rfl) (SlT.cell (hq.slT (Below.slT sv60_hB hmay)) encS_len 0 (by omega) (by first | omega | (simp only [flagsTo_len, litsTo_len, firstF_len, ptF_len, setF_len]; omega)) 3 rfl)) hS ?_
          refine WT_one (dd := some 45) 11 (by kernel_rfl) rfl rfl rfl rfl (Yd.call (r_call2 tb_c38 (v0 := .agg #[_, _, _, _]) rfl (v1 := .agg #[_, _, _, _]) rfl) (C_set_Within _ _ _) (fun v7_11 W63 hE64 hP7_11 => ⟨.inl (hS.trans hE64), ?_⟩))
          have hsz65 := (Below.size hB)
          replace hB := below_ext hB hE64 (Nat.le_refl _)
          replace hm0_0 := hE64.at hm0_0
          replace hm5_3 := hE64.at hm5_3
          replace hm6_8 := hE64.at hm6_8
          replace hS := hS.trans hE64
          clear hE64
          clear hsz65
          obtain rfl := hP7_11
          refine WT_take (dd := some 46) 12 rfl (by kernel_rfl) (by kernel_rfl) (by kernel_rfl) rfl rfl rfl (fun _wq _hq => r_not rfl) hS ?_
          refine WT_take (dd := some 47) 13 rfl (by kernel_rfl) (by kernel_rfl) (by kernel_rfl) rfl rfl rfl (fun _wq _hq => r_pick_f rfl (v := .bool _) rfl) hS ?_
          refine WT_done (by kernel_rfl) ?_
          try clear sv60_hB sv60_hm0_0 sv60_hm5_3 sv60_hm6_8
          refine hK54 _ _ ?_
          clear hK54 K53
          refine WC_cond (b := _) rfl (fun hc2 => ?_) (fun hc2 => ?_)
          ·
            try with_reducible replace hc2 := dec_t hc2
            refine WC_seq (fun K66 hK67 => ?_)
            refine WC_region ?_
            refine WL_val (dd := some 4) rfl rfl rfl (r_assign (v := .bool false) rfl) ?_
            refine WL_nil ?_
            refine hK67 _ _ ?_
            clear hK67 K66
            refine WC_ret ?_
            repeat (first | refine thenQ_ret ?_ | refine blockQ_ret ?_)
            try clear hK33 K32
            try clear hJ27 J26
            try clear hK21 K20
            refine ret_t (v := .bool false) rfl ?_
            refine ⟨hB, ?_⟩
            exact cov_f4 (o := k) (by omega) (not_t hc2)
          ·
            try with_reducible replace hc2 := dec_f hc2
            refine WC_skip ?_
            refine hK33 _ _ ?_
            clear hK33 K32
            refine WC_region ?_
            refine WL_val (dd := some 48) rfl rfl rfl (r_addI rfl rfl (by omega) (by omega)) ?_
            refine WL_val (dd := some 21) rfl rfl rfl (r_move (v := .int .i64 _) rfl) ?_
            refine WL_nil ?_
            refine hJ27 _ _ (k + 1) ?_ ?_ ?_ ?_
            · repeat (first | exact agree.mask _ _ _ | refine agree.updo ?_ rfl _ | refine agree.updL ?_ _ rfl | refine agree.maskS rfl ?_)
            · exact ⟨rfl, trivial⟩
            · exact ⟨hB, hm0_0, (by omega), (upTo_succ hq (covO_t (not_f hs7_4) (not_f hc2))), trivial⟩
            · first | omega | (dsimp only; omega)
      ·
        try with_reducible replace hc1 := dec_f hc1
        refine WC_exit ?_
        refine hK21 _ _ ?_
        clear hK31 K30
        clear hJ27 J26
        clear hK21 K20
        refine WC_seq (fun K68 hK69 => ?_)
        refine WC_region ?_
        refine WL_val (dd := some 4) rfl rfl rfl (r_assign (v := .bool true) rfl) ?_
        refine WL_nil ?_
        refine hK69 _ _ ?_
        clear hK69 K68
        refine WC_ret ?_
        repeat (first | refine thenQ_ret ?_ | refine blockQ_ret ?_)
        refine ret_t (v := .bool true) rfl ?_
        refine ⟨hB, ?_⟩
        obtain rfl : k = S.on.length := by omega
        exact vb_t (covB_iff.2 ⟨hr, hm, hq⟩)

theorem C_drawkniferef04_Covered (xa : Value) (l : List Rw) (p o : Nat) (w : World) (hl : SlT encR 3 w xa l) (hlb : l.length ≤ 2000000) (hlr : RowB l) (hp : p < 256) (ho : o < 8) :
    Fn Tryd.prog 23 #[xa, .int .i64 (p : Int), .int .i64 (o : Int)] w fun v w' => v = .bool (cvB l p o) := by
  refine Fn_intro (n := 30) Tryd.func23 rfl rfl (Nat.le_of_ble_eq_true rfl) ?_
  have hB : Below w.heap.size w w := Below.refl _ _
  refine WC_seq (fun K1 hK2 => ?_)
  refine WC_region ?_
  refine WL_val (dd := some 6) rfl rfl rfl (r_assign (v := .bool false) rfl) ?_
  refine WL_nil ?_
  refine hK2 _ _ ?_
  clear hK2 K1
  refine WC_seq (fun K3 hK4 => ?_)
  refine WC_seq (fun K5 hK6 => ?_)
  refine WC_region ?_
  refine WL_val (dd := some 7) rfl rfl rfl (r_assign (v := .int .i64 0) rfl) ?_
  refine WL_nil ?_
  refine hK6 _ _ ?_
  clear hK6 K5
  refine WC_block ?_
  refine WC_loop (σ := (Nat)) [6, 7, 8, 9, 10, 11, 12, 13, 14, 15, 16, 17, 18, 19, 20, 21, 22, 23, 24, 25, 26, 27, 28, 29] (fun k => [(7, .int .i64 (k : Int))]) (fun k W => (Below w.heap.size w W) ∧ (k ≤ l.length) ∧ (∀ q, q < k → ((l.getD q ⟨⟨0, 0⟩, 0⟩).o.testBit o && hasC (l.getD q ⟨⟨0, 0⟩, 0⟩).c.m (l.getD q ⟨⟨0, 0⟩, 0⟩).c.v p) = false) ∧ (True)) (fun k => l.length - k) (0) ⟨rfl, trivial⟩ ⟨hB, (Nat.zero_le _), upTo_zero, trivial⟩ ?_
  clear hB
  rintro k g8 W7 ⟨hB, hk, hq, _⟩ J9 hJ10
  refine WC_seq (fun K11 hK12 => ?_)
  refine WC_seq (fun K13 hK14 => ?_)
  refine WC_region ?_
  refine WL_val (dd := some 8) rfl rfl rfl (r_move (v := .int .i64 _) rfl) ?_
  refine WL_val (dd := some 9) rfl rfl rfl (r_move (v := xa) rfl) ?_
  refine WL_val (dd := some 10) rfl rfl rfl (r_lenS (v := xa) rfl (Below.slT hB hl) tb_el40) ?_
  refine WL_val (dd := some 11) rfl rfl rfl (r_lss rfl rfl) ?_
  refine WL_nil ?_
  refine hK14 _ _ ?_
  clear hK14 K13
  refine WC_cond (b := _) rfl (fun hc0 => ?_) (fun hc0 => ?_)
  ·
    try with_reducible replace hc0 := dec_t hc0
    refine WC_skip ?_
    refine hK12 _ _ ?_
    clear hK12 K11
    refine WC_seq (fun K15 hK16 => ?_)
    refine WC_block ?_
    refine WC_seq (fun K17 hK18 => ?_)
    obtain ⟨hb1, hb2, hb3⟩ := hlr.get (k := k) (by omega)
    refine WC_region ?_
    refine WL_val (dd := some 14) rfl rfl rfl (r_move (v := xa) rfl) ?_
    refine WL_val (dd := some 15) rfl rfl rfl (r_move (v := .int .i64 _) rfl) ?_
    refine WL_val (dd := some 16) rfl rfl rfl (r_idxS (v := xa) rfl (Below.slT hB hl) rfl tb_el40 (by omega) (by first | omega | (simp only [flagsTo_len, litsTo_len, firstF_len, ptF_len, setF_len]; omega))) ?_
    refine WL_val (dd := some 17) rfl rfl rfl (r_fieldAddr (b := _) (o := _) rfl tb_fo47_1) ?_
    refine WL_val (dd := some 18) rfl rfl rfl (r_load1 (v := .int .u8 _) rfl tb_sc5 (SlT.cell (Below.slT hB hl) encR_len ⟨⟨0, 0⟩, 0⟩ (by omega) (by first | omega | (simp only [flagsTo_len, litsTo_len, firstF_len, ptF_len, setF_len]; omega)) 2 rfl)) ?_
    refine WL_val (dd := some 19) rfl rfl rfl (r_move (v := .int .i64 _) rfl) ?_
    refine WL_call (dd := some 20) rfl rfl rfl (r_call2 tb_c46 (v0 := .int .u8 _) rfl (v1 := .int .i64 _) rfl) (C_drawkniferef04_Bit _ _ _ hb3 ho) (fun v4_6 W19 hE20 hP4_6 => ?_)
    have hsz21 := (Below.size hB)
    replace hB := below_ext hB hE20 (Nat.le_refl _)
    clear hE20
    clear hsz21
    obtain rfl := hP4_6
    refine WL_split (dd := some 21) rfl rfl rfl (r_move (v := .bool _) rfl) (fun hs4_7 => ?_) (fun hs4_7 => ?_)
    ·
      try with_reducible replace hs4_7 := dec_t hs4_7
      refine WL_val (dd := some 22) rfl rfl rfl (r_move (v := xa) rfl) ?_
      refine WL_val (dd := some 23) rfl rfl rfl (r_move (v := .int .i64 _) rfl) ?_
      refine WL_val (dd := some 24) rfl rfl rfl (r_idxS (v := xa) rfl (Below.slT hB hl) rfl tb_el40 (by omega) (by first | omega | (simp only [flagsTo_len, litsTo_len, firstF_len, ptF_len, setF_len]; omega))) ?_
      refine WL_val (dd := some 25) rfl rfl rfl (r_fieldAddr (b := _) (o := _) rfl tb_fo47_0) ?_
      refine WL_val (dd := some 26) rfl rfl rfl (r_load2 rfl tb_ag42 (SlT.cell (Below.slT hB hl) encR_len ⟨⟨0, 0⟩, 0⟩ (by omega) (by first | omega | (simp only [flagsTo_len, litsTo_len, firstF_len, ptF_len, setF_len]; omega)) 0 rfl) (SlT.cell (Below.slT hB hl) encR_len ⟨⟨0, 0⟩, 0⟩ (by omega) (by first | omega | (simp only [flagsTo_len, litsTo_len, firstF_len, ptF_len, setF_len]; omega)) 1 rfl)) ?_
      refine WL_val (dd := some 27) rfl rfl rfl (r_move (v := .int .i64 _) rfl) ?_
      refine WL_call (dd := some 28) rfl rfl rfl (r_call2 tb_c47 (v0 := .agg #[_, _]) rfl (v1 := .int .i64 _) rfl) (C_drawkniferef02_Has _ _ p _ hb1 hb2 hp) (fun v4_14 W22 hE23 hP4_14 => ?_)
      have hsz24 := (Below.size hB)
      replace hB := below_ext hB hE23 (Nat.le_refl _)
      clear hE23
      clear hsz24
      obtain rfl := hP4_14
      refine WL_val (dd := some 29) rfl rfl rfl (r_pick_t rfl (v := .bool _) rfl) ?_
      refine WL_nil ?_
      refine hK18 _ _ ?_
      clear hK18 K17
      refine WC_cond (b := _) rfl (fun hc1 => ?_) (fun hc1 => ?_)
      ·
        try with_reducible replace hc1 := dec_t hc1
        refine WC_seq (fun K25 hK26 => ?_)
        refine WC_region ?_
        refine WL_val (dd := some 6) rfl rfl rfl (r_assign (v := .bool true) rfl) ?_
        refine WL_nil ?_
        refine hK26 _ _ ?_
        clear hK26 K25
        refine WC_ret ?_
        repeat (first | refine thenQ_ret ?_ | refine blockQ_ret ?_)
        try clear hK16 K15
        try clear hJ10 J9
        try clear hK4 K3
        refine ret_t (v := .bool true) rfl ?_
        refine ⟨hB, ?_⟩
        exact cv_t (k := k) (by omega) hs4_7 hc1
      ·
        try with_reducible replace hc1 := dec_f hc1
        refine WC_skip ?_
        refine hK16 _ _ ?_
        clear hK16 K15
        refine WC_region ?_
        refine WL_val (dd := some 12) rfl rfl rfl (r_move (v := .int .i64 _) rfl) ?_
        refine WL_val (dd := some 13) rfl rfl rfl (r_addI rfl rfl (by omega) (by omega)) ?_
        refine WL_val (dd := some 7) rfl rfl rfl (r_assign (v := .int .i64 _) rfl) ?_
        refine WL_nil ?_
        refine hJ10 _ _ (k + 1) ?_ ?_ ?_ ?_
        · repeat (first | exact agree.mask _ _ _ | refine agree.updo ?_ rfl _ | refine agree.updL ?_ _ rfl | refine agree.maskS rfl ?_)
        · exact ⟨rfl, trivial⟩
        · exact ⟨hB, (by omega), (upTo_succ hq (by first | exact and_f1 hs4_7 | exact and_f2 hc1)), trivial⟩
        · first | omega | (dsimp only; omega)
    ·
      try with_reducible replace hs4_7 := dec_f hs4_7
      refine WL_skip (dd := some 22) rfl rfl rfl ?_
      refine WL_skip (dd := some 23) rfl rfl rfl ?_
      refine WL_skip (dd := some 24) rfl rfl rfl ?_
      refine WL_skip (dd := some 25) rfl rfl rfl ?_
      refine WL_skip (dd := some 26) rfl rfl rfl ?_
      refine WL_skip (dd := some 27) rfl rfl rfl ?_
      refine WL_skip (dd := some 28) rfl rfl rfl ?_
      refine WL_val (dd := some 29) rfl rfl rfl (r_pick_f rfl (v := .bool false) rfl) ?_
      refine WL_nil ?_
      refine hK18 _ _ ?_
      clear hK18 K17
      refine WC_cond_false rfl ?_
      refine WC_skip ?_
      refine hK16 _ _ ?_
      clear hK16 K15
      refine WC_region ?_
      refine WL_val (dd := some 12) rfl rfl rfl (r_move (v := .int .i64 _) rfl) ?_
      refine WL_val (dd := some 13) rfl rfl rfl (r_addI rfl rfl (by omega) (by omega)) ?_
      refine WL_val (dd := some 7) rfl rfl rfl (r_assign (v := .int .i64 _) rfl) ?_
      refine WL_nil ?_
      refine hJ10 _ _ (k + 1) ?_ ?_ ?_ ?_
      · repeat (first | exact agree.mask _ _ _ | refine agree.updo ?_ rfl _ | refine agree.updL ?_ _ rfl | refine agree.maskS rfl ?_)
      · exact ⟨rfl, trivial⟩
      · exact ⟨hB, (by omega), (upTo_succ hq (by first | exact and_f1 hs4_7 | exact and_f2 hc1)), trivial⟩
      · first | omega | (dsimp only; omega)
  ·
    try with_reducible replace hc0 := dec_f hc0
    refine WC_exit ?_
    refine hK4 _ _ ?_
    clear hK12 K11
    clear hJ10 J9
    clear hK4 K3
    refine WC_seq (fun K27 hK28 => ?_)
    refine WC_region ?_
    refine WL_val (dd := some 6) rfl rfl rfl (r_assign (v := .bool false) rfl) ?_
    refine WL_nil ?_
    refine hK28 _ _ ?_
    clear hK28 K27
    refine WC_ret ?_
    repeat (first | refine thenQ_ret ?_ | refine blockQ_ret ?_)
    refine ret_t (v := .bool false) rfl ?_
    refine ⟨hB, ?_⟩
    exact cv_f (by omega) hq

end Go.Proofs.YtnkaebjaeaecmaaDoor
