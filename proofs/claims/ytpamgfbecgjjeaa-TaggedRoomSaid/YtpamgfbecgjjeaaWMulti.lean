/-
  The walks of specs, of package multi, and of the document's rows.
-/
import Derived.Test.YtpamgfbecgjjeaaProg
import Derived.Test.YtpamgfbecgjjeaaWAll
import Derived.Test.YtpamgfbecgjjeaaMulti2
namespace Go.Proofs.Ytpamgfbecgjjeaa
set_option linter.unusedVariables false
set_option linter.unusedSimpArgs false
open Go Go.RowKit

theorem tb_c98 : callB Try.prog 98 = true := by kernel_rfl
theorem tb_fo79_0 : fieldO Try.prog 79 0 = some 0 := by kernel_rfl
theorem tb_fo79_1 : fieldO Try.prog 79 1 = some 1 := by kernel_rfl
theorem tb_sc77 : scalarB Try.prog 77 = true := by kernel_rfl
theorem tb_el77 : elemI Try.prog 77 = some (69, 4, 32) := by kernel_rfl
theorem tb_fo79_2 : fieldO Try.prog 79 2 = some 2 := by kernel_rfl
theorem tb_c102 : callB Try.prog 102 = true := by kernel_rfl
theorem tb_c104 : callB Try.prog 104 = true := by kernel_rfl
theorem tb_c103 : callB Try.prog 103 = true := by kernel_rfl
theorem tb_c139 : callB Try.prog 139 = true := by kernel_rfl
theorem tb_fo57_1 : fieldO Try.prog 57 1 = some 2 := by kernel_rfl
theorem tb_fo57_0 : fieldO Try.prog 57 0 = some 0 := by kernel_rfl
theorem tb_el75 : elemI Try.prog 75 = some (57, 3, 3) := by kernel_rfl
theorem tb_ag57 : aggN Try.prog 57 = some 3 := by kernel_rfl
theorem tb_z57 : zeroI Try.prog 57 = some (.agg #[.int .u8 0, .int .u8 0, .int .u8 0]) := by kernel_rfl
theorem tb_zs57 : (zeroI Try.prog 57).map (fun z => z.cells.size) = some 3 := by kernel_rfl
theorem tb_c117 : callB Try.prog 117 = true := by kernel_rfl
theorem tb_ag79 : aggN Try.prog 79 = some 3 := by kernel_rfl
theorem tb_c111 : callB Try.prog 111 = true := by kernel_rfl
theorem tb_c113 : callB Try.prog 113 = true := by kernel_rfl
theorem tb_c62 : callB Try.prog 62 = true := by kernel_rfl
theorem tb_c115 : callB Try.prog 115 = true := by kernel_rfl
theorem tb_size55 : (Try.prog.info? 55).map (·.size) = some 2 := by kernel_rfl
theorem tb_build57_0_1 {f : Nat → Value} {w : World} {d : Option Nat} {ty : TypeId} {ps : String} {af : Array Edge} {g : Option (Nat × Bool)} {x0 x1 : Operand} {c0_0 c0_1 c1_0 : Value} (h0 : evF f x0 = .agg #[c0_0, c0_1]) (h1 : evF f x1 = c1_0) (k1 : c1_0.cells = #[c1_0]) :
    (execOp (evF f) ⟨d, .build 57 #[(0, x0), (1, x1)], ty, ps, af, g⟩).run Try.prog w = .ok (.value (.agg #[c0_0, c0_1, c1_0])) w := by
  obtain ⟨i0, hi0, hz0⟩ := Option.bind_eq_some_iff.1 (show (Try.prog.info? 57).bind (·.zero) = _ from tb_z57)
  obtain ⟨j5, hj5, hs5⟩ := Option.map_eq_some_iff.1 tb_size5
  obtain ⟨j55, hj55, hs55⟩ := Option.map_eq_some_iff.1 tb_size55
  simp [execOp, h0, h1, k1, Instr.build, zeroValue, typeInfo, sizeOf, hi0, hz0, run_underlying Try.underlying57, Instr.fill, cells_agg, hj5, hs5, hj55, hs55]
theorem tb_c116 : callB Try.prog 116 = true := by kernel_rfl

theorem C_drawkniferef04_Right (S : Sp) (onV mayV : Value) (w : World) (hon : SlT encS 4 w onV S.on) (hmay : SlT encS 4 w mayV S.may) :
    Fn Try.prog 64 #[.agg #[.int .i64 S.n, onV, mayV]] w fun v w' => v = .bool (rightS S) := by
 refine Fn_intro (n := 65) Try.func64 rfl rfl (Nat.le_of_ble_eq_true rfl) ?_
 have hB : Below w.heap.size w w := Below.refl _ _
 refine WC_seq (fun K1 hK2 => ?_)
 refine WC_region ?_
 refine WL_step (dd := some 1) rfl rfl rfl (Y_box (c := #[_, _, _]) rfl rfl (fun b0_0 W3 hb4 hE5 hm0_0 => ?_))
 have lo_b0_0 : w.heap.size ≤ b0_0 := hb4 ▸ (Below.size hB)
 clear hb4
 replace hB := below_ext hB hE5 (Nat.le_refl _)
 clear hE5
 refine WL_val (dd := some 2) rfl rfl rfl (r_assign (v := .bool false) rfl) ?_
 refine WL_nil ?_
 refine hK2 _ _ ?_
 clear hK2 K1
 refine WC_seq (fun K6 hK7 => ?_)
 refine WC_seq (fun K8 hK9 => ?_)
 refine WC_region ?_
 refine WL_val (dd := some 4) rfl rfl rfl (r_fieldAddr (b := _) (o := _) rfl tb_fo79_0) ?_
 refine WL_val (dd := some 5) rfl rfl rfl (r_load1 (v := .int .i64 _) rfl tb_sc3 (At.cell hm0_0 rfl)) ?_
 refine WL_val (dd := some 6) rfl rfl rfl (r_lss rfl rfl) ?_
 refine WL_split (dd := some 7) rfl rfl rfl (r_move (v := .bool _) rfl) (fun hs1_3 => ?_) (fun hs1_3 => ?_)
 ·
  try with_reducible replace hs1_3 := of_decide_eq_true hs1_3
  refine WL_skip (dd := some 8) rfl rfl rfl ?_
  refine WL_skip (dd := some 9) rfl rfl rfl ?_
  refine WL_skip (dd := some 10) rfl rfl rfl ?_
  refine WL_val (dd := some 11) rfl rfl rfl (r_pick_t rfl (v := .bool true) rfl) ?_
  refine WL_val (dd := some 12) rfl rfl rfl (r_move (v := .bool true) rfl) ?_
  refine WL_skip (dd := some 13) rfl rfl rfl ?_
  refine WL_skip (dd := some 14) rfl rfl rfl ?_
  refine WL_skip (dd := some 15) rfl rfl rfl ?_
  refine WL_skip (dd := some 16) rfl rfl rfl ?_
  refine WL_val (dd := some 17) rfl rfl rfl (r_pick_t rfl (v := .bool true) rfl) ?_
  refine WL_val (dd := some 18) rfl rfl rfl (r_move (v := .bool true) rfl) ?_
  refine WL_skip (dd := some 19) rfl rfl rfl ?_
  refine WL_skip (dd := some 20) rfl rfl rfl ?_
  refine WL_skip (dd := some 21) rfl rfl rfl ?_
  refine WL_skip (dd := some 22) rfl rfl rfl ?_
  refine WL_val (dd := some 23) rfl rfl rfl (r_pick_t rfl (v := .bool true) rfl) ?_
  refine WL_val (dd := some 24) rfl rfl rfl (r_move (v := .bool true) rfl) ?_
  refine WL_skip (dd := some 25) rfl rfl rfl ?_
  refine WL_skip (dd := some 26) rfl rfl rfl ?_
  refine WL_skip (dd := some 27) rfl rfl rfl ?_
  refine WL_skip (dd := some 28) rfl rfl rfl ?_
  refine WL_skip (dd := some 29) rfl rfl rfl ?_
  refine WL_skip (dd := some 30) rfl rfl rfl ?_
  refine WL_skip (dd := some 31) rfl rfl rfl ?_
  refine WL_val (dd := some 32) rfl rfl rfl (r_pick_t rfl (v := .bool true) rfl) ?_
  refine WL_nil ?_
  refine hK9 _ _ ?_
  clear hK9 K8
  refine WC_cond_true rfl ?_
  refine WC_seq (fun K10 hK11 => ?_)
  refine WC_region ?_
  refine WL_val (dd := some 2) rfl rfl rfl (r_assign (v := .bool false) rfl) ?_
  refine WL_nil ?_
  refine hK11 _ _ ?_
  clear hK11 K10
  refine WC_ret ?_
  repeat (first | refine thenQ_ret ?_ | refine blockQ_ret ?_)
  try clear hK7 K6
  refine ret_t (v := .bool false) rfl ?_
  refine ⟨hB, ?_⟩
  exact right_f (by omega)
 ·
  try with_reducible replace hs1_3 := of_decide_eq_false hs1_3
  refine WL_val (dd := some 8) rfl rfl rfl (r_fieldAddr (b := _) (o := _) rfl tb_fo79_0) ?_
  refine WL_val (dd := some 9) rfl rfl rfl (r_load1 (v := .int .i64 _) rfl tb_sc3 (At.cell hm0_0 rfl)) ?_
  refine WL_val (dd := some 10) rfl rfl rfl (r_gtr rfl rfl) ?_
  refine WL_val (dd := some 11) rfl rfl rfl (r_pick_f rfl (v := .bool _) rfl) ?_
  refine WL_split (dd := some 12) rfl rfl rfl (r_move (v := .bool _) rfl) (fun hs1_8 => ?_) (fun hs1_8 => ?_)
  ·
   try with_reducible replace hs1_8 := of_decide_eq_true hs1_8
   refine WL_skip (dd := some 13) rfl rfl rfl ?_
   refine WL_skip (dd := some 14) rfl rfl rfl ?_
   refine WL_skip (dd := some 15) rfl rfl rfl ?_
   refine WL_skip (dd := some 16) rfl rfl rfl ?_
   refine WL_val (dd := some 17) rfl rfl rfl (r_pick_t rfl (v := .bool true) rfl) ?_
   refine WL_val (dd := some 18) rfl rfl rfl (r_move (v := .bool true) rfl) ?_
   refine WL_skip (dd := some 19) rfl rfl rfl ?_
   refine WL_skip (dd := some 20) rfl rfl rfl ?_
   refine WL_skip (dd := some 21) rfl rfl rfl ?_
   refine WL_skip (dd := some 22) rfl rfl rfl ?_
   refine WL_val (dd := some 23) rfl rfl rfl (r_pick_t rfl (v := .bool true) rfl) ?_
   refine WL_val (dd := some 24) rfl rfl rfl (r_move (v := .bool true) rfl) ?_
   refine WL_skip (dd := some 25) rfl rfl rfl ?_
   refine WL_skip (dd := some 26) rfl rfl rfl ?_
   refine WL_skip (dd := some 27) rfl rfl rfl ?_
   refine WL_skip (dd := some 28) rfl rfl rfl ?_
   refine WL_skip (dd := some 29) rfl rfl rfl ?_
   refine WL_skip (dd := some 30) rfl rfl rfl ?_
   refine WL_skip (dd := some 31) rfl rfl rfl ?_
   refine WL_val (dd := some 32) rfl rfl rfl (r_pick_t rfl (v := .bool true) rfl) ?_
   refine WL_nil ?_
   refine hK9 _ _ ?_
   clear hK9 K8
   refine WC_cond_true rfl ?_
   refine WC_seq (fun K12 hK13 => ?_)
   refine WC_region ?_
   refine WL_val (dd := some 2) rfl rfl rfl (r_assign (v := .bool false) rfl) ?_
   refine WL_nil ?_
   refine hK13 _ _ ?_
   clear hK13 K12
   refine WC_ret ?_
   repeat (first | refine thenQ_ret ?_ | refine blockQ_ret ?_)
   try clear hK7 K6
   refine ret_t (v := .bool false) rfl ?_
   refine ⟨hB, ?_⟩
   exact right_f (by omega)
  ·
   try with_reducible replace hs1_8 := of_decide_eq_false hs1_8
   refine WL_val (dd := some 13) rfl rfl rfl (r_fieldAddr (b := _) (o := _) rfl tb_fo79_1) ?_
   refine WL_val (dd := some 14) rfl rfl rfl (r_load1 (v := onV) rfl tb_sc77 (At.cell hm0_0 rfl)) ?_
   refine WL_val (dd := some 15) rfl rfl rfl (r_lenS (v := onV) rfl (Below.slT hB hon) tb_el77) ?_
   refine WL_val (dd := some 16) rfl rfl rfl (r_lss rfl rfl) ?_
   refine WL_val (dd := some 17) rfl rfl rfl (r_pick_f rfl (v := .bool _) rfl) ?_
   refine WL_split (dd := some 18) rfl rfl rfl (r_move (v := .bool _) rfl) (fun hs1_14 => ?_) (fun hs1_14 => ?_)
   ·
    try with_reducible replace hs1_14 := of_decide_eq_true hs1_14
    refine WL_skip (dd := some 19) rfl rfl rfl ?_
    refine WL_skip (dd := some 20) rfl rfl rfl ?_
    refine WL_skip (dd := some 21) rfl rfl rfl ?_
    refine WL_skip (dd := some 22) rfl rfl rfl ?_
    refine WL_val (dd := some 23) rfl rfl rfl (r_pick_t rfl (v := .bool true) rfl) ?_
    refine WL_val (dd := some 24) rfl rfl rfl (r_move (v := .bool true) rfl) ?_
    refine WL_skip (dd := some 25) rfl rfl rfl ?_
    refine WL_skip (dd := some 26) rfl rfl rfl ?_
    refine WL_skip (dd := some 27) rfl rfl rfl ?_
    refine WL_skip (dd := some 28) rfl rfl rfl ?_
    refine WL_skip (dd := some 29) rfl rfl rfl ?_
    refine WL_skip (dd := some 30) rfl rfl rfl ?_
    refine WL_skip (dd := some 31) rfl rfl rfl ?_
    refine WL_val (dd := some 32) rfl rfl rfl (r_pick_t rfl (v := .bool true) rfl) ?_
    refine WL_nil ?_
    refine hK9 _ _ ?_
    clear hK9 K8
    refine WC_cond_true rfl ?_
    refine WC_seq (fun K14 hK15 => ?_)
    refine WC_region ?_
    refine WL_val (dd := some 2) rfl rfl rfl (r_assign (v := .bool false) rfl) ?_
    refine WL_nil ?_
    refine hK15 _ _ ?_
    clear hK15 K14
    refine WC_ret ?_
    repeat (first | refine thenQ_ret ?_ | refine blockQ_ret ?_)
    try clear hK7 K6
    refine ret_t (v := .bool false) rfl ?_
    refine ⟨hB, ?_⟩
    exact right_f (by omega)
   ·
    try with_reducible replace hs1_14 := of_decide_eq_false hs1_14
    refine WL_val (dd := some 19) rfl rfl rfl (r_fieldAddr (b := _) (o := _) rfl tb_fo79_1) ?_
    refine WL_val (dd := some 20) rfl rfl rfl (r_load1 (v := onV) rfl tb_sc77 (At.cell hm0_0 rfl)) ?_
    refine WL_val (dd := some 21) rfl rfl rfl (r_lenS (v := onV) rfl (Below.slT hB hon) tb_el77) ?_
    refine WL_val (dd := some 22) rfl rfl rfl (r_gtr rfl rfl) ?_
    refine WL_val (dd := some 23) rfl rfl rfl (r_pick_f rfl (v := .bool _) rfl) ?_
    refine WL_split (dd := some 24) rfl rfl rfl (r_move (v := .bool _) rfl) (fun hs1_20 => ?_) (fun hs1_20 => ?_)
    ·
     try with_reducible replace hs1_20 := of_decide_eq_true hs1_20
     refine WL_skip (dd := some 25) rfl rfl rfl ?_
     refine WL_skip (dd := some 26) rfl rfl rfl ?_
     refine WL_skip (dd := some 27) rfl rfl rfl ?_
     refine WL_skip (dd := some 28) rfl rfl rfl ?_
     refine WL_skip (dd := some 29) rfl rfl rfl ?_
     refine WL_skip (dd := some 30) rfl rfl rfl ?_
     refine WL_skip (dd := some 31) rfl rfl rfl ?_
     refine WL_val (dd := some 32) rfl rfl rfl (r_pick_t rfl (v := .bool true) rfl) ?_
     refine WL_nil ?_
     refine hK9 _ _ ?_
     clear hK9 K8
     refine WC_cond_true rfl ?_
     refine WC_seq (fun K16 hK17 => ?_)
     refine WC_region ?_
     refine WL_val (dd := some 2) rfl rfl rfl (r_assign (v := .bool false) rfl) ?_
     refine WL_nil ?_
     refine hK17 _ _ ?_
     clear hK17 K16
     refine WC_ret ?_
     repeat (first | refine thenQ_ret ?_ | refine blockQ_ret ?_)
     try clear hK7 K6
     refine ret_t (v := .bool false) rfl ?_
     refine ⟨hB, ?_⟩
     exact right_f (by omega)
    ·
     try with_reducible replace hs1_20 := of_decide_eq_false hs1_20
     refine WL_val (dd := some 25) rfl rfl rfl (r_fieldAddr (b := _) (o := _) rfl tb_fo79_2) ?_
     refine WL_val (dd := some 26) rfl rfl rfl (r_load1 (v := mayV) rfl tb_sc77 (At.cell hm0_0 rfl)) ?_
     refine WL_val (dd := some 27) rfl rfl rfl (r_lenS (v := mayV) rfl (Below.slT hB hmay) tb_el77) ?_
     refine WL_val (dd := some 28) rfl rfl rfl (r_fieldAddr (b := _) (o := _) rfl tb_fo79_1) ?_
     refine WL_val (dd := some 29) rfl rfl rfl (r_load1 (v := onV) rfl tb_sc77 (At.cell hm0_0 rfl)) ?_
     refine WL_val (dd := some 30) rfl rfl rfl (r_lenS (v := onV) rfl (Below.slT hB hon) tb_el77) ?_
     refine WL_val (dd := some 31) rfl rfl rfl (r_neq rfl rfl) ?_
     refine WL_val (dd := some 32) rfl rfl rfl (r_pick_f rfl (v := .bool _) rfl) ?_
     refine WL_nil ?_
     refine hK9 _ _ ?_
     clear hK9 K8
     refine WC_cond (b := _) rfl (fun hc0 => ?_) (fun hc0 => ?_)
     ·
      try with_reducible replace hc0 := of_decide_eq_true hc0
      refine WC_seq (fun K18 hK19 => ?_)
      refine WC_region ?_
      refine WL_val (dd := some 2) rfl rfl rfl (r_assign (v := .bool false) rfl) ?_
      refine WL_nil ?_
      refine hK19 _ _ ?_
      clear hK19 K18
      refine WC_ret ?_
      repeat (first | refine thenQ_ret ?_ | refine blockQ_ret ?_)
      try clear hK7 K6
      refine ret_t (v := .bool false) rfl ?_
      refine ⟨hB, ?_⟩
      exact right_f (by omega)
     ·
      try with_reducible replace hc0 := of_decide_eq_false hc0
      refine WC_skip ?_
      refine hK7 _ _ ?_
      clear hK7 K6
      refine WC_seq (fun K20 hK21 => ?_)
      refine WC_seq (fun K22 hK23 => ?_)
      refine WC_region ?_
      refine WL_val (dd := some 3) rfl rfl rfl (r_assign (v := .int .i64 0) rfl) ?_
      refine WL_nil ?_
      refine hK23 _ _ ?_
      clear hK23 K22
      refine WC_block ?_
      refine WC_loop (σ := (Nat)) [2, 3, 33, 34, 35, 36, 37, 38, 39, 40, 41, 42, 43, 44, 45, 46, 47, 48, 49, 50, 51, 52, 53, 54, 55, 56, 57, 58, 59, 60, 61, 62, 63, 64] (fun k => [(3, .int .i64 (k : Int))]) (fun k W => (Below w.heap.size w W) ∧ (At W b0_0 _ 79) ∧ (k ≤ S.on.length) ∧ (∀ q, q < k → withinB (onP S q) (mayP S q) = true ∧ withinB (mayP S q) (allS S.n.toNat) = true) ∧ (True)) (fun k => S.on.length - k) (0) ⟨rfl, trivial⟩ ⟨hB, hm0_0, (Nat.zero_le _), upTo_zero, trivial⟩ ?_
      clear hB hm0_0
      rintro k g25 W24 ⟨hB, hm0_0, hk, hq, _⟩ J26 hJ27
      refine WC_seq (fun K28 hK29 => ?_)
      refine WC_seq (fun K30 hK31 => ?_)
      refine WC_region ?_
      refine WL_val (dd := some 33) rfl rfl rfl (r_move (v := .int .i64 _) rfl) ?_
      refine WL_val (dd := some 34) rfl rfl rfl (r_fieldAddr (b := _) (o := _) rfl tb_fo79_1) ?_
      refine WL_val (dd := some 35) rfl rfl rfl (r_load1 (v := onV) rfl tb_sc77 (At.cell hm0_0 rfl)) ?_
      refine WL_val (dd := some 36) rfl rfl rfl (r_lenS (v := onV) rfl (Below.slT hB hon) tb_el77) ?_
      refine WL_val (dd := some 37) rfl rfl rfl (r_lss rfl rfl) ?_
      refine WL_nil ?_
      refine hK31 _ _ ?_
      clear hK31 K30
      refine WC_cond (b := _) rfl (fun hc1 => ?_) (fun hc1 => ?_)
      ·
       try with_reducible replace hc1 := of_decide_eq_true hc1
       refine WC_skip ?_
       refine hK29 _ _ ?_
       clear hK29 K28
       refine WC_seq (fun K32 hK33 => ?_)
       refine WC_block ?_
       refine WC_seq (fun K34 hK35 => ?_)
       have h0 : 0 ≤ S.n := by omega
       have h8 : S.n ≤ 8 := by omega
       refine WC_draw Ext tb_mix (fun W36 hE37 => ?_)
       replace hB := below_ext hB hE37 (Nat.le_refl _)
       replace hm0_0 := hE37.at hm0_0
       have hS := Ext.refl W36
       refine WT_take (dd := some 40) 0 rfl (by kernel_rfl) (by kernel_rfl) (by kernel_rfl) rfl rfl rfl (fun _wq _hq => r_fieldAddr (b := _) (o := _) rfl tb_fo79_1) hS ?_
       refine WT_take (dd := some 41) 1 rfl (by kernel_rfl) (by kernel_rfl) (by kernel_rfl) rfl rfl rfl (fun _wq hq => r_load1 (v := onV) rfl tb_sc77 (At.cell (hq.at hm0_0) rfl)) hS ?_
       refine WT_take (dd := some 42) 2 rfl (by kernel_rfl) (by kernel_rfl) (by kernel_rfl) rfl rfl rfl (fun _wq _hq => r_move (v := .int .i64 _) rfl) hS ?_
       refine WT_take (dd := some 43) 3 rfl (by kernel_rfl) (by kernel_rfl) (by kernel_rfl) rfl rfl rfl (fun _wq hq => r_idxS (v := onV) rfl (hq.slT (Below.slT hB hon)) rfl tb_el77 (by omega) (by first | omega | (simp only [flagsTo_len, litsTo_len, firstF_len, ptF_len, setF_len]; omega))) hS ?_
       refine WT_take (dd := some 44) 4 rfl (by kernel_rfl) (by kernel_rfl) (by kernel_rfl) rfl rfl rfl (fun _wq hq => r_load4 rfl tb_ag69 (SlT.cell (hq.slT (Below.slT hB hon)) encS_len 0 (by omega) (by first | omega | (simp only [flagsTo_len, litsTo_len, firstF_len, ptF_len, setF_len]; omega)) 0 rfl) (SlT.cell (hq.slT (Below.slT hB hon)) encS_len 0 (by omega) (by first | omega | (simp only [flagsTo_len, litsTo_len, firstF_len, ptF_len, setF_len]; omega)) 1 rfl) (SlT.cell (hq.slT (Below.slT hB hon)) encS_len 0 (by omega) (by first | omega | (simp only [flagsTo_len, litsTo_len, firstF_len, ptF_len, setF_len]; omega)) 2 rfl) (SlT.cell (hq.slT (Below.slT hB hon)) encS_len 0 (by omega) (by first | omega | (simp only [flagsTo_len, litsTo_len, firstF_len, ptF_len, setF_len]; omega)) 3 rfl)) hS ?_
       refine WT_take (dd := some 45) 5 rfl (by kernel_rfl) (by kernel_rfl) (by kernel_rfl) rfl rfl rfl (fun _wq _hq => r_fieldAddr (b := _) (o := _) rfl tb_fo79_2) hS ?_
       refine WT_take (dd := some 46) 6 rfl (by kernel_rfl) (by kernel_rfl) (by kernel_rfl) rfl rfl rfl (fun _wq hq => r_load1 (v := mayV) rfl tb_sc77 (At.cell (hq.at hm0_0) rfl)) hS ?_
       refine WT_take (dd := some 47) 7 rfl (by kernel_rfl) (by kernel_rfl) (by kernel_rfl) rfl rfl rfl (fun _wq _hq => r_move (v := .int .i64 _) rfl) hS ?_
       refine WT_take (dd := some 48) 8 rfl (by kernel_rfl) (by kernel_rfl) (by kernel_rfl) rfl rfl rfl (fun _wq hq => r_idxS (v := mayV) rfl (hq.slT (Below.slT hB hmay)) rfl tb_el77 (by omega) (by first | omega | (simp only [flagsTo_len, litsTo_len, firstF_len, ptF_len, setF_len]; omega))) hS ?_
       refine WT_take (dd := some 49) 9 rfl (by kernel_rfl) (by kernel_rfl) (by kernel_rfl) rfl rfl rfl (fun _wq hq => r_load4 rfl tb_ag69 (SlT.cell (hq.slT (Below.slT hB hmay)) encS_len 0 (by omega) (by first | omega | (simp only [flagsTo_len, litsTo_len, firstF_len, ptF_len, setF_len]; omega)) 0 rfl) (SlT.cell (hq.slT (Below.slT hB hmay)) encS_len 0 (by omega) (by first | omega | (simp only [flagsTo_len, litsTo_len, firstF_len, ptF_len, setF_len]; omega)) 1 rfl) (SlT.cell (hq.slT (Below.slT hB hmay)) encS_len 0 (by omega) (by first | omega | (simp only [flagsTo_len, litsTo_len, firstF_len, ptF_len, setF_len]; omega)) 2 rfl) (SlT.cell (hq.slT (Below.slT hB hmay)) encS_len 0 (by omega) (by first | omega | (simp only [flagsTo_len, litsTo_len, firstF_len, ptF_len, setF_len]; omega)) 3 rfl)) hS ?_
       refine WT_one (dd := some 50) 10 (by kernel_rfl) rfl rfl rfl rfl (Yd.call (r_call2 tb_c102 (v0 := .agg #[_, _, _, _]) rfl (v1 := .agg #[_, _, _, _]) rfl) (C_drawkniferef01_Within _ _ _) (fun v6_10 W38 hE39 hP6_10 => ⟨.inl (hS.trans hE39), ?_⟩))
       have hsz40 := (Below.size hB)
       have sv41_hB := hB
       have sv41_hm0_0 := hm0_0
       replace hB := below_ext hB hE39 (Nat.le_refl _)
       replace hm0_0 := hE39.at hm0_0
       replace hS := hS.trans hE39
       clear hE39
       clear hsz40
       obtain rfl := hP6_10
       refine WT_take (dd := some 51) 11 rfl (by kernel_rfl) (by kernel_rfl) (by kernel_rfl) rfl rfl rfl (fun _wq _hq => r_not rfl) hS ?_
       refine WT_split (dd := some 52) 12 rfl (by kernel_rfl) (by kernel_rfl) (by kernel_rfl) rfl rfl rfl (fun wq hq => r_move (v := .bool _) rfl) hS (fun hs6_12 => ?_) (fun hs6_12 => ?_)
       ·
        try with_reducible replace hs6_12 := of_decide_eq_true hs6_12
        refine WT_pass (dd := some 53) 13 rfl (by kernel_rfl) (by kernel_rfl) (by kernel_rfl) rfl rfl rfl hS ?_
        refine WT_pass (dd := some 54) 14 rfl (by kernel_rfl) (by kernel_rfl) (by kernel_rfl) rfl rfl rfl hS ?_
        refine WT_pass (dd := some 55) 15 rfl (by kernel_rfl) (by kernel_rfl) (by kernel_rfl) rfl rfl rfl hS ?_
        refine WT_pass (dd := some 56) 16 rfl (by kernel_rfl) (by kernel_rfl) (by kernel_rfl) rfl rfl rfl hS ?_
        refine WT_pass (dd := some 57) 17 rfl (by kernel_rfl) (by kernel_rfl) (by kernel_rfl) rfl rfl rfl hS ?_
        refine WT_pass (dd := some 58) 18 rfl (by kernel_rfl) (by kernel_rfl) (by kernel_rfl) rfl rfl rfl hS ?_
        refine WT_pass (dd := some 59) 19 rfl (by kernel_rfl) (by kernel_rfl) (by kernel_rfl) rfl rfl rfl hS ?_
        refine WT_pass (dd := some 60) 20 rfl (by kernel_rfl) (by kernel_rfl) (by kernel_rfl) rfl rfl rfl hS ?_
        refine WT_pass (dd := some 61) 21 rfl (by kernel_rfl) (by kernel_rfl) (by kernel_rfl) rfl rfl rfl hS ?_
        refine WT_pass (dd := some 62) 22 rfl (by kernel_rfl) (by kernel_rfl) (by kernel_rfl) rfl rfl rfl hS ?_
        refine WT_pass (dd := some 63) 23 rfl (by kernel_rfl) (by kernel_rfl) (by kernel_rfl) rfl rfl rfl hS ?_
        refine WT_take (dd := some 64) 24 rfl (by kernel_rfl) (by kernel_rfl) (by kernel_rfl) rfl rfl rfl (fun _wq _hq => r_pick_t rfl (v := .bool true) rfl) hS ?_
        refine WT_done (by kernel_rfl) ?_
        try clear sv41_hB sv41_hm0_0
        refine hK35 _ _ ?_
        clear hK35 K34
        refine WC_cond_true rfl ?_
        refine WC_seq (fun K42 hK43 => ?_)
        refine WC_region ?_
        refine WL_val (dd := some 2) rfl rfl rfl (r_assign (v := .bool false) rfl) ?_
        refine WL_nil ?_
        refine hK43 _ _ ?_
        clear hK43 K42
        refine WC_ret ?_
        repeat (first | refine thenQ_ret ?_ | refine blockQ_ret ?_)
        try clear hK33 K32
        try clear hJ27 J26
        try clear hK21 K20
        refine ret_t (v := .bool false) rfl ?_
        refine ⟨hB, ?_⟩
        exact right_k (k := k) (by omega) (fun h => Bool.noConfusion (h.1.symm.trans (not_t hs6_12)))
       ·
        try with_reducible replace hs6_12 := of_decide_eq_false hs6_12
        refine WT_take (dd := some 53) 13 rfl (by kernel_rfl) (by kernel_rfl) (by kernel_rfl) rfl rfl rfl (fun _wq _hq => r_fieldAddr (b := _) (o := _) rfl tb_fo79_2) hS ?_
        refine WT_take (dd := some 54) 14 rfl (by kernel_rfl) (by kernel_rfl) (by kernel_rfl) rfl rfl rfl (fun _wq hq => r_load1 (v := mayV) rfl tb_sc77 (At.cell (hq.at sv41_hm0_0) rfl)) hS ?_
        refine WT_take (dd := some 55) 15 rfl (by kernel_rfl) (by kernel_rfl) (by kernel_rfl) rfl rfl rfl (fun _wq _hq => r_move (v := .int .i64 _) rfl) hS ?_
        refine WT_take (dd := some 56) 16 rfl (by kernel_rfl) (by kernel_rfl) (by kernel_rfl) rfl rfl rfl (fun _wq hq => r_idxS (v := mayV) rfl (hq.slT (Below.slT sv41_hB hmay)) rfl tb_el77 (by omega) (by first | omega | (simp only [flagsTo_len, litsTo_len, firstF_len, ptF_len, setF_len]; omega))) hS ?_
        refine WT_take (dd := some 57) 17 rfl (by kernel_rfl) (by kernel_rfl) (by kernel_rfl) rfl rfl rfl (fun _wq hq => r_load4 rfl tb_ag69 (SlT.cell (hq.slT (Below.slT sv41_hB hmay)) encS_len 0 (by omega) (by first | omega | (simp only [flagsTo_len, litsTo_len, firstF_len, ptF_len, setF_len]; omega)) 0 rfl) (SlT.cell (hq.slT (Below.slT sv41_hB hmay)) encS_len 0 (by omega) (by first | omega | (simp only [flagsTo_len, litsTo_len, firstF_len, ptF_len, setF_len]; omega)) 1 rfl) (SlT.cell (hq.slT (Below.slT sv41_hB hmay)) encS_len 0 (by omega) (by first | omega | (simp only [flagsTo_len, litsTo_len, firstF_len, ptF_len, setF_len]; omega)) 2 rfl) (SlT.cell (hq.slT (Below.slT sv41_hB hmay)) encS_len 0 (by omega) (by first | omega | (simp only [flagsTo_len, litsTo_len, firstF_len, ptF_len, setF_len]; omega)) 3 rfl)) hS ?_
        refine WT_take (dd := some 58) 18 rfl (by kernel_rfl) (by kernel_rfl) (by kernel_rfl) rfl rfl rfl (fun _wq _hq => r_fieldAddr (b := _) (o := _) rfl tb_fo79_0) hS ?_
        refine WT_take (dd := some 59) 19 rfl (by kernel_rfl) (by kernel_rfl) (by kernel_rfl) rfl rfl rfl (fun _wq hq => r_load1 (v := .int .i64 _) rfl tb_sc3 (At.cell (hq.at sv41_hm0_0) rfl)) hS ?_
        refine WT_one (dd := some 60) 20 (by kernel_rfl) rfl rfl rfl rfl (Yd.call (r_call1 tb_c104 (v0 := .int .i64 _) rfl) (C_drawkniferef01_All _ _ (by first | assumption | omega) (by first | assumption | omega)) (fun v6_20 W44 hE45 hP6_20 => ⟨.inl (hS.trans hE45), ?_⟩))
        have hsz46 := (Below.size hB)
        replace hB := below_ext hB hE45 (Nat.le_refl _)
        replace hm0_0 := hE45.at hm0_0
        replace hS := hS.trans hE45
        clear hE45
        replace hP6_20 := OwT.mono hP6_20 hsz46
        clear hsz46
        refine WT_one (dd := some 61) 21 (by kernel_rfl) rfl rfl rfl rfl (Yd.call (r_call1 tb_c103 (v0 := v6_20) rfl) (C_drawkniferef01_Set _ _ _ hP6_20.sl (firstF_len _)) (fun v6_21 W47 hE48 hP6_21 => ⟨.inl (hS.trans hE48), ?_⟩))
        have hsz49 := (Below.size hB)
        replace hB := below_ext hB hE48 (Nat.le_refl _)
        replace hm0_0 := hE48.at hm0_0
        replace hP6_20 := hE48.ow hP6_20
        replace hS := hS.trans hE48
        clear hE48
        clear hsz49
        obtain rfl := hP6_21
        refine WT_one (dd := some 62) 22 (by kernel_rfl) rfl rfl rfl rfl (Yd.call (r_call2 tb_c102 (v0 := .agg #[_, _, _, _]) rfl (v1 := .agg #[_, _, _, _]) rfl) (C_drawkniferef01_Within _ _ _) (fun v6_22 W50 hE51 hP6_22 => ⟨.inl (hS.trans hE51), ?_⟩))
        have hsz52 := (Below.size hB)
        replace hB := below_ext hB hE51 (Nat.le_refl _)
        replace hm0_0 := hE51.at hm0_0
        replace hP6_20 := hE51.ow hP6_20
        replace hS := hS.trans hE51
        clear hE51
        clear hsz52
        obtain rfl := hP6_22
        refine WT_take (dd := some 63) 23 rfl (by kernel_rfl) (by kernel_rfl) (by kernel_rfl) rfl rfl rfl (fun _wq _hq => r_not rfl) hS ?_
        refine WT_take (dd := some 64) 24 rfl (by kernel_rfl) (by kernel_rfl) (by kernel_rfl) rfl rfl rfl (fun _wq _hq => r_pick_f rfl (v := .bool _) rfl) hS ?_
        refine WT_done (by kernel_rfl) ?_
        try clear sv41_hB sv41_hm0_0
        refine hK35 _ _ ?_
        clear hK35 K34
        refine WC_cond (b := _) rfl (fun hc2 => ?_) (fun hc2 => ?_)
        ·
         try with_reducible replace hc2 := of_decide_eq_true hc2
         refine WC_seq (fun K53 hK54 => ?_)
         refine WC_region ?_
         refine WL_val (dd := some 2) rfl rfl rfl (r_assign (v := .bool false) rfl) ?_
         refine WL_nil ?_
         refine hK54 _ _ ?_
         clear hK54 K53
         refine WC_ret ?_
         repeat (first | refine thenQ_ret ?_ | refine blockQ_ret ?_)
         try clear hK33 K32
         try clear hJ27 J26
         try clear hK21 K20
         refine ret_t (v := .bool false) rfl ?_
         refine ⟨hB, ?_⟩
         exact right_k (k := k) (by omega) (fun h => Bool.noConfusion (h.2.symm.trans ((within_bits h8).symm.trans (not_t hc2))))
        ·
         try with_reducible replace hc2 := of_decide_eq_false hc2
         refine WC_skip ?_
         refine hK33 _ _ ?_
         clear hK33 K32
         refine WC_region ?_
         refine WL_val (dd := some 38) rfl rfl rfl (r_move (v := .int .i64 _) rfl) ?_
         refine WL_val (dd := some 39) rfl rfl rfl (r_addI rfl rfl (by omega) (by omega)) ?_
         refine WL_val (dd := some 3) rfl rfl rfl (r_assign (v := .int .i64 _) rfl) ?_
         refine WL_nil ?_
         refine hJ27 _ _ (k + 1) ?_ ?_ ?_ ?_
         · repeat (first | exact agree.mask _ _ _ | refine agree.updo ?_ rfl _ | refine agree.updL ?_ _ rfl | refine agree.maskS rfl ?_)
         · exact ⟨rfl, trivial⟩
         · exact ⟨hB, hm0_0, (by omega), (upTo_succ hq ⟨not_f hs6_12, by rw [← within_bits h8]; exact not_f hc2⟩), trivial⟩
         · first | omega | (dsimp only; omega)
      ·
       try with_reducible replace hc1 := of_decide_eq_false hc1
       refine WC_exit ?_
       refine hK21 _ _ ?_
       clear hK29 K28
       clear hJ27 J26
       clear hK21 K20
       refine WC_seq (fun K55 hK56 => ?_)
       refine WC_region ?_
       refine WL_val (dd := some 2) rfl rfl rfl (r_assign (v := .bool true) rfl) ?_
       refine WL_nil ?_
       refine hK56 _ _ ?_
       clear hK56 K55
       refine WC_ret ?_
       repeat (first | refine thenQ_ret ?_ | refine blockQ_ret ?_)
       refine ret_t (v := .bool true) rfl ?_
       refine ⟨hB, ?_⟩
       obtain rfl : k = S.on.length := by omega
       exact right_t (by omega) hq

theorem C_spec_Right (S : Sp) (onV mayV : Value) (w : World) (hon : SlT encS 4 w onV S.on) (hmay : SlT encS 4 w mayV S.may) :
    Fn Try.prog 111 #[.agg #[.int .i64 S.n, onV, mayV]] w fun v w' => v = .bool (rightS S) := by
 refine Fn_intro (n := 63) Try.func111 rfl rfl (Nat.le_of_ble_eq_true rfl) ?_
 have hB : Below w.heap.size w w := Below.refl _ _
 refine WC_seq (fun K1 hK2 => ?_)
 refine WC_region ?_
 refine WL_step (dd := some 1) rfl rfl rfl (Y_box (c := #[_, _, _]) rfl rfl (fun b0_0 W3 hb4 hE5 hm0_0 => ?_))
 have lo_b0_0 : w.heap.size ≤ b0_0 := hb4 ▸ (Below.size hB)
 clear hb4
 replace hB := below_ext hB hE5 (Nat.le_refl _)
 clear hE5
 refine WL_val (dd := some 2) rfl rfl rfl (r_assign (v := .bool false) rfl) ?_
 refine WL_nil ?_
 refine hK2 _ _ ?_
 clear hK2 K1
 refine WC_seq (fun K6 hK7 => ?_)
 refine WC_region ?_
 refine WL_val (dd := some 8) rfl rfl rfl (r_fieldAddr (b := _) (o := _) rfl tb_fo79_0) ?_
 refine WL_val (dd := some 9) rfl rfl rfl (r_load1 (v := .int .i64 _) rfl tb_sc3 (At.cell hm0_0 rfl)) ?_
 refine WL_call (dd := some 10) rfl rfl rfl (r_call1 tb_c105 (v0 := .int .i64 _) rfl) (C_set_All _ _) (fun v1_2 W8 hE9 hP1_2 => ?_)
 have hsz10 := (Below.size hB)
 replace hB := below_ext hB hE9 (Nat.le_refl _)
 replace hm0_0 := hE9.at hm0_0
 clear hE9
 obtain ⟨sa, er, rfl, hhP1_2⟩ := all_cases hP1_2
 clear hsz10
 refine WL_val (dd := some 7) rfl rfl rfl (r_move (v := .tuple #[.agg #[_, _, _, _], .int .i64 _]) rfl) ?_
 refine WL_val (dd := some 11) rfl rfl rfl (r_ext2_0 (h := rfl)) ?_
 refine WL_val (dd := some 12) rfl rfl rfl (r_ext2_1 (h := rfl)) ?_
 refine WL_step (dd := some 3) rfl rfl rfl (Y_alloc tb_z69 rfl (fun b1_6 W11 hb12 hE13 hm1_6 => ?_))
 have lo_b1_6 : w.heap.size ≤ b1_6 := hb12 ▸ (Below.size hB)
 clear hb12
 replace hB := below_ext hB hE13 (Nat.le_refl _)
 replace hm0_0 := hE13.at hm0_0
 clear hE13
 replace hm1_6 : At W11 b1_6 #[wv 0 0, wv 0 1, wv 0 2, wv 0 3] 69 := hm1_6
 refine WL_step (dd := none) rfl rfl rfl (Y_storeW rfl rfl tb_ag69 rfl hm1_6 rfl (by rfl) (fun W14 hG15 hm16 => ?_))
 replace hB := below_grown hB hG15 (Nat.le_refl _) (fun j hj => by cases hj; exact lo_b1_6)
 replace hm0_0 := At.grownAt hm0_0 hm1_6 hG15 (by decide)
 clear hG15 hm1_6
 have hm1_6 := hm16
 clear hm16
 refine WL_val (dd := some 4) rfl rfl rfl (r_assign (v := .int .i64 _) rfl) ?_
 refine WL_nil ?_
 refine hK7 _ _ ?_
 clear hK7 K6
 refine WC_seq (fun K17 hK18 => ?_)
 refine WC_seq (fun K19 hK20 => ?_)
 refine WC_region ?_
 refine WL_val (dd := some 13) rfl rfl rfl (r_move (v := .int .i64 _) rfl) ?_
 refine WL_val (dd := some 14) rfl rfl rfl (r_neq rfl rfl) ?_
 refine WL_split (dd := some 15) rfl rfl rfl (r_move (v := .bool _) rfl) (fun hs2_2 => ?_) (fun hs2_2 => ?_)
 ·
  try with_reducible replace hs2_2 := of_decide_eq_true hs2_2
  refine WL_skip (dd := some 16) rfl rfl rfl ?_
  refine WL_skip (dd := some 17) rfl rfl rfl ?_
  refine WL_skip (dd := some 18) rfl rfl rfl ?_
  refine WL_skip (dd := some 19) rfl rfl rfl ?_
  refine WL_val (dd := some 20) rfl rfl rfl (r_pick_t rfl (v := .bool true) rfl) ?_
  refine WL_val (dd := some 21) rfl rfl rfl (r_move (v := .bool true) rfl) ?_
  refine WL_skip (dd := some 22) rfl rfl rfl ?_
  refine WL_skip (dd := some 23) rfl rfl rfl ?_
  refine WL_skip (dd := some 24) rfl rfl rfl ?_
  refine WL_skip (dd := some 25) rfl rfl rfl ?_
  refine WL_val (dd := some 26) rfl rfl rfl (r_pick_t rfl (v := .bool true) rfl) ?_
  refine WL_val (dd := some 27) rfl rfl rfl (r_move (v := .bool true) rfl) ?_
  refine WL_skip (dd := some 28) rfl rfl rfl ?_
  refine WL_skip (dd := some 29) rfl rfl rfl ?_
  refine WL_skip (dd := some 30) rfl rfl rfl ?_
  refine WL_skip (dd := some 31) rfl rfl rfl ?_
  refine WL_skip (dd := some 32) rfl rfl rfl ?_
  refine WL_skip (dd := some 33) rfl rfl rfl ?_
  refine WL_skip (dd := some 34) rfl rfl rfl ?_
  refine WL_val (dd := some 35) rfl rfl rfl (r_pick_t rfl (v := .bool true) rfl) ?_
  refine WL_nil ?_
  refine hK20 _ _ ?_
  clear hK20 K19
  refine WC_cond_true rfl ?_
  refine WC_seq (fun K21 hK22 => ?_)
  refine WC_region ?_
  refine WL_val (dd := some 2) rfl rfl rfl (r_assign (v := .bool false) rfl) ?_
  refine WL_nil ?_
  refine hK22 _ _ ?_
  clear hK22 K21
  refine WC_ret ?_
  repeat (first | refine thenQ_ret ?_ | refine blockQ_ret ?_)
  try clear hK18 K17
  refine ret_t (v := .bool false) rfl ?_
  refine ⟨hB, ?_⟩
  exact right_f (fun h => all_no hhP1_2 hs2_2 ⟨h.1, h.2.1⟩)
 ·
  try with_reducible replace hs2_2 := of_decide_eq_false hs2_2
  refine WL_val (dd := some 16) rfl rfl rfl (r_fieldAddr (b := _) (o := _) rfl tb_fo79_1) ?_
  refine WL_val (dd := some 17) rfl rfl rfl (r_load1 (v := onV) rfl tb_sc77 (At.cell hm0_0 rfl)) ?_
  refine WL_val (dd := some 18) rfl rfl rfl (r_lenS (v := onV) rfl (Below.slT hB hon) tb_el77) ?_
  refine WL_val (dd := some 19) rfl rfl rfl (r_lss rfl rfl) ?_
  refine WL_val (dd := some 20) rfl rfl rfl (r_pick_f rfl (v := .bool _) rfl) ?_
  refine WL_split (dd := some 21) rfl rfl rfl (r_move (v := .bool _) rfl) (fun hs2_8 => ?_) (fun hs2_8 => ?_)
  ·
   try with_reducible replace hs2_8 := of_decide_eq_true hs2_8
   refine WL_skip (dd := some 22) rfl rfl rfl ?_
   refine WL_skip (dd := some 23) rfl rfl rfl ?_
   refine WL_skip (dd := some 24) rfl rfl rfl ?_
   refine WL_skip (dd := some 25) rfl rfl rfl ?_
   refine WL_val (dd := some 26) rfl rfl rfl (r_pick_t rfl (v := .bool true) rfl) ?_
   refine WL_val (dd := some 27) rfl rfl rfl (r_move (v := .bool true) rfl) ?_
   refine WL_skip (dd := some 28) rfl rfl rfl ?_
   refine WL_skip (dd := some 29) rfl rfl rfl ?_
   refine WL_skip (dd := some 30) rfl rfl rfl ?_
   refine WL_skip (dd := some 31) rfl rfl rfl ?_
   refine WL_skip (dd := some 32) rfl rfl rfl ?_
   refine WL_skip (dd := some 33) rfl rfl rfl ?_
   refine WL_skip (dd := some 34) rfl rfl rfl ?_
   refine WL_val (dd := some 35) rfl rfl rfl (r_pick_t rfl (v := .bool true) rfl) ?_
   refine WL_nil ?_
   refine hK20 _ _ ?_
   clear hK20 K19
   refine WC_cond_true rfl ?_
   refine WC_seq (fun K23 hK24 => ?_)
   refine WC_region ?_
   refine WL_val (dd := some 2) rfl rfl rfl (r_assign (v := .bool false) rfl) ?_
   refine WL_nil ?_
   refine hK24 _ _ ?_
   clear hK24 K23
   refine WC_ret ?_
   repeat (first | refine thenQ_ret ?_ | refine blockQ_ret ?_)
   try clear hK18 K17
   refine ret_t (v := .bool false) rfl ?_
   refine ⟨hB, ?_⟩
   exact right_f (by omega)
  ·
   try with_reducible replace hs2_8 := of_decide_eq_false hs2_8
   refine WL_val (dd := some 22) rfl rfl rfl (r_fieldAddr (b := _) (o := _) rfl tb_fo79_1) ?_
   refine WL_val (dd := some 23) rfl rfl rfl (r_load1 (v := onV) rfl tb_sc77 (At.cell hm0_0 rfl)) ?_
   refine WL_val (dd := some 24) rfl rfl rfl (r_lenS (v := onV) rfl (Below.slT hB hon) tb_el77) ?_
   refine WL_val (dd := some 25) rfl rfl rfl (r_gtr rfl rfl) ?_
   refine WL_val (dd := some 26) rfl rfl rfl (r_pick_f rfl (v := .bool _) rfl) ?_
   refine WL_split (dd := some 27) rfl rfl rfl (r_move (v := .bool _) rfl) (fun hs2_14 => ?_) (fun hs2_14 => ?_)
   ·
    try with_reducible replace hs2_14 := of_decide_eq_true hs2_14
    refine WL_skip (dd := some 28) rfl rfl rfl ?_
    refine WL_skip (dd := some 29) rfl rfl rfl ?_
    refine WL_skip (dd := some 30) rfl rfl rfl ?_
    refine WL_skip (dd := some 31) rfl rfl rfl ?_
    refine WL_skip (dd := some 32) rfl rfl rfl ?_
    refine WL_skip (dd := some 33) rfl rfl rfl ?_
    refine WL_skip (dd := some 34) rfl rfl rfl ?_
    refine WL_val (dd := some 35) rfl rfl rfl (r_pick_t rfl (v := .bool true) rfl) ?_
    refine WL_nil ?_
    refine hK20 _ _ ?_
    clear hK20 K19
    refine WC_cond_true rfl ?_
    refine WC_seq (fun K25 hK26 => ?_)
    refine WC_region ?_
    refine WL_val (dd := some 2) rfl rfl rfl (r_assign (v := .bool false) rfl) ?_
    refine WL_nil ?_
    refine hK26 _ _ ?_
    clear hK26 K25
    refine WC_ret ?_
    repeat (first | refine thenQ_ret ?_ | refine blockQ_ret ?_)
    try clear hK18 K17
    refine ret_t (v := .bool false) rfl ?_
    refine ⟨hB, ?_⟩
    exact right_f (by omega)
   ·
    try with_reducible replace hs2_14 := of_decide_eq_false hs2_14
    refine WL_val (dd := some 28) rfl rfl rfl (r_fieldAddr (b := _) (o := _) rfl tb_fo79_1) ?_
    refine WL_val (dd := some 29) rfl rfl rfl (r_load1 (v := onV) rfl tb_sc77 (At.cell hm0_0 rfl)) ?_
    refine WL_val (dd := some 30) rfl rfl rfl (r_lenS (v := onV) rfl (Below.slT hB hon) tb_el77) ?_
    refine WL_val (dd := some 31) rfl rfl rfl (r_fieldAddr (b := _) (o := _) rfl tb_fo79_2) ?_
    refine WL_val (dd := some 32) rfl rfl rfl (r_load1 (v := mayV) rfl tb_sc77 (At.cell hm0_0 rfl)) ?_
    refine WL_val (dd := some 33) rfl rfl rfl (r_lenS (v := mayV) rfl (Below.slT hB hmay) tb_el77) ?_
    refine WL_val (dd := some 34) rfl rfl rfl (r_neq rfl rfl) ?_
    refine WL_val (dd := some 35) rfl rfl rfl (r_pick_f rfl (v := .bool _) rfl) ?_
    refine WL_nil ?_
    refine hK20 _ _ ?_
    clear hK20 K19
    refine WC_cond (b := _) rfl (fun hc0 => ?_) (fun hc0 => ?_)
    ·
     try with_reducible replace hc0 := of_decide_eq_true hc0
     refine WC_seq (fun K27 hK28 => ?_)
     refine WC_region ?_
     refine WL_val (dd := some 2) rfl rfl rfl (r_assign (v := .bool false) rfl) ?_
     refine WL_nil ?_
     refine hK28 _ _ ?_
     clear hK28 K27
     refine WC_ret ?_
     repeat (first | refine thenQ_ret ?_ | refine blockQ_ret ?_)
     try clear hK18 K17
     refine ret_t (v := .bool false) rfl ?_
     refine ⟨hB, ?_⟩
     exact right_f (by omega)
    ·
     try with_reducible replace hc0 := of_decide_eq_false hc0
     refine WC_skip ?_
     refine hK18 _ _ ?_
     clear hK18 K17
     refine WC_seq (fun K29 hK30 => ?_)
     refine WC_seq (fun K31 hK32 => ?_)
     obtain ⟨h0, h8, rfl⟩ := all_bounds hhP1_2 hs2_2
     refine WC_region ?_
     refine WL_val (dd := some 36) rfl rfl rfl (r_fieldAddr (b := _) (o := _) rfl tb_fo79_1) ?_
     refine WL_val (dd := some 37) rfl rfl rfl (r_load1 (v := onV) rfl tb_sc77 (At.cell hm0_0 rfl)) ?_
     refine WL_val (dd := some 38) rfl rfl rfl (r_lenS (v := onV) rfl (Below.slT hB hon) tb_el77) ?_
     refine WL_val (dd := some 39) rfl rfl rfl (r_move (v := .int .i64 0) rfl) ?_
     refine WL_nil ?_
     refine hK32 _ _ ?_
     clear hK32 K31
     refine WC_block ?_
     refine WC_loop (σ := (Nat)) [2, 5, 6, 39, 40, 41, 42, 43, 44, 45, 46, 47, 48, 49, 50, 51, 52, 53, 54, 55, 56, 57, 58, 59, 60, 61, 62] (fun k => [(39, .int .i64 (k : Int))]) (fun k W => (Below w.heap.size w W) ∧ (At W b0_0 _ 79) ∧ (At W b1_6 _ 69) ∧ (k ≤ S.on.length) ∧ (∀ q, q < k → withinB (onP S q) (mayP S q) = true ∧ withinB (mayP S q) (allS S.n.toNat) = true) ∧ (True)) (fun k => S.on.length - k) (0) ⟨rfl, trivial⟩ ⟨hB, hm0_0, hm1_6, (Nat.zero_le _), upTo_zero, trivial⟩ ?_
     clear hB hm0_0 hm1_6
     rintro k g34 W33 ⟨hB, hm0_0, hm1_6, hk, hq, _⟩ J35 hJ36
     refine WC_seq (fun K37 hK38 => ?_)
     refine WC_region ?_
     refine WL_val (dd := some 40) rfl rfl rfl (r_lss rfl rfl) ?_
     refine WL_nil ?_
     refine hK38 _ _ ?_
     clear hK38 K37
     refine WC_seq (fun K39 hK40 => ?_)
     refine WC_cond (b := _) rfl (fun hc1 => ?_) (fun hc1 => ?_)
     ·
      try with_reducible replace hc1 := of_decide_eq_true hc1
      refine WC_skip ?_
      refine hK40 _ _ ?_
      clear hK40 K39
      refine WC_seq (fun K41 hK42 => ?_)
      refine WC_block ?_
      refine WC_seq (fun K43 hK44 => ?_)
      refine WC_region ?_
      refine WL_val (dd := some 41) rfl rfl rfl (r_move (v := .int .i64 _) rfl) ?_
      refine WL_val (dd := some 42) rfl rfl rfl (r_idxS (v := onV) rfl (Below.slT hB hon) rfl tb_el77 (by omega) (by first | omega | (simp only [flagsTo_len, litsTo_len, firstF_len, ptF_len, setF_len]; omega))) ?_
      refine WL_val (dd := some 43) rfl rfl rfl (r_load4 rfl tb_ag69 (SlT.cell (Below.slT hB hon) encS_len 0 (by omega) (by first | omega | (simp only [flagsTo_len, litsTo_len, firstF_len, ptF_len, setF_len]; omega)) 0 rfl) (SlT.cell (Below.slT hB hon) encS_len 0 (by omega) (by first | omega | (simp only [flagsTo_len, litsTo_len, firstF_len, ptF_len, setF_len]; omega)) 1 rfl) (SlT.cell (Below.slT hB hon) encS_len 0 (by omega) (by first | omega | (simp only [flagsTo_len, litsTo_len, firstF_len, ptF_len, setF_len]; omega)) 2 rfl) (SlT.cell (Below.slT hB hon) encS_len 0 (by omega) (by first | omega | (simp only [flagsTo_len, litsTo_len, firstF_len, ptF_len, setF_len]; omega)) 3 rfl)) ?_
      refine WL_step (dd := some 6) rfl rfl rfl (Y_alloc tb_z69 rfl (fun b6_3 W45 hb46 hE47 hm6_3 => ?_))
      have lo_b6_3 : w.heap.size ≤ b6_3 := hb46 ▸ (Below.size hB)
      have ne_b1_6_b6_3 : b1_6 ≠ b6_3 := Nat.ne_of_lt (hb46 ▸ hm1_6.lt)
      clear hb46
      replace hB := below_ext hB hE47 (Nat.le_refl _)
      replace hm0_0 := hE47.at hm0_0
      replace hm1_6 := hE47.at hm1_6
      clear hE47
      replace hm6_3 : At W45 b6_3 #[wv 0 0, wv 0 1, wv 0 2, wv 0 3] 69 := hm6_3
      refine WL_val (dd := some 5) rfl rfl rfl (r_assign (v := .int .i64 _) rfl) ?_
      refine WL_step (dd := none) rfl rfl rfl (Y_storeW rfl rfl tb_ag69 rfl hm6_3 rfl (by rfl) (fun W48 hG49 hm50 => ?_))
      replace hB := below_grown hB hG49 (Nat.le_refl _) (fun j hj => by cases hj; exact lo_b6_3)
      replace hm0_0 := At.grownAt hm0_0 hm6_3 hG49 (by decide)
      replace hm1_6 := At.grownNe hm1_6 ne_b1_6_b6_3 hG49
      clear hG49 hm6_3
      have hm6_3 := hm50
      clear hm50
      refine WL_nil ?_
      refine hK44 _ _ ?_
      clear hK44 K43
      refine WC_seq (fun K51 hK52 => ?_)
      refine WC_draw Ext tb_mix (fun W53 hE54 => ?_)
      replace hB := below_ext hB hE54 (Nat.le_refl _)
      replace hm0_0 := hE54.at hm0_0
      replace hm1_6 := hE54.at hm1_6
      replace hm6_3 := hE54.at hm6_3
      have hS := Ext.refl W53
      refine WT_take (dd := some 44) 0 rfl (by kernel_rfl) (by kernel_rfl) (by kernel_rfl) rfl rfl rfl (fun _wq hq => r_loadW rfl tb_ag69 rfl (hq.at hm6_3)) hS ?_
      refine WT_take (dd := some 45) 1 rfl (by kernel_rfl) (by kernel_rfl) (by kernel_rfl) rfl rfl rfl (fun _wq _hq => r_fieldAddr (b := _) (o := _) rfl tb_fo79_2) hS ?_
      refine WT_take (dd := some 46) 2 rfl (by kernel_rfl) (by kernel_rfl) (by kernel_rfl) rfl rfl rfl (fun _wq hq => r_load1 (v := mayV) rfl tb_sc77 (At.cell (hq.at hm0_0) rfl)) hS ?_
      refine WT_take (dd := some 47) 3 rfl (by kernel_rfl) (by kernel_rfl) (by kernel_rfl) rfl rfl rfl (fun _wq _hq => r_move (v := .int .i64 _) rfl) hS ?_
      refine WT_take (dd := some 48) 4 rfl (by kernel_rfl) (by kernel_rfl) (by kernel_rfl) rfl rfl rfl (fun _wq hq => r_idxS (v := mayV) rfl (hq.slT (Below.slT hB hmay)) rfl tb_el77 (by omega) (by first | omega | (simp only [flagsTo_len, litsTo_len, firstF_len, ptF_len, setF_len]; omega))) hS ?_
      refine WT_take (dd := some 49) 5 rfl (by kernel_rfl) (by kernel_rfl) (by kernel_rfl) rfl rfl rfl (fun _wq hq => r_load4 rfl tb_ag69 (SlT.cell (hq.slT (Below.slT hB hmay)) encS_len 0 (by omega) (by first | omega | (simp only [flagsTo_len, litsTo_len, firstF_len, ptF_len, setF_len]; omega)) 0 rfl) (SlT.cell (hq.slT (Below.slT hB hmay)) encS_len 0 (by omega) (by first | omega | (simp only [flagsTo_len, litsTo_len, firstF_len, ptF_len, setF_len]; omega)) 1 rfl) (SlT.cell (hq.slT (Below.slT hB hmay)) encS_len 0 (by omega) (by first | omega | (simp only [flagsTo_len, litsTo_len, firstF_len, ptF_len, setF_len]; omega)) 2 rfl) (SlT.cell (hq.slT (Below.slT hB hmay)) encS_len 0 (by omega) (by first | omega | (simp only [flagsTo_len, litsTo_len, firstF_len, ptF_len, setF_len]; omega)) 3 rfl)) hS ?_
      refine WT_one (dd := some 50) 6 (by kernel_rfl) rfl rfl rfl rfl (Yd.call (r_call2 tb_c106 (v0 := .agg #[_, _, _, _]) rfl (v1 := .agg #[_, _, _, _]) rfl) (C_set_Within _ _ _) (fun v7_6 W55 hE56 hP7_6 => ⟨.inl (hS.trans hE56), ?_⟩))
      have hsz57 := (Below.size hB)
      have sv58_hB := hB
      have sv58_hm0_0 := hm0_0
      have sv58_hm1_6 := hm1_6
      have sv58_hm6_3 := hm6_3
      replace hB := below_ext hB hE56 (Nat.le_refl _)
      replace hm0_0 := hE56.at hm0_0
      replace hm1_6 := hE56.at hm1_6
      replace hm6_3 := hE56.at hm6_3
      replace hS := hS.trans hE56
      clear hE56
      clear hsz57
      obtain rfl := hP7_6
      refine WT_take (dd := some 51) 7 rfl (by kernel_rfl) (by kernel_rfl) (by kernel_rfl) rfl rfl rfl (fun _wq _hq => r_not rfl) hS ?_
      refine WT_split (dd := some 52) 8 rfl (by kernel_rfl) (by kernel_rfl) (by kernel_rfl) rfl rfl rfl (fun wq hq => r_move (v := .bool _) rfl) hS (fun hs7_8 => ?_) (fun hs7_8 => ?_)
      ·
       try with_reducible replace hs7_8 := of_decide_eq_true hs7_8
       refine WT_pass (dd := some 53) 9 rfl (by kernel_rfl) (by kernel_rfl) (by kernel_rfl) rfl rfl rfl hS ?_
       refine WT_pass (dd := some 54) 10 rfl (by kernel_rfl) (by kernel_rfl) (by kernel_rfl) rfl rfl rfl hS ?_
       refine WT_pass (dd := some 55) 11 rfl (by kernel_rfl) (by kernel_rfl) (by kernel_rfl) rfl rfl rfl hS ?_
       refine WT_pass (dd := some 56) 12 rfl (by kernel_rfl) (by kernel_rfl) (by kernel_rfl) rfl rfl rfl hS ?_
       refine WT_pass (dd := some 57) 13 rfl (by kernel_rfl) (by kernel_rfl) (by kernel_rfl) rfl rfl rfl hS ?_
       refine WT_pass (dd := some 58) 14 rfl (by kernel_rfl) (by kernel_rfl) (by kernel_rfl) rfl rfl rfl hS ?_
       refine WT_pass (dd := some 59) 15 rfl (by kernel_rfl) (by kernel_rfl) (by kernel_rfl) rfl rfl rfl hS ?_
       refine WT_pass (dd := some 60) 16 rfl (by kernel_rfl) (by kernel_rfl) (by kernel_rfl) rfl rfl rfl hS ?_
       refine WT_take (dd := some 61) 17 rfl (by kernel_rfl) (by kernel_rfl) (by kernel_rfl) rfl rfl rfl (fun _wq _hq => r_pick_t rfl (v := .bool true) rfl) hS ?_
       refine WT_done (by kernel_rfl) ?_
       try clear sv58_hB sv58_hm0_0 sv58_hm1_6 sv58_hm6_3
       refine hK52 _ _ ?_
       clear hK52 K51
       refine WC_cond_true rfl ?_
       refine WC_seq (fun K59 hK60 => ?_)
       refine WC_region ?_
       refine WL_val (dd := some 2) rfl rfl rfl (r_assign (v := .bool false) rfl) ?_
       refine WL_nil ?_
       refine hK60 _ _ ?_
       clear hK60 K59
       refine WC_ret ?_
       repeat (first | refine thenQ_ret ?_ | refine blockQ_ret ?_)
       try clear hK42 K41
       try clear hJ36 J35
       try clear hK30 K29
       refine ret_t (v := .bool false) rfl ?_
       refine ⟨hB, ?_⟩
       exact right_k (k := k) (by omega) (fun h => Bool.noConfusion (h.1.symm.trans (not_t hs7_8)))
      ·
       try with_reducible replace hs7_8 := of_decide_eq_false hs7_8
       refine WT_take (dd := some 53) 9 rfl (by kernel_rfl) (by kernel_rfl) (by kernel_rfl) rfl rfl rfl (fun _wq _hq => r_fieldAddr (b := _) (o := _) rfl tb_fo79_2) hS ?_
       refine WT_take (dd := some 54) 10 rfl (by kernel_rfl) (by kernel_rfl) (by kernel_rfl) rfl rfl rfl (fun _wq hq => r_load1 (v := mayV) rfl tb_sc77 (At.cell (hq.at sv58_hm0_0) rfl)) hS ?_
       refine WT_take (dd := some 55) 11 rfl (by kernel_rfl) (by kernel_rfl) (by kernel_rfl) rfl rfl rfl (fun _wq _hq => r_move (v := .int .i64 _) rfl) hS ?_
       refine WT_take (dd := some 56) 12 rfl (by kernel_rfl) (by kernel_rfl) (by kernel_rfl) rfl rfl rfl (fun _wq hq => r_idxS (v := mayV) rfl (hq.slT (Below.slT sv58_hB hmay)) rfl tb_el77 (by omega) (by first | omega | (simp only [flagsTo_len, litsTo_len, firstF_len, ptF_len, setF_len]; omega))) hS ?_
       refine WT_take (dd := some 57) 13 rfl (by kernel_rfl) (by kernel_rfl) (by kernel_rfl) rfl rfl rfl (fun _wq hq => r_load4 rfl tb_ag69 (SlT.cell (hq.slT (Below.slT sv58_hB hmay)) encS_len 0 (by omega) (by first | omega | (simp only [flagsTo_len, litsTo_len, firstF_len, ptF_len, setF_len]; omega)) 0 rfl) (SlT.cell (hq.slT (Below.slT sv58_hB hmay)) encS_len 0 (by omega) (by first | omega | (simp only [flagsTo_len, litsTo_len, firstF_len, ptF_len, setF_len]; omega)) 1 rfl) (SlT.cell (hq.slT (Below.slT sv58_hB hmay)) encS_len 0 (by omega) (by first | omega | (simp only [flagsTo_len, litsTo_len, firstF_len, ptF_len, setF_len]; omega)) 2 rfl) (SlT.cell (hq.slT (Below.slT sv58_hB hmay)) encS_len 0 (by omega) (by first | omega | (simp only [flagsTo_len, litsTo_len, firstF_len, ptF_len, setF_len]; omega)) 3 rfl)) hS ?_
       refine WT_take (dd := some 58) 14 rfl (by kernel_rfl) (by kernel_rfl) (by kernel_rfl) rfl rfl rfl (fun _wq hq => r_loadW rfl tb_ag69 rfl (hq.at sv58_hm1_6)) hS ?_
       refine WT_one (dd := some 59) 15 (by kernel_rfl) rfl rfl rfl rfl (Yd.call (r_call2 tb_c106 (v0 := .agg #[_, _, _, _]) rfl (v1 := .agg #[_, _, _, _]) rfl) (C_set_Within _ _ _) (fun v7_15 W61 hE62 hP7_15 => ⟨.inl (hS.trans hE62), ?_⟩))
       have hsz63 := (Below.size hB)
       replace hB := below_ext hB hE62 (Nat.le_refl _)
       replace hm0_0 := hE62.at hm0_0
       replace hm1_6 := hE62.at hm1_6
       replace hm6_3 := hE62.at hm6_3
       replace hS := hS.trans hE62
       clear hE62
       clear hsz63
       obtain rfl := hP7_15
       refine WT_take (dd := some 60) 16 rfl (by kernel_rfl) (by kernel_rfl) (by kernel_rfl) rfl rfl rfl (fun _wq _hq => r_not rfl) hS ?_
       refine WT_take (dd := some 61) 17 rfl (by kernel_rfl) (by kernel_rfl) (by kernel_rfl) rfl rfl rfl (fun _wq _hq => r_pick_f rfl (v := .bool _) rfl) hS ?_
       refine WT_done (by kernel_rfl) ?_
       try clear sv58_hB sv58_hm0_0 sv58_hm1_6 sv58_hm6_3
       refine hK52 _ _ ?_
       clear hK52 K51
       refine WC_cond (b := _) rfl (fun hc2 => ?_) (fun hc2 => ?_)
       ·
        try with_reducible replace hc2 := of_decide_eq_true hc2
        refine WC_seq (fun K64 hK65 => ?_)
        refine WC_region ?_
        refine WL_val (dd := some 2) rfl rfl rfl (r_assign (v := .bool false) rfl) ?_
        refine WL_nil ?_
        refine hK65 _ _ ?_
        clear hK65 K64
        refine WC_ret ?_
        repeat (first | refine thenQ_ret ?_ | refine blockQ_ret ?_)
        try clear hK42 K41
        try clear hJ36 J35
        try clear hK30 K29
        refine ret_t (v := .bool false) rfl ?_
        refine ⟨hB, ?_⟩
        exact right_k (k := k) (by omega) (fun h => Bool.noConfusion (h.2.symm.trans (not_t hc2)))
       ·
        try with_reducible replace hc2 := of_decide_eq_false hc2
        refine WC_skip ?_
        refine hK42 _ _ ?_
        clear hK42 K41
        refine WC_region ?_
        refine WL_val (dd := some 62) rfl rfl rfl (r_addI rfl rfl (by omega) (by omega)) ?_
        refine WL_val (dd := some 39) rfl rfl rfl (r_move (v := .int .i64 _) rfl) ?_
        refine WL_nil ?_
        refine hJ36 _ _ (k + 1) ?_ ?_ ?_ ?_
        · repeat (first | exact agree.mask _ _ _ | refine agree.updo ?_ rfl _ | refine agree.updL ?_ _ rfl | refine agree.maskS rfl ?_)
        · exact ⟨rfl, trivial⟩
        · exact ⟨hB, hm0_0, hm1_6, (by omega), (upTo_succ hq ⟨not_f hs7_8, not_f hc2⟩), trivial⟩
        · first | omega | (dsimp only; omega)
     ·
      try with_reducible replace hc1 := of_decide_eq_false hc1
      refine WC_exit ?_
      refine hK30 _ _ ?_
      clear hK40 K39
      clear hJ36 J35
      clear hK30 K29
      refine WC_seq (fun K66 hK67 => ?_)
      refine WC_region ?_
      refine WL_val (dd := some 2) rfl rfl rfl (r_assign (v := .bool true) rfl) ?_
      refine WL_nil ?_
      refine hK67 _ _ ?_
      clear hK67 K66
      refine WC_ret ?_
      repeat (first | refine thenQ_ret ?_ | refine blockQ_ret ?_)
      refine ret_t (v := .bool true) rfl ?_
      refine ⟨hB, ?_⟩
      obtain rfl : k = S.on.length := by omega
      exact right_t (by omega) hq

theorem C_multi_outs (S : Sp) (onV mayV : Value) (c : Cb) (w : World) (hon : SlT encS 4 w onV S.on) (hmay : SlT encS 4 w mayV S.may) (hc : c.m < 256 ∧ c.v < 256) (hl : S.may.length ≤ 7) :
    Fn Try.prog 115 #[.agg #[.int .i64 S.n, onV, mayV], .agg #[.int .u8 (c.m : Int), .int .u8 (c.v : Int)]] w fun v w' => v = .int .u8 ((outsS S c : Nat) : Int) := by
 refine Fn_intro (n := 27) Try.func115 rfl rfl (Nat.le_of_ble_eq_true rfl) ?_
 have hB : Below w.heap.size w w := Below.refl _ _
 refine WC_seq (fun K1 hK2 => ?_)
 refine WC_region ?_
 refine WL_step (dd := some 2) rfl rfl rfl (Y_box (c := #[_, _, _]) rfl rfl (fun b0_0 W3 hb4 hE5 hm0_0 => ?_))
 have lo_b0_0 : w.heap.size ≤ b0_0 := hb4 ▸ (Below.size hB)
 clear hb4
 replace hB := below_ext hB hE5 (Nat.le_refl _)
 clear hE5
 refine WL_step (dd := some 3) rfl rfl rfl (Y_box (c := #[_, _]) rfl rfl (fun b0_1 W6 hb7 hE8 hm0_1 => ?_))
 have lo_b0_1 : w.heap.size ≤ b0_1 := hb7 ▸ (Below.size hB)
 clear hb7
 replace hB := below_ext hB hE8 (Nat.le_refl _)
 replace hm0_0 := hE8.at hm0_0
 clear hE8
 refine WL_val (dd := some 4) rfl rfl rfl (r_assign (v := .int .u8 0) rfl) ?_
 refine WL_nil ?_
 refine hK2 _ _ ?_
 clear hK2 K1
 refine WC_seq (fun K9 hK10 => ?_)
 refine WC_region ?_
 refine WL_val (dd := some 5) rfl rfl rfl (r_assign (v := .int .u8 0) rfl) ?_
 refine WL_nil ?_
 refine hK10 _ _ ?_
 clear hK10 K9
 refine WC_seq (fun K11 hK12 => ?_)
 refine WC_seq (fun K13 hK14 => ?_)
 refine WC_region ?_
 refine WL_val (dd := some 8) rfl rfl rfl (r_fieldAddr (b := _) (o := _) rfl tb_fo79_2) ?_
 refine WL_val (dd := some 9) rfl rfl rfl (r_load1 (v := mayV) rfl tb_sc77 (At.cell hm0_0 rfl)) ?_
 refine WL_val (dd := some 10) rfl rfl rfl (r_lenS (v := mayV) rfl (Below.slT hB hmay) tb_el77) ?_
 refine WL_val (dd := some 11) rfl rfl rfl (r_move (v := .int .i64 0) rfl) ?_
 refine WL_nil ?_
 refine hK14 _ _ ?_
 clear hK14 K13
 refine WC_block ?_
 refine WC_loop (σ := (Nat)) [5, 6, 7, 11, 12, 13, 14, 15, 16, 17, 18, 19, 20, 21, 22, 23, 24, 25] (fun k => [(11, .int .i64 (k : Int)), (5, .int .u8 ((outsTo S c k : Nat) : Int))]) (fun k W => (Below w.heap.size w W) ∧ (At W b0_0 _ 79) ∧ (At W b0_1 _ 55) ∧ (k ≤ S.may.length) ∧ (True)) (fun k => S.may.length - k) (0) ⟨rfl, rfl, trivial⟩ ⟨hB, hm0_0, hm0_1, (Nat.zero_le _), trivial⟩ ?_
 clear hB hm0_0 hm0_1
 rintro k g16 W15 ⟨hB, hm0_0, hm0_1, hk, _⟩ J17 hJ18
 refine WC_seq (fun K19 hK20 => ?_)
 refine WC_region ?_
 refine WL_val (dd := some 12) rfl rfl rfl (r_lss rfl rfl) ?_
 refine WL_nil ?_
 refine hK20 _ _ ?_
 clear hK20 K19
 refine WC_seq (fun K21 hK22 => ?_)
 refine WC_cond (b := _) rfl (fun hc0 => ?_) (fun hc0 => ?_)
 ·
  try with_reducible replace hc0 := of_decide_eq_true hc0
  refine WC_skip ?_
  refine hK22 _ _ ?_
  clear hK22 K21
  refine WC_seq (fun K23 hK24 => ?_)
  refine WC_block ?_
  refine WC_seq (fun K25 hK26 => ?_)
  refine WC_region ?_
  refine WL_val (dd := some 13) rfl rfl rfl (r_move (v := .int .i64 _) rfl) ?_
  refine WL_val (dd := some 14) rfl rfl rfl (r_idxS (v := mayV) rfl (Below.slT hB hmay) rfl tb_el77 (by omega) (by first | omega | (simp only [flagsTo_len, litsTo_len, firstF_len, ptF_len, setF_len]; omega))) ?_
  refine WL_val (dd := some 15) rfl rfl rfl (r_load4 rfl tb_ag69 (SlT.cell (Below.slT hB hmay) encS_len 0 (by omega) (by first | omega | (simp only [flagsTo_len, litsTo_len, firstF_len, ptF_len, setF_len]; omega)) 0 rfl) (SlT.cell (Below.slT hB hmay) encS_len 0 (by omega) (by first | omega | (simp only [flagsTo_len, litsTo_len, firstF_len, ptF_len, setF_len]; omega)) 1 rfl) (SlT.cell (Below.slT hB hmay) encS_len 0 (by omega) (by first | omega | (simp only [flagsTo_len, litsTo_len, firstF_len, ptF_len, setF_len]; omega)) 2 rfl) (SlT.cell (Below.slT hB hmay) encS_len 0 (by omega) (by first | omega | (simp only [flagsTo_len, litsTo_len, firstF_len, ptF_len, setF_len]; omega)) 3 rfl)) ?_
  refine WL_step (dd := some 7) rfl rfl rfl (Y_alloc tb_z69 rfl (fun b4_3 W27 hb28 hE29 hm4_3 => ?_))
  have lo_b4_3 : w.heap.size ≤ b4_3 := hb28 ▸ (Below.size hB)
  clear hb28
  replace hB := below_ext hB hE29 (Nat.le_refl _)
  replace hm0_0 := hE29.at hm0_0
  replace hm0_1 := hE29.at hm0_1
  clear hE29
  replace hm4_3 : At W27 b4_3 #[wv 0 0, wv 0 1, wv 0 2, wv 0 3] 69 := hm4_3
  refine WL_val (dd := some 6) rfl rfl rfl (r_assign (v := .int .i64 _) rfl) ?_
  refine WL_step (dd := none) rfl rfl rfl (Y_storeW rfl rfl tb_ag69 rfl hm4_3 rfl (by rfl) (fun W30 hG31 hm32 => ?_))
  replace hB := below_grown hB hG31 (Nat.le_refl _) (fun j hj => by cases hj; exact lo_b4_3)
  replace hm0_0 := At.grownAt hm0_0 hm4_3 hG31 (by decide)
  replace hm0_1 := At.grownAt hm0_1 hm4_3 hG31 (by decide)
  clear hG31 hm4_3
  have hm4_3 := hm32
  clear hm32
  refine WL_nil ?_
  refine hK26 _ _ ?_
  clear hK26 K25
  refine WC_seq (fun K33 hK34 => ?_)
  refine WC_region ?_
  refine WL_val (dd := some 16) rfl rfl rfl (r_loadW rfl tb_ag55 rfl hm0_1) ?_
  refine WL_val (dd := some 17) rfl rfl rfl (r_loadW rfl tb_ag69 rfl hm4_3) ?_
  refine WL_val (dd := some 18) rfl rfl rfl (r_fieldAddr (b := _) (o := _) rfl tb_fo79_0) ?_
  refine WL_val (dd := some 19) rfl rfl rfl (r_load1 (v := .int .i64 _) rfl tb_sc3 (At.cell hm0_0 rfl)) ?_
  refine WL_call (dd := some 20) rfl rfl rfl (r_call3 tb_c139 (v0 := .agg #[_, _]) rfl (v1 := .agg #[_, _, _, _]) rfl (v2 := .int .i64 _) rfl) (C_prime_Within c.m c.v _ _ _ hc.1 hc.2) (fun v5_4 W35 hE36 hP5_4 => ?_)
  have hsz37 := (Below.size hB)
  replace hB := below_ext hB hE36 (Nat.le_refl _)
  replace hm0_0 := hE36.at hm0_0
  replace hm0_1 := hE36.at hm0_1
  replace hm4_3 := hE36.at hm4_3
  clear hE36
  clear hsz37
  obtain rfl := hP5_4
  refine WL_nil ?_
  refine hK34 _ _ ?_
  clear hK34 K33
  refine WC_cond (b := _) rfl (fun hc1 => ?_) (fun hc1 => ?_)
  ·
   try with_reducible replace hc1 := of_decide_eq_true hc1
   have hlt := outsTo_lt S c k
   have h7 := pow7 (show k < 8 by omega)
   refine WC_region ?_
   refine WL_val (dd := some 21) rfl rfl rfl (r_move (v := .int .u8 _) rfl) ?_
   refine WL_val (dd := some 22) rfl rfl rfl (r_move (v := .int .i64 _) rfl) ?_
   refine WL_val (dd := some 23) rfl rfl rfl (r_shl (m := 1) rfl rfl (by omega) (by simp only [IntKind.bits]; omega) (by simp only [topN, Int.toNat_natCast, Nat.one_mul]; omega)) ?_
   refine WL_val (dd := some 24) rfl rfl rfl (r_or (n := _) rfl rfl rfl (by simp only [topN]; omega) (by simp only [topN, Int.toNat_natCast, Nat.one_mul]; omega)) ?_
   refine WL_val (dd := some 5) rfl rfl rfl (r_assign (v := .int .u8 _) rfl) ?_
   refine WL_nil ?_
   refine hK24 _ _ ?_
   clear hK24 K23
   refine WC_region ?_
   refine WL_val (dd := some 25) rfl rfl rfl (r_addI rfl rfl (by omega) (by omega)) ?_
   refine WL_val (dd := some 11) rfl rfl rfl (r_move (v := .int .i64 _) rfl) ?_
   refine WL_nil ?_
   refine hJ18 _ _ (k + 1) ?_ ?_ ?_ ?_
   · repeat (first | exact agree.mask _ _ _ | refine agree.updo ?_ rfl _ | refine agree.updL ?_ _ rfl | refine agree.maskS rfl ?_)
   · exact ⟨rfl, (by first | exact congrArg (fun q : Nat => Value.int .u8 (q : Int)) (outs_t hc1) | exact congrArg (fun q : Nat => Value.int .u8 (q : Int)) (outs_f hc1)), trivial⟩
   · exact ⟨hB, hm0_0, hm0_1, (by omega), trivial⟩
   · first | omega | (dsimp only; omega)
  ·
   try with_reducible replace hc1 := of_decide_eq_false hc1
   refine WC_skip ?_
   refine hK24 _ _ ?_
   clear hK24 K23
   refine WC_region ?_
   refine WL_val (dd := some 25) rfl rfl rfl (r_addI rfl rfl (by omega) (by omega)) ?_
   refine WL_val (dd := some 11) rfl rfl rfl (r_move (v := .int .i64 _) rfl) ?_
   refine WL_nil ?_
   refine hJ18 _ _ (k + 1) ?_ ?_ ?_ ?_
   · repeat (first | exact agree.mask _ _ _ | refine agree.updo ?_ rfl _ | refine agree.updL ?_ _ rfl | refine agree.maskS rfl ?_)
   · exact ⟨rfl, (by first | exact congrArg (fun q : Nat => Value.int .u8 (q : Int)) (outs_t hc1) | exact congrArg (fun q : Nat => Value.int .u8 (q : Int)) (outs_f hc1)), trivial⟩
   · exact ⟨hB, hm0_0, hm0_1, (by omega), trivial⟩
   · first | omega | (dsimp only; omega)
 ·
  try with_reducible replace hc0 := of_decide_eq_false hc0
  refine WC_exit ?_
  refine hK12 _ _ ?_
  clear hK22 K21
  clear hJ18 J17
  clear hK12 K11
  refine WC_seq (fun K38 hK39 => ?_)
  refine WC_region ?_
  refine WL_val (dd := some 26) rfl rfl rfl (r_move (v := .int .u8 _) rfl) ?_
  refine WL_val (dd := some 4) rfl rfl rfl (r_assign (v := .int .u8 _) rfl) ?_
  refine WL_nil ?_
  refine hK39 _ _ ?_
  clear hK39 K38
  refine WC_ret ?_
  repeat (first | refine thenQ_ret ?_ | refine blockQ_ret ?_)
  refine ret_t (v := .int .u8 _) rfl ?_
  refine ⟨hB, ?_⟩
  obtain rfl : k = S.may.length := by omega
  rfl

theorem C_multi_ahead (m u o m2 u2 o2 : Nat) (w : World) :
    Fn Try.prog 117 #[.agg #[.int .u8 (m : Int), .int .u8 (u : Int), .int .u8 (o : Int)], .agg #[.int .u8 (m2 : Int), .int .u8 (u2 : Int), .int .u8 (o2 : Int)]] w fun v w' => v = .bool (ltR ⟨⟨m, u⟩, o⟩ ⟨⟨m2, u2⟩, o2⟩) := by
 refine Fn_intro (n := 38) Try.func117 rfl rfl (Nat.le_of_ble_eq_true rfl) ?_
 have hB : Below w.heap.size w w := Below.refl _ _
 refine WC_seq (fun K1 hK2 => ?_)
 refine WC_region ?_
 refine WL_step (dd := some 2) rfl rfl rfl (Y_box (c := #[_, _, _]) rfl rfl (fun b0_0 W3 hb4 hE5 hm0_0 => ?_))
 have lo_b0_0 : w.heap.size ≤ b0_0 := hb4 ▸ (Below.size hB)
 clear hb4
 replace hB := below_ext hB hE5 (Nat.le_refl _)
 clear hE5
 refine WL_step (dd := some 3) rfl rfl rfl (Y_box (c := #[_, _, _]) rfl rfl (fun b0_1 W6 hb7 hE8 hm0_1 => ?_))
 have lo_b0_1 : w.heap.size ≤ b0_1 := hb7 ▸ (Below.size hB)
 have ne_b0_0_b0_1 : b0_0 ≠ b0_1 := Nat.ne_of_lt (hb7 ▸ hm0_0.lt)
 clear hb7
 replace hB := below_ext hB hE8 (Nat.le_refl _)
 replace hm0_0 := hE8.at hm0_0
 clear hE8
 refine WL_val (dd := some 4) rfl rfl rfl (r_assign (v := .bool false) rfl) ?_
 refine WL_nil ?_
 refine hK2 _ _ ?_
 clear hK2 K1
 refine WC_seq (fun K9 hK10 => ?_)
 refine WC_block ?_
 refine WC_seq (fun K11 hK12 => ?_)
 refine WC_region ?_
 refine WL_val (dd := some 6) rfl rfl rfl (r_fieldAddr (b := _) (o := _) rfl tb_fo57_1) ?_
 refine WL_val (dd := some 7) rfl rfl rfl (r_load1 (v := .int .u8 _) rfl tb_sc5 (At.cell hm0_0 rfl)) ?_
 refine WL_val (dd := some 8) rfl rfl rfl (r_fieldAddr (b := _) (o := _) rfl tb_fo57_1) ?_
 refine WL_val (dd := some 9) rfl rfl rfl (r_load1 (v := .int .u8 _) rfl tb_sc5 (At.cell hm0_1 rfl)) ?_
 refine WL_val (dd := some 10) rfl rfl rfl (r_neq rfl rfl) ?_
 refine WL_val (dd := some 5) rfl rfl rfl (r_assign (v := .bool _) rfl) ?_
 refine WL_nil ?_
 refine hK12 _ _ ?_
 clear hK12 K11
 refine WC_cond (b := _) rfl (fun hc0 => ?_) (fun hc0 => ?_)
 ·
  try with_reducible replace hc0 := of_decide_eq_true hc0
  refine WC_seq (fun K13 hK14 => ?_)
  refine WC_region ?_
  refine WL_val (dd := some 11) rfl rfl rfl (r_fieldAddr (b := _) (o := _) rfl tb_fo57_1) ?_
  refine WL_val (dd := some 12) rfl rfl rfl (r_load1 (v := .int .u8 _) rfl tb_sc5 (At.cell hm0_0 rfl)) ?_
  refine WL_val (dd := some 13) rfl rfl rfl (r_fieldAddr (b := _) (o := _) rfl tb_fo57_1) ?_
  refine WL_val (dd := some 14) rfl rfl rfl (r_load1 (v := .int .u8 _) rfl tb_sc5 (At.cell hm0_1 rfl)) ?_
  refine WL_val (dd := some 15) rfl rfl rfl (r_lss rfl rfl) ?_
  refine WL_val (dd := some 4) rfl rfl rfl (r_assign (v := .bool _) rfl) ?_
  refine WL_nil ?_
  refine hK14 _ _ ?_
  clear hK14 K13
  refine WC_ret ?_
  repeat (first | refine thenQ_ret ?_ | refine blockQ_ret ?_)
  try clear hK10 K9
  refine ret_t (v := .bool _) rfl ?_
  refine ⟨hB, ?_⟩
  exact congrArg Value.bool (lt_r1 hc0)
 ·
  try with_reducible replace hc0 := of_decide_eq_false hc0
  refine WC_seq (fun K15 hK16 => ?_)
  refine WC_region ?_
  refine WL_val (dd := some 17) rfl rfl rfl (r_fieldAddr (b := _) (o := _) rfl tb_fo57_0) ?_
  refine WL_val (dd := some 18) rfl rfl rfl (r_fieldAddr (b := _) (o := _) rfl tb_fo55_0) ?_
  refine WL_val (dd := some 19) rfl rfl rfl (r_load1 (v := .int .u8 _) rfl tb_sc5 (At.cell hm0_0 rfl)) ?_
  refine WL_val (dd := some 20) rfl rfl rfl (r_fieldAddr (b := _) (o := _) rfl tb_fo57_0) ?_
  refine WL_val (dd := some 21) rfl rfl rfl (r_fieldAddr (b := _) (o := _) rfl tb_fo55_0) ?_
  refine WL_val (dd := some 22) rfl rfl rfl (r_load1 (v := .int .u8 _) rfl tb_sc5 (At.cell hm0_1 rfl)) ?_
  refine WL_val (dd := some 23) rfl rfl rfl (r_neq rfl rfl) ?_
  refine WL_val (dd := some 16) rfl rfl rfl (r_assign (v := .bool _) rfl) ?_
  refine WL_nil ?_
  refine hK16 _ _ ?_
  clear hK16 K15
  refine WC_cond (b := _) rfl (fun hc1 => ?_) (fun hc1 => ?_)
  ·
   try with_reducible replace hc1 := of_decide_eq_true hc1
   refine WC_seq (fun K17 hK18 => ?_)
   refine WC_region ?_
   refine WL_val (dd := some 24) rfl rfl rfl (r_fieldAddr (b := _) (o := _) rfl tb_fo57_0) ?_
   refine WL_val (dd := some 25) rfl rfl rfl (r_fieldAddr (b := _) (o := _) rfl tb_fo55_0) ?_
   refine WL_val (dd := some 26) rfl rfl rfl (r_load1 (v := .int .u8 _) rfl tb_sc5 (At.cell hm0_0 rfl)) ?_
   refine WL_val (dd := some 27) rfl rfl rfl (r_fieldAddr (b := _) (o := _) rfl tb_fo57_0) ?_
   refine WL_val (dd := some 28) rfl rfl rfl (r_fieldAddr (b := _) (o := _) rfl tb_fo55_0) ?_
   refine WL_val (dd := some 29) rfl rfl rfl (r_load1 (v := .int .u8 _) rfl tb_sc5 (At.cell hm0_1 rfl)) ?_
   refine WL_val (dd := some 30) rfl rfl rfl (r_lss rfl rfl) ?_
   refine WL_val (dd := some 4) rfl rfl rfl (r_assign (v := .bool _) rfl) ?_
   refine WL_nil ?_
   refine hK18 _ _ ?_
   clear hK18 K17
   refine WC_ret ?_
   repeat (first | refine thenQ_ret ?_ | refine blockQ_ret ?_)
   try clear hK10 K9
   refine ret_t (v := .bool _) rfl ?_
   refine ⟨hB, ?_⟩
   exact congrArg Value.bool (lt_r2 hc0 hc1)
  ·
   try with_reducible replace hc1 := of_decide_eq_false hc1
   refine WC_skip ?_
   refine hK10 _ _ ?_
   clear hK10 K9
   refine WC_seq (fun K19 hK20 => ?_)
   refine WC_region ?_
   refine WL_val (dd := some 31) rfl rfl rfl (r_fieldAddr (b := _) (o := _) rfl tb_fo57_0) ?_
   refine WL_val (dd := some 32) rfl rfl rfl (r_fieldAddr (b := _) (o := _) rfl tb_fo55_1) ?_
   refine WL_val (dd := some 33) rfl rfl rfl (r_load1 (v := .int .u8 _) rfl tb_sc5 (At.cell hm0_0 rfl)) ?_
   refine WL_val (dd := some 34) rfl rfl rfl (r_fieldAddr (b := _) (o := _) rfl tb_fo57_0) ?_
   refine WL_val (dd := some 35) rfl rfl rfl (r_fieldAddr (b := _) (o := _) rfl tb_fo55_1) ?_
   refine WL_val (dd := some 36) rfl rfl rfl (r_load1 (v := .int .u8 _) rfl tb_sc5 (At.cell hm0_1 rfl)) ?_
   refine WL_val (dd := some 37) rfl rfl rfl (r_lss rfl rfl) ?_
   refine WL_val (dd := some 4) rfl rfl rfl (r_assign (v := .bool _) rfl) ?_
   refine WL_nil ?_
   refine hK20 _ _ ?_
   clear hK20 K19
   refine WC_ret ?_
   repeat (first | refine thenQ_ret ?_ | refine blockQ_ret ?_)
   refine ret_t (v := .bool _) rfl ?_
   refine ⟨hB, ?_⟩
   exact congrArg Value.bool (lt_r3 hc0 hc1)

theorem C_multi_sorted_api_Row_ (xa : Value) (l : List Rw) (q : Nat) (w : World) (hl : SlT encR 3 w xa l) (hq : callB Try.prog q = true) (hdo : ∀ (m u o m2 u2 o2 : Nat) (w : World), Fn Try.prog q #[.agg #[.int .u8 (m : Int), .int .u8 (u : Int), .int .u8 (o : Int)], .agg #[.int .u8 (m2 : Int), .int .u8 (u2 : Int), .int .u8 (o2 : Int)]] w fun v w' => v = .bool (ltR ⟨⟨m, u⟩, o⟩ ⟨⟨m2, u2⟩, o2⟩)) (hlb : l.length ≤ 2000000) :
    Fn Try.prog 116 #[xa, .func (.func q) #[] #[]] w fun v w' => OwT encR 3 57 w' w.heap.size v (sortTo l l.length) := by
 refine Fn_intro (n := 44) Try.func116 rfl rfl (Nat.le_of_ble_eq_true rfl) ?_
 have hB : Below w.heap.size w w := Below.refl _ _
 refine WC_seq (fun K1 hK2 => ?_)
 refine WC_region ?_
 refine WL_val (dd := some 4) rfl rfl rfl (r_assign (v := .slice none 0 0) rfl) ?_
 refine WL_nil ?_
 refine hK2 _ _ ?_
 clear hK2 K1
 refine WC_seq (fun K3 hK4 => ?_)
 refine WC_region ?_
 refine WL_val (dd := some 5) rfl rfl rfl (r_assign (v := .slice none 0 0) rfl) ?_
 refine WL_nil ?_
 refine hK4 _ _ ?_
 clear hK4 K3
 refine WC_seq (fun K5 hK6 => ?_)
 refine WC_seq (fun K7 hK8 => ?_)
 refine WC_region ?_
 refine WL_val (dd := some 9) rfl rfl rfl (r_move (v := xa) rfl) ?_
 refine WL_val (dd := some 10) rfl rfl rfl (r_lenS (v := xa) rfl (Below.slT hB hl) tb_el75) ?_
 refine WL_val (dd := some 11) rfl rfl rfl (r_move (v := .int .i64 0) rfl) ?_
 refine WL_nil ?_
 refine hK8 _ _ ?_
 clear hK8 K7
 refine WC_block ?_
 refine WC_loop (σ := (Nat) × (Value)) [5, 7, 8, 11, 12, 13, 14, 15, 16, 17, 18, 19, 20, 21, 22, 23, 24, 25, 26, 27, 28, 29, 30, 31, 32, 33, 34, 35, 36, 37, 38, 39, 40, 41, 42] (fun (k, v0) => [(11, .int .i64 (k : Int)), (5, v0)]) (fun sg W => match sg with | (k, v0) => (Below w.heap.size w W) ∧ (OwT encR 3 57 W w.heap.size v0 (sortTo l k)) ∧ (k ≤ l.length) ∧ (True)) (fun (k, v0) => l.length - k) ((0, .slice none 0 0)) ⟨rfl, rfl, trivial⟩ ⟨hB, OwT.nil, (Nat.zero_le _), trivial⟩ ?_
 clear hB
 rintro ⟨k, v0⟩ g10 W9 ⟨hB, ho, hk, _⟩ J11 hJ12
 refine WC_seq (fun K13 hK14 => ?_)
 refine WC_region ?_
 refine WL_val (dd := some 12) rfl rfl rfl (r_lss rfl rfl) ?_
 refine WL_nil ?_
 refine hK14 _ _ ?_
 clear hK14 K13
 refine WC_seq (fun K15 hK16 => ?_)
 refine WC_cond (b := _) rfl (fun hc0 => ?_) (fun hc0 => ?_)
 ·
  try with_reducible replace hc0 := of_decide_eq_true hc0
  refine WC_skip ?_
  refine hK16 _ _ ?_
  clear hK16 K15
  refine WC_seq (fun K17 hK18 => ?_)
  refine WC_block ?_
  refine WC_seq (fun K19 hK20 => ?_)
  have hsl := sortTo_len l k
  have hC : (sortTo l k).length ≤ slC v0 := (Sl.eqv ho.sl).2.1
  refine WC_region ?_
  refine WL_val (dd := some 13) rfl rfl rfl (r_idxS (v := xa) rfl (Below.slT hB hl) rfl tb_el75 (by omega) (by first | omega | (simp only [flagsTo_len, litsTo_len, firstF_len, ptF_len, setF_len]; omega))) ?_
  refine WL_val (dd := some 14) rfl rfl rfl (r_load3 rfl tb_ag57 (SlT.cell (Below.slT hB hl) encR_len ⟨⟨0, 0⟩, 0⟩ (by omega) (by first | omega | (simp only [flagsTo_len, litsTo_len, firstF_len, ptF_len, setF_len]; omega)) 0 rfl) (SlT.cell (Below.slT hB hl) encR_len ⟨⟨0, 0⟩, 0⟩ (by omega) (by first | omega | (simp only [flagsTo_len, litsTo_len, firstF_len, ptF_len, setF_len]; omega)) 1 rfl) (SlT.cell (Below.slT hB hl) encR_len ⟨⟨0, 0⟩, 0⟩ (by omega) (by first | omega | (simp only [flagsTo_len, litsTo_len, firstF_len, ptF_len, setF_len]; omega)) 2 rfl)) ?_
  refine WL_step (dd := some 7) rfl rfl rfl (Y_alloc tb_z57 rfl (fun b4_2 W21 hb22 hE23 hm4_2 => ?_))
  have lo_b4_2 : w.heap.size ≤ b4_2 := hb22 ▸ (Below.size hB)
  have no_v0_b4_2 := OwT.neB (b := b4_2) ho (Nat.le_of_eq hb22.symm)
  clear hb22
  replace hB := below_ext hB hE23 (Nat.le_refl _)
  replace ho := hE23.ow ho
  clear hE23
  refine WL_step (dd := none) rfl rfl rfl (Y_storeW rfl rfl tb_ag57 rfl hm4_2 rfl (by rfl) (fun W24 hG25 hm26 => ?_))
  replace hB := below_grown hB hG25 (Nat.le_refl _) (fun j hj => by cases hj; exact lo_b4_2)
  replace ho := OwT.grownAtNe ho no_v0_b4_2 hG25
  clear hG25 hm4_2
  have hm4_2 := hm26
  clear hm26
  refine WL_nil ?_
  refine hK20 _ _ ?_
  clear hK20 K19
  refine WC_seq (fun K27 hK28 => ?_)
  refine WC_region ?_
  refine WL_val (dd := some 15) rfl rfl rfl (r_move (v := v0) rfl) ?_
  refine WL_val (dd := some 16) rfl rfl rfl (r_lenS (v := v0) rfl ho.sl tb_el75) ?_
  refine WL_val (dd := some 8) rfl rfl rfl (r_assign (v := .int .i64 _) rfl) ?_
  refine WL_nil ?_
  refine hK28 _ _ ?_
  clear hK28 K27
  refine WC_seq (fun K29 hK30 => ?_)
  refine WC_block ?_
  refine WC_loop (σ := (Nat)) [8, 17, 18, 19, 20, 21, 22, 23, 24, 25, 26, 27, 28, 29, 30] (fun i => [(8, .int .i64 (i : Int))]) (fun i W => (Below w.heap.size w W) ∧ (OwT encR 3 57 W w.heap.size v0 _) ∧ (At W b4_2 _ 57) ∧ (i ≤ (sortTo l k).length) ∧ (posR (sortTo l k) (l.getD k ⟨⟨0, 0⟩, 0⟩) (sortTo l k).length = posR (sortTo l k) (l.getD k ⟨⟨0, 0⟩, 0⟩) i) ∧ (True)) (fun i => i) ((sortTo l k).length) ⟨rfl, trivial⟩ ⟨hB, ho, hm4_2, (Nat.le_refl _), rfl, trivial⟩ ?_
  clear hB ho hm4_2
  rintro i g32 W31 ⟨hB, ho, hm4_2, hi, hp, _⟩ J33 hJ34
  refine WC_seq (fun K35 hK36 => ?_)
  refine WC_seq (fun K37 hK38 => ?_)
  refine WC_draw Ext tb_mix (fun W39 hE40 => ?_)
  replace hB := below_ext hB hE40 (Nat.le_refl _)
  replace ho := hE40.ow ho
  replace hm4_2 := hE40.at hm4_2
  have hS := Ext.refl W39
  refine WT_take (dd := some 17) 0 rfl (by kernel_rfl) (by kernel_rfl) (by kernel_rfl) rfl rfl rfl (fun _wq _hq => r_move (v := .int .i64 _) rfl) hS ?_
  refine WT_take (dd := some 18) 1 rfl (by kernel_rfl) (by kernel_rfl) (by kernel_rfl) rfl rfl rfl (fun _wq _hq => r_gtr rfl rfl) hS ?_
  refine WT_split (dd := some 19) 2 rfl (by kernel_rfl) (by kernel_rfl) (by kernel_rfl) rfl rfl rfl (fun wq hq => r_move (v := .bool _) rfl) hS (fun hs6_2 => ?_) (fun hs6_2 => ?_)
  ·
   try with_reducible replace hs6_2 := of_decide_eq_true hs6_2
   refine WT_take (dd := some 20) 3 rfl (by kernel_rfl) (by kernel_rfl) (by kernel_rfl) rfl rfl rfl (fun _wq _hq => r_move (v := .func (.func q) #[] #[]) rfl) hS ?_
   refine WT_take (dd := some 21) 4 rfl (by kernel_rfl) (by kernel_rfl) (by kernel_rfl) rfl rfl rfl (fun _wq hq => r_loadW rfl tb_ag57 rfl (hq.at hm4_2)) hS ?_
   refine WT_take (dd := some 22) 5 rfl (by kernel_rfl) (by kernel_rfl) (by kernel_rfl) rfl rfl rfl (fun _wq _hq => r_move (v := v0) rfl) hS ?_
   refine WT_take (dd := some 23) 6 rfl (by kernel_rfl) (by kernel_rfl) (by kernel_rfl) rfl rfl rfl (fun _wq _hq => r_move (v := .int .i64 _) rfl) hS ?_
   refine WT_take (dd := some 24) 7 rfl (by kernel_rfl) (by kernel_rfl) (by kernel_rfl) rfl rfl rfl (fun _wq _hq => r_subI rfl rfl (by omega) (by omega)) hS ?_
   refine WT_take (dd := some 25) 8 rfl (by kernel_rfl) (by kernel_rfl) (by kernel_rfl) rfl rfl rfl (fun _wq hq => r_idxS (v := v0) rfl ((hq.ow ho)).sl rfl tb_el75 (by omega) (by first | omega | (simp only [flagsTo_len, litsTo_len, firstF_len, ptF_len, setF_len]; omega))) hS ?_
   refine WT_take (dd := some 26) 9 rfl (by kernel_rfl) (by kernel_rfl) (by kernel_rfl) rfl rfl rfl (fun _wq hq => r_load3 rfl tb_ag57 (SlT.cell ((hq.ow ho)).sl encR_len ⟨⟨0, 0⟩, 0⟩ (by omega) (by first | omega | (simp only [flagsTo_len, litsTo_len, firstF_len, ptF_len, setF_len]; omega)) 0 rfl) (SlT.cell ((hq.ow ho)).sl encR_len ⟨⟨0, 0⟩, 0⟩ (by omega) (by first | omega | (simp only [flagsTo_len, litsTo_len, firstF_len, ptF_len, setF_len]; omega)) 1 rfl) (SlT.cell ((hq.ow ho)).sl encR_len ⟨⟨0, 0⟩, 0⟩ (by omega) (by first | omega | (simp only [flagsTo_len, litsTo_len, firstF_len, ptF_len, setF_len]; omega)) 2 rfl)) hS ?_
   refine WT_one (dd := some 27) 10 (by kernel_rfl) rfl rfl rfl rfl (Yd.call (r_callv2 (q := q) rfl hq (v0 := .agg #[_, _, _]) rfl (v1 := .agg #[_, _, _]) rfl) (hdo _ _ _ _ _ _ _) (fun v6_10 W41 hE42 hP6_10 => ⟨.inl (hS.trans hE42), ?_⟩))
   have hsz43 := (Below.size hB)
   have sv44_hB := hB
   have sv44_ho := ho
   have sv44_hm4_2 := hm4_2
   replace hB := below_ext hB hE42 (Nat.le_refl _)
   replace ho := hE42.ow ho
   replace hm4_2 := hE42.at hm4_2
   replace hS := hS.trans hE42
   clear hE42
   clear hsz43
   obtain rfl := hP6_10
   refine WT_take (dd := some 28) 11 rfl (by kernel_rfl) (by kernel_rfl) (by kernel_rfl) rfl rfl rfl (fun _wq _hq => r_pick_t rfl (v := .bool _) rfl) hS ?_
   refine WT_done (by kernel_rfl) ?_
   try clear sv44_hB sv44_ho sv44_hm4_2
   refine hK38 _ _ ?_
   clear hK38 K37
   refine WC_cond (b := _) rfl (fun hc1 => ?_) (fun hc1 => ?_)
   ·
    try with_reducible replace hc1 := of_decide_eq_true hc1
    refine WC_skip ?_
    refine hK36 _ _ ?_
    clear hK36 K35
    refine WC_block ?_
    refine WC_region ?_
    refine WL_val (dd := some 29) rfl rfl rfl (r_move (v := .int .i64 _) rfl) ?_
    refine WL_val (dd := some 30) rfl rfl rfl (r_subI rfl rfl (by omega) (by omega)) ?_
    refine WL_val (dd := some 8) rfl rfl rfl (r_assign (v := .int .i64 _) rfl) ?_
    refine WL_nil ?_
    refine hJ34 _ _ (i - 1) ?_ ?_ ?_ ?_
    · repeat (first | exact agree.mask _ _ _ | refine agree.updo ?_ rfl _ | refine agree.updL ?_ _ rfl | refine agree.maskS rfl ?_)
    · exact ⟨congrArg (Value.int .i64) (by omega : (i : Int) - 1 = ((i - 1 : Nat) : Int)), trivial⟩
    · exact ⟨hB, ho, hm4_2, (by omega), (hp.trans (posR_step2 (by omega) hc1)), trivial⟩
    · first | omega | (dsimp only; omega)
   ·
    try with_reducible replace hc1 := of_decide_eq_false hc1
    refine WC_exit ?_
    refine hK30 _ _ ?_
    clear hK36 K35
    clear hJ34 J33
    clear hK30 K29
    have hpos : posR (sortTo l k) (l.getD k ⟨⟨0, 0⟩, 0⟩) (sortTo l k).length = i := hp.trans (posR_end2 (by first | exact .inr hc1 | exact .inl (by omega)))
    have hsl := sortTo_len l k
    have hC : (sortTo l k).length ≤ slC v0 := (Sl.eqv ho.sl).2.1
    have hil : ((i : Nat) : Int).toNat = i := rfl
    refine WC_draw Ext tb_mix (fun W45 hE46 => ?_)
    replace hB := below_ext hB hE46 (Nat.le_refl _)
    replace ho := hE46.ow ho
    replace hm4_2 := hE46.at hm4_2
    have hS := Ext.refl W45
    refine WT_take (dd := some 31) 0 rfl (by kernel_rfl) (by kernel_rfl) (by kernel_rfl) rfl rfl rfl (fun _wq _hq => r_move (v := v0) rfl) hS ?_
    refine WT_take (dd := some 32) 1 rfl (by kernel_rfl) (by kernel_rfl) (by kernel_rfl) rfl rfl rfl (fun _wq _hq => r_move (v := .int .i64 _) rfl) hS ?_
    refine WT_take (dd := some 33) 2 rfl (by kernel_rfl) (by kernel_rfl) (by kernel_rfl) rfl rfl rfl (fun _wq _hq => r_move (v := .int .i64 _) rfl) hS ?_
    refine WT_take (dd := some 34) 3 rfl (by kernel_rfl) (by kernel_rfl) (by kernel_rfl) rfl rfl rfl (fun _wq hq => r_slice03 (v := v0) rfl ((hq.ow ho)).sl tb_el75 rfl rfl (by omega) (by omega) (by omega)) hS ?_
    have hp8_3 : SlT encR 3 W45 (slOf 3 v0 0 i i) (((sortTo l k).drop 0).take (i - 0)) := SlT.part encR_len ho.sl (by omega) (by omega) (by omega) (by omega)
    refine WT_take (dd := some 35) 4 rfl (by kernel_rfl) (by kernel_rfl) (by kernel_rfl) rfl rfl rfl (fun _wq hq => r_loadW rfl tb_ag57 rfl (hq.at hm4_2)) hS ?_
    refine WT_take (dd := some 37) 6 rfl (by kernel_rfl) (by kernel_rfl) (by kernel_rfl) rfl rfl rfl (fun _wq _hq => r_move (v := v0) rfl) hS ?_
    refine WT_take (dd := some 38) 7 rfl (by kernel_rfl) (by kernel_rfl) (by kernel_rfl) rfl rfl rfl (fun _wq _hq => r_move (v := .int .i64 _) rfl) hS ?_
    refine WT_take (dd := some 39) 8 rfl (by kernel_rfl) (by kernel_rfl) (by kernel_rfl) rfl rfl rfl (fun _wq hq => r_sliceLo (v := v0) rfl ((hq.ow ho)).sl tb_el75 rfl (by omega) (by omega)) hS ?_
    have hp8_8 : SlT encR 3 W45 (slOf 3 v0 i (sortTo l k).length (slC v0)) (((sortTo l k).drop i).take ((sortTo l k).length - i)) := SlT.part encR_len ho.sl (by omega) (by omega) (by omega) (by omega)
    refine WT_one (dd := some 36) 5 (by kernel_rfl) rfl rfl rfl rfl (Y_lit1 (u := .agg #[_, _, _]) rfl tb_el75 tb_zs57 rfl (by decide) (by decide) (fun b8_5 W47 hb48 hE49 hm8_5 => ⟨.inl (hS.trans hE49), ?_⟩))
    have lo_b8_5 : w.heap.size ≤ b8_5 := hb48 ▸ (Below.size hB)
    have los_b8_5 := Nat.le_trans (Ext.size hS) (Nat.le_of_eq hb48.symm)
    have no_v0_b8_5 := OwT.neB (b := b8_5) ho (Nat.le_of_eq hb48.symm)
    have ne_b4_2_b8_5 : b4_2 ≠ b8_5 := Nat.ne_of_lt (hb48 ▸ hm4_2.lt)
    have far50 := SlT.far (b := b8_5) hp8_3 (Nat.le_of_eq hb48.symm)
    have far51 := SlT.far (b := b8_5) hp8_8 (Nat.le_of_eq hb48.symm)
    clear hb48
    have sv52_hB := hB
    have sv52_ho := ho
    have sv52_hm4_2 := hm4_2
    have sv52_hp8_3 := hp8_3
    have sv52_hp8_8 := hp8_8
    replace hB := below_ext hB hE49 (Nat.le_refl _)
    replace ho := hE49.ow ho
    replace hm4_2 := hE49.at hm4_2
    replace hp8_3 := hE49.slT hp8_3
    replace hp8_8 := hE49.slT hp8_8
    replace hS := hS.trans hE49
    clear hE49
    have ho53 := own_lit1 (enc := encR) (a := (l.getD k ⟨⟨0, 0⟩, 0⟩)) hm8_5 rfl rfl lo_b8_5
    clear hm8_5
    refine WT_one (dd := some 40) 9 (by kernel_rfl) rfl rfl rfl rfl (Y_append (v := .slice (some ⟨b8_5, 0, none⟩) 1 1) (v2 := slOf 3 v0 i (sortTo l k).length (slC v0)) rfl rfl tb_el75 tb_zs57 (by decide) ho53 hp8_8 (enc_one_encR) (by have := Below.size hB; omega) (by simp; omega) (by simp; omega) (fun v8_9 W54 hG55 ho8_9 => ⟨.inl (below_grown hS hG55 (Nat.le_refl _) (fun j hj => by have e : b8_5 = j := Option.some.inj hj; rw [← e]; exact los_b8_5)), ?_⟩))
    replace hS : Ext _ _ := below_grown hS hG55 (Nat.le_refl _) (fun j hj => by have e : b8_5 = j := Option.some.inj hj; rw [← e]; exact los_b8_5)
    replace ho8_9 := OwT.app (enc := encR) rfl rfl rfl rfl ho8_9
    replace hB := below_grown hB hG55 (Nat.le_refl _) (fun j hj => (OwT.lt ho53 j hj))
    replace hp8_3 := SlT.grownFar hp8_3 far50 hG55
    replace hp8_8 := SlT.grownFar hp8_8 far51 hG55
    clear ho
    clear hm4_2
    clear hG55
    clear ho53
    refine WT_one (dd := some 41) 10 (by kernel_rfl) rfl rfl rfl rfl (Y_appendFull (N := w.heap.size) (v := slOf 3 v0 0 i i) (v2 := v8_9) rfl rfl tb_el75 tb_zs57 hp8_3 (slOf_fullR (by simp; omega)) ho8_9.sl (by simp) (Below.size hB) (by simp; omega) (by simp; omega) (fun v8_10 W57 hE58 ho8_10 => ⟨.inl (hS.trans hE58), ?_⟩))
    replace ho8_10 := OwT.app (enc := encR) rfl rfl rfl rfl ho8_10
    replace hB := below_ext hB hE58 (Nat.le_refl _)
    replace hp8_3 := hE58.slT hp8_3
    replace hp8_8 := hE58.slT hp8_8
    replace ho8_9 := hE58.ow ho8_9
    replace hS := hS.trans hE58
    clear hE58
    refine WT_take (dd := some 5) 11 rfl (by kernel_rfl) (by kernel_rfl) (by kernel_rfl) rfl rfl rfl (fun _wq _hq => r_assign (v := v8_10) rfl) hS ?_
    refine WT_done (by kernel_rfl) ?_
    try clear sv52_hB sv52_ho sv52_hm4_2 sv52_hp8_3 sv52_hp8_8
    refine hK18 _ _ ?_
    clear hK18 K17
    refine WC_region ?_
    refine WL_val (dd := some 42) rfl rfl rfl (r_addI rfl rfl (by omega) (by omega)) ?_
    refine WL_val (dd := some 11) rfl rfl rfl (r_move (v := .int .i64 _) rfl) ?_
    refine WL_nil ?_
    refine hJ12 _ _ ((k + 1, v8_10)) ?_ ?_ ?_ ?_
    · repeat (first | exact agree.mask _ _ _ | refine agree.updo ?_ rfl _ | refine agree.updL ?_ _ rfl | refine agree.maskS rfl ?_)
    · exact ⟨rfl, rfl, trivial⟩
    · exact ⟨hB, (by rw [sortTo, insR, hpos]; have e : ((sortTo l k).drop i).take ((sortTo l k).length - i) = (sortTo l k).drop i := List.take_of_length_le (by simp); rw [e] at ho8_10; simpa using ho8_10), (by omega), trivial⟩
    · show l.length - (k + 1) < l.length - k; omega
  ·
   try with_reducible replace hs6_2 := of_decide_eq_false hs6_2
   refine WT_pass (dd := some 20) 3 rfl (by kernel_rfl) (by kernel_rfl) (by kernel_rfl) rfl rfl rfl hS ?_
   refine WT_pass (dd := some 21) 4 rfl (by kernel_rfl) (by kernel_rfl) (by kernel_rfl) rfl rfl rfl hS ?_
   refine WT_pass (dd := some 22) 5 rfl (by kernel_rfl) (by kernel_rfl) (by kernel_rfl) rfl rfl rfl hS ?_
   refine WT_pass (dd := some 23) 6 rfl (by kernel_rfl) (by kernel_rfl) (by kernel_rfl) rfl rfl rfl hS ?_
   refine WT_pass (dd := some 24) 7 rfl (by kernel_rfl) (by kernel_rfl) (by kernel_rfl) rfl rfl rfl hS ?_
   refine WT_pass (dd := some 25) 8 rfl (by kernel_rfl) (by kernel_rfl) (by kernel_rfl) rfl rfl rfl hS ?_
   refine WT_pass (dd := some 26) 9 rfl (by kernel_rfl) (by kernel_rfl) (by kernel_rfl) rfl rfl rfl hS ?_
   refine WT_pass (dd := some 27) 10 rfl (by kernel_rfl) (by kernel_rfl) (by kernel_rfl) rfl rfl rfl hS ?_
   refine WT_take (dd := some 28) 11 rfl (by kernel_rfl) (by kernel_rfl) (by kernel_rfl) rfl rfl rfl (fun _wq _hq => r_pick_f rfl (v := .bool false) rfl) hS ?_
   refine WT_done (by kernel_rfl) ?_
   refine hK38 _ _ ?_
   clear hK38 K37
   refine WC_cond_false rfl ?_
   refine WC_exit ?_
   refine hK30 _ _ ?_
   clear hK36 K35
   clear hJ34 J33
   clear hK30 K29
   have hpos : posR (sortTo l k) (l.getD k ⟨⟨0, 0⟩, 0⟩) (sortTo l k).length = i := hp.trans (posR_end2 (by first | exact .inr hc1 | exact .inl (by omega)))
   have hsl := sortTo_len l k
   have hC : (sortTo l k).length ≤ slC v0 := (Sl.eqv ho.sl).2.1
   have hil : ((i : Nat) : Int).toNat = i := rfl
   refine WC_draw Ext tb_mix (fun W59 hE60 => ?_)
   replace hB := below_ext hB hE60 (Nat.le_refl _)
   replace ho := hE60.ow ho
   replace hm4_2 := hE60.at hm4_2
   have hS := Ext.refl W59
   refine WT_take (dd := some 31) 0 rfl (by kernel_rfl) (by kernel_rfl) (by kernel_rfl) rfl rfl rfl (fun _wq _hq => r_move (v := v0) rfl) hS ?_
   refine WT_take (dd := some 32) 1 rfl (by kernel_rfl) (by kernel_rfl) (by kernel_rfl) rfl rfl rfl (fun _wq _hq => r_move (v := .int .i64 _) rfl) hS ?_
   refine WT_take (dd := some 33) 2 rfl (by kernel_rfl) (by kernel_rfl) (by kernel_rfl) rfl rfl rfl (fun _wq _hq => r_move (v := .int .i64 _) rfl) hS ?_
   refine WT_take (dd := some 34) 3 rfl (by kernel_rfl) (by kernel_rfl) (by kernel_rfl) rfl rfl rfl (fun _wq hq => r_slice03 (v := v0) rfl ((hq.ow ho)).sl tb_el75 rfl rfl (by omega) (by omega) (by omega)) hS ?_
   have hp8_3 : SlT encR 3 W59 (slOf 3 v0 0 i i) (((sortTo l k).drop 0).take (i - 0)) := SlT.part encR_len ho.sl (by omega) (by omega) (by omega) (by omega)
   refine WT_take (dd := some 35) 4 rfl (by kernel_rfl) (by kernel_rfl) (by kernel_rfl) rfl rfl rfl (fun _wq hq => r_loadW rfl tb_ag57 rfl (hq.at hm4_2)) hS ?_
   refine WT_take (dd := some 37) 6 rfl (by kernel_rfl) (by kernel_rfl) (by kernel_rfl) rfl rfl rfl (fun _wq _hq => r_move (v := v0) rfl) hS ?_
   refine WT_take (dd := some 38) 7 rfl (by kernel_rfl) (by kernel_rfl) (by kernel_rfl) rfl rfl rfl (fun _wq _hq => r_move (v := .int .i64 _) rfl) hS ?_
   refine WT_take (dd := some 39) 8 rfl (by kernel_rfl) (by kernel_rfl) (by kernel_rfl) rfl rfl rfl (fun _wq hq => r_sliceLo (v := v0) rfl ((hq.ow ho)).sl tb_el75 rfl (by omega) (by omega)) hS ?_
   have hp8_8 : SlT encR 3 W59 (slOf 3 v0 i (sortTo l k).length (slC v0)) (((sortTo l k).drop i).take ((sortTo l k).length - i)) := SlT.part encR_len ho.sl (by omega) (by omega) (by omega) (by omega)
   refine WT_one (dd := some 36) 5 (by kernel_rfl) rfl rfl rfl rfl (Y_lit1 (u := .agg #[_, _, _]) rfl tb_el75 tb_zs57 rfl (by decide) (by decide) (fun b8_5 W61 hb62 hE63 hm8_5 => ⟨.inl (hS.trans hE63), ?_⟩))
   have lo_b8_5 : w.heap.size ≤ b8_5 := hb62 ▸ (Below.size hB)
   have los_b8_5 := Nat.le_trans (Ext.size hS) (Nat.le_of_eq hb62.symm)
   have no_v0_b8_5 := OwT.neB (b := b8_5) ho (Nat.le_of_eq hb62.symm)
   have ne_b4_2_b8_5 : b4_2 ≠ b8_5 := Nat.ne_of_lt (hb62 ▸ hm4_2.lt)
   have far64 := SlT.far (b := b8_5) hp8_3 (Nat.le_of_eq hb62.symm)
   have far65 := SlT.far (b := b8_5) hp8_8 (Nat.le_of_eq hb62.symm)
   clear hb62
   have sv66_hB := hB
   have sv66_ho := ho
   have sv66_hm4_2 := hm4_2
   have sv66_hp8_3 := hp8_3
   have sv66_hp8_8 := hp8_8
   replace hB := below_ext hB hE63 (Nat.le_refl _)
   replace ho := hE63.ow ho
   replace hm4_2 := hE63.at hm4_2
   replace hp8_3 := hE63.slT hp8_3
   replace hp8_8 := hE63.slT hp8_8
   replace hS := hS.trans hE63
   clear hE63
   have ho67 := own_lit1 (enc := encR) (a := (l.getD k ⟨⟨0, 0⟩, 0⟩)) hm8_5 rfl rfl lo_b8_5
   clear hm8_5
   refine WT_one (dd := some 40) 9 (by kernel_rfl) rfl rfl rfl rfl (Y_append (v := .slice (some ⟨b8_5, 0, none⟩) 1 1) (v2 := slOf 3 v0 i (sortTo l k).length (slC v0)) rfl rfl tb_el75 tb_zs57 (by decide) ho67 hp8_8 (enc_one_encR) (by have := Below.size hB; omega) (by simp; omega) (by simp; omega) (fun v8_9 W68 hG69 ho8_9 => ⟨.inl (below_grown hS hG69 (Nat.le_refl _) (fun j hj => by have e : b8_5 = j := Option.some.inj hj; rw [← e]; exact los_b8_5)), ?_⟩))
   replace hS : Ext _ _ := below_grown hS hG69 (Nat.le_refl _) (fun j hj => by have e : b8_5 = j := Option.some.inj hj; rw [← e]; exact los_b8_5)
   replace ho8_9 := OwT.app (enc := encR) rfl rfl rfl rfl ho8_9
   replace hB := below_grown hB hG69 (Nat.le_refl _) (fun j hj => (OwT.lt ho67 j hj))
   replace hp8_3 := SlT.grownFar hp8_3 far64 hG69
   replace hp8_8 := SlT.grownFar hp8_8 far65 hG69
   clear ho
   clear hm4_2
   clear hG69
   clear ho67
   refine WT_one (dd := some 41) 10 (by kernel_rfl) rfl rfl rfl rfl (Y_appendFull (N := w.heap.size) (v := slOf 3 v0 0 i i) (v2 := v8_9) rfl rfl tb_el75 tb_zs57 hp8_3 (slOf_fullR (by simp; omega)) ho8_9.sl (by simp) (Below.size hB) (by simp; omega) (by simp; omega) (fun v8_10 W71 hE72 ho8_10 => ⟨.inl (hS.trans hE72), ?_⟩))
   replace ho8_10 := OwT.app (enc := encR) rfl rfl rfl rfl ho8_10
   replace hB := below_ext hB hE72 (Nat.le_refl _)
   replace hp8_3 := hE72.slT hp8_3
   replace hp8_8 := hE72.slT hp8_8
   replace ho8_9 := hE72.ow ho8_9
   replace hS := hS.trans hE72
   clear hE72
   refine WT_take (dd := some 5) 11 rfl (by kernel_rfl) (by kernel_rfl) (by kernel_rfl) rfl rfl rfl (fun _wq _hq => r_assign (v := v8_10) rfl) hS ?_
   refine WT_done (by kernel_rfl) ?_
   try clear sv66_hB sv66_ho sv66_hm4_2 sv66_hp8_3 sv66_hp8_8
   refine hK18 _ _ ?_
   clear hK18 K17
   refine WC_region ?_
   refine WL_val (dd := some 42) rfl rfl rfl (r_addI rfl rfl (by omega) (by omega)) ?_
   refine WL_val (dd := some 11) rfl rfl rfl (r_move (v := .int .i64 _) rfl) ?_
   refine WL_nil ?_
   refine hJ12 _ _ ((k + 1, v8_10)) ?_ ?_ ?_ ?_
   · repeat (first | exact agree.mask _ _ _ | refine agree.updo ?_ rfl _ | refine agree.updL ?_ _ rfl | refine agree.maskS rfl ?_)
   · exact ⟨rfl, rfl, trivial⟩
   · exact ⟨hB, (by rw [sortTo, insR, hpos]; have e : ((sortTo l k).drop i).take ((sortTo l k).length - i) = (sortTo l k).drop i := List.take_of_length_le (by simp); rw [e] at ho8_10; simpa using ho8_10), (by omega), trivial⟩
   · show l.length - (k + 1) < l.length - k; omega
 ·
  try with_reducible replace hc0 := of_decide_eq_false hc0
  refine WC_exit ?_
  refine hK6 _ _ ?_
  clear hK16 K15
  clear hJ12 J11
  clear hK6 K5
  refine WC_seq (fun K73 hK74 => ?_)
  refine WC_region ?_
  refine WL_val (dd := some 43) rfl rfl rfl (r_move (v := v0) rfl) ?_
  refine WL_val (dd := some 4) rfl rfl rfl (r_assign (v := v0) rfl) ?_
  refine WL_nil ?_
  refine hK74 _ _ ?_
  clear hK74 K73
  refine WC_ret ?_
  repeat (first | refine thenQ_ret ?_ | refine blockQ_ret ?_)
  refine ret_t (v := v0) rfl ?_
  refine ⟨hB, ?_⟩
  obtain rfl : k = l.length := by omega
  exact ho

theorem C_multi_All (S : Sp) (onV mayV : Value) (w : World) (hon : SlT encS 4 w onV S.on) (hmay : SlT encS 4 w mayV S.may) :
    Fn Try.prog 67 #[.agg #[.int .i64 S.n, onV, mayV]] w fun v w' => if rightS S = true then ∃ x, v = .tuple #[x, .int .i64 0] ∧ OwT encR 3 57 w' w.heap.size x (allR S) else v = .tuple #[.slice none 0 0, .int .i64 1] := by
 refine Fn_intro (n := 78) Try.func67 rfl rfl (Nat.le_of_ble_eq_true rfl) ?_
 have hB : Below w.heap.size w w := Below.refl _ _
 refine WC_seq (fun K1 hK2 => ?_)
 refine WC_region ?_
 refine WL_step (dd := some 1) rfl rfl rfl (Y_box (c := #[_, _, _]) rfl rfl (fun b0_0 W3 hb4 hE5 hm0_0 => ?_))
 have lo_b0_0 : w.heap.size ≤ b0_0 := hb4 ▸ (Below.size hB)
 clear hb4
 replace hB := below_ext hB hE5 (Nat.le_refl _)
 clear hE5
 refine WL_val (dd := some 2) rfl rfl rfl (r_assign (v := .slice none 0 0) rfl) ?_
 refine WL_val (dd := some 3) rfl rfl rfl (r_assign (v := .int .i64 0) rfl) ?_
 refine WL_nil ?_
 refine hK2 _ _ ?_
 clear hK2 K1
 refine WC_seq (fun K6 hK7 => ?_)
 refine WC_seq (fun K8 hK9 => ?_)
 refine WC_region ?_
 refine WL_val (dd := some 13) rfl rfl rfl (r_loadW rfl tb_ag79 rfl hm0_0) ?_
 refine WL_call (dd := some 14) rfl rfl rfl (r_call1 tb_c111 (v0 := .agg #[_, _, _]) rfl) (C_spec_Right S _ _  _ (Below.slT hB hon) (Below.slT hB hmay) ) (fun v1_1 W10 hE11 hP1_1 => ?_)
 have hsz12 := (Below.size hB)
 replace hB := below_ext hB hE11 (Nat.le_refl _)
 replace hm0_0 := hE11.at hm0_0
 clear hE11
 clear hsz12
 obtain rfl := hP1_1
 refine WL_val (dd := some 15) rfl rfl rfl (r_not rfl) ?_
 refine WL_nil ?_
 refine hK9 _ _ ?_
 clear hK9 K8
 refine WC_cond (b := _) rfl (fun hc0 => ?_) (fun hc0 => ?_)
 ·
  try with_reducible replace hc0 := of_decide_eq_true hc0
  refine WC_seq (fun K13 hK14 => ?_)
  refine WC_region ?_
  refine WL_val (dd := some 2) rfl rfl rfl (r_assign (v := .slice none 0 0) rfl) ?_
  refine WL_val (dd := some 3) rfl rfl rfl (r_assign (v := .int .i64 1) rfl) ?_
  refine WL_nil ?_
  refine hK14 _ _ ?_
  clear hK14 K13
  refine WC_ret ?_
  repeat (first | refine thenQ_ret ?_ | refine blockQ_ret ?_)
  try clear hK7 K6
  refine ret_tt (v := .slice none 0 0) rfl (v1 := .int .i64 1) rfl ?_
  refine ⟨hB, ?_⟩
  rw [if_neg (by rw [not_t hc0]; decide)]
 ·
  try with_reducible replace hc0 := of_decide_eq_false hc0
  refine WC_skip ?_
  refine hK7 _ _ ?_
  clear hK7 K6
  refine WC_seq (fun K15 hK16 => ?_)
  have hr : rightS S = true := not_f hc0
  obtain ⟨h0, h8, h1, h4, h5, hin⟩ := rightS_iff.1 hr
  have hp4 := pow4 (k := S.may.length) (by omega)
  have hp0 := Nat.two_pow_pos S.may.length
  refine WC_region ?_
  refine WL_val (dd := some 4) rfl rfl rfl (r_assign (v := .slice none 0 0) rfl) ?_
  refine WL_nil ?_
  refine hK16 _ _ ?_
  clear hK16 K15
  refine WC_seq (fun K17 hK18 => ?_)
  refine WC_seq (fun K19 hK20 => ?_)
  refine WC_region ?_
  refine WL_val (dd := some 5) rfl rfl rfl (r_assign (v := .int .i64 1) rfl) ?_
  refine WL_nil ?_
  refine hK20 _ _ ?_
  clear hK20 K19
  refine WC_block ?_
  refine WC_loop (σ := (Nat) × (Value)) [4, 5, 6, 7, 8, 9, 10, 12, 16, 17, 18, 19, 20, 21, 22, 23, 24, 25, 26, 27, 28, 29, 30, 31, 32, 33, 34, 35, 36, 37, 38, 39, 40, 41, 42, 43, 44, 45, 46, 47, 48, 49, 50, 51, 52, 53, 54, 55, 56, 57, 58, 59, 60, 61, 62, 63, 64, 65, 66, 67, 68, 69, 70, 71, 72, 73, 74, 75] (fun (o, v0) => [(5, .int .i64 (o : Int)), (4, v0)]) (fun sg W => match sg with | (o, v0) => (Below w.heap.size w W) ∧ (At W b0_0 _ 79) ∧ (OwT encR 3 57 W w.heap.size v0 (allTo S o)) ∧ (1 ≤ o ∧ o ≤ 2 ^ S.may.length) ∧ (True)) (fun (o, v0) => 2 ^ S.may.length - o) ((1, .slice none 0 0)) ⟨rfl, rfl, trivial⟩ ⟨hB, hm0_0, (by rw [show allTo S 1 = [] from rfl]; exact OwT.nil), (by omega), trivial⟩ ?_
  clear hB hm0_0
  rintro ⟨o, v0⟩ g22 W21 ⟨hB, hm0_0, ho, hoo, _⟩ J23 hJ24
  refine WC_seq (fun K25 hK26 => ?_)
  refine WC_seq (fun K27 hK28 => ?_)
  refine WC_region ?_
  refine WL_val (dd := some 16) rfl rfl rfl (r_move (v := .int .i64 _) rfl) ?_
  refine WL_val (dd := some 17) rfl rfl rfl (r_fieldAddr (b := _) (o := _) rfl tb_fo79_2) ?_
  refine WL_val (dd := some 18) rfl rfl rfl (r_load1 (v := mayV) rfl tb_sc77 (At.cell hm0_0 rfl)) ?_
  refine WL_val (dd := some 19) rfl rfl rfl (r_lenS (v := mayV) rfl (Below.slT hB hmay) tb_el77) ?_
  refine WL_val (dd := some 20) rfl rfl rfl (r_shl (m := 1) rfl rfl (by omega) (by simp only [IntKind.bits]; omega) (by exact shl1 _ _ (by simp only [bitsN]; omega))) ?_
  refine WL_val (dd := some 21) rfl rfl rfl (r_lss rfl rfl) ?_
  refine WL_nil ?_
  refine hK28 _ _ ?_
  clear hK28 K27
  refine WC_cond (b := _) rfl (fun hc1 => ?_) (fun hc1 => ?_)
  ·
   try with_reducible replace hc1 := of_decide_eq_true hc1
   refine WC_skip ?_
   refine hK26 _ _ ?_
   clear hK26 K25
   refine WC_seq (fun K29 hK30 => ?_)
   refine WC_block ?_
   refine WC_seq (fun K31 hK32 => ?_)
   have hol : o < 2 ^ S.may.length := by simp only [Nat.one_mul, Int.toNat_natCast] at hc1; omega
   have hal := allTo_len (S := S) h8 o
   refine WC_region ?_
   refine WL_val (dd := some 25) rfl rfl rfl (r_fieldAddr (b := _) (o := _) rfl tb_fo79_0) ?_
   refine WL_val (dd := some 26) rfl rfl rfl (r_load1 (v := .int .i64 _) rfl tb_sc3 (At.cell hm0_0 rfl)) ?_
   refine WL_call (dd := some 27) rfl rfl rfl (r_call1 tb_c105 (v0 := .int .i64 _) rfl) (C_set_All _ _) (fun v7_2 W33 hE34 hP7_2 => ?_)
   have hsz35 := (Below.size hB)
   replace hB := below_ext hB hE34 (Nat.le_refl _)
   replace hm0_0 := hE34.at hm0_0
   replace ho := hE34.ow ho
   clear hE34
   obtain ⟨sa, er, rfl, hhP7_2⟩ := all_cases hP7_2
   clear hsz35
   refine WL_val (dd := some 24) rfl rfl rfl (r_move (v := .tuple #[.agg #[_, _, _, _], .int .i64 _]) rfl) ?_
   refine WL_val (dd := some 28) rfl rfl rfl (r_ext2_0 (h := rfl)) ?_
   refine WL_val (dd := some 29) rfl rfl rfl (r_ext2_1 (h := rfl)) ?_
   refine WL_step (dd := some 6) rfl rfl rfl (Y_alloc tb_z69 rfl (fun b7_6 W36 hb37 hE38 hm7_6 => ?_))
   have lo_b7_6 : w.heap.size ≤ b7_6 := hb37 ▸ (Below.size hB)
   clear hb37
   replace hB := below_ext hB hE38 (Nat.le_refl _)
   replace hm0_0 := hE38.at hm0_0
   replace ho := hE38.ow ho
   clear hE38
   replace hm7_6 : At W36 b7_6 #[wv 0 0, wv 0 1, wv 0 2, wv 0 3] 69 := hm7_6
   refine WL_step (dd := none) rfl rfl rfl (Y_storeW rfl rfl tb_ag69 rfl hm7_6 rfl (by rfl) (fun W39 hG40 hm41 => ?_))
   replace hB := below_grown hB hG40 (Nat.le_refl _) (fun j hj => by cases hj; exact lo_b7_6)
   replace hm0_0 := At.grownAt hm0_0 hm7_6 hG40 (by decide)
   replace ho := OwT.grownAt ho hm7_6 hG40 (by decide)
   clear hG40 hm7_6
   have hm7_6 := hm41
   clear hm41
   refine WL_val (dd := some 7) rfl rfl rfl (r_assign (v := .int .i64 _) rfl) ?_
   refine WL_nil ?_
   refine hK32 _ _ ?_
   clear hK32 K31
   refine WC_seq (fun K42 hK43 => ?_)
   refine WC_seq (fun K44 hK45 => ?_)
   obtain ⟨_, _, hsa⟩ := all_bounds hhP7_2 (fun h => h (hhP7_2.elim (fun q => q.2.2.2) (fun q => absurd ⟨h0, h8⟩ q.1)))
   subst hsa
   refine WC_region ?_
   refine WL_val (dd := some 30) rfl rfl rfl (r_fieldAddr (b := _) (o := _) rfl tb_fo79_2) ?_
   refine WL_val (dd := some 31) rfl rfl rfl (r_load1 (v := mayV) rfl tb_sc77 (At.cell hm0_0 rfl)) ?_
   refine WL_val (dd := some 32) rfl rfl rfl (r_lenS (v := mayV) rfl (Below.slT hB hmay) tb_el77) ?_
   refine WL_val (dd := some 33) rfl rfl rfl (r_move (v := .int .i64 0) rfl) ?_
   refine WL_nil ?_
   refine hK45 _ _ ?_
   clear hK45 K44
   refine WC_block ?_
   refine WC_loop (σ := (Nat)) [8, 33, 34, 35, 36, 37, 38, 39, 40, 41, 42, 43, 44, 45, 46, 47, 48] (fun k => [(33, .int .i64 (k : Int))]) (fun k W => (Below w.heap.size w W) ∧ (At W b0_0 _ 79) ∧ (OwT encR 3 57 W w.heap.size v0 _) ∧ (At W b7_6 #[wv (comTo S o k) 0, wv (comTo S o k) 1, wv (comTo S o k) 2, wv (comTo S o k) 3] 69) ∧ (k ≤ S.may.length) ∧ (True)) (fun k => S.may.length - k) (0) ⟨rfl, trivial⟩ ⟨hB, hm0_0, ho, hm7_6, (Nat.zero_le _), trivial⟩ ?_
   clear hB hm0_0 ho hm7_6
   rintro k g47 W46 ⟨hB, hm0_0, ho, hm7_6, hk, _⟩ J48 hJ49
   refine WC_seq (fun K50 hK51 => ?_)
   refine WC_region ?_
   refine WL_val (dd := some 34) rfl rfl rfl (r_lss rfl rfl) ?_
   refine WL_nil ?_
   refine hK51 _ _ ?_
   clear hK51 K50
   refine WC_seq (fun K52 hK53 => ?_)
   refine WC_cond (b := _) rfl (fun hc2 => ?_) (fun hc2 => ?_)
   ·
    try with_reducible replace hc2 := of_decide_eq_true hc2
    refine WC_skip ?_
    refine hK53 _ _ ?_
    clear hK53 K52
    refine WC_seq (fun K54 hK55 => ?_)
    refine WC_block ?_
    refine WC_seq (fun K56 hK57 => ?_)
    refine WC_region ?_
    refine WL_val (dd := some 35) rfl rfl rfl (r_move (v := .int .i64 _) rfl) ?_
    refine WL_val (dd := some 8) rfl rfl rfl (r_assign (v := .int .i64 _) rfl) ?_
    refine WL_nil ?_
    refine hK57 _ _ ?_
    clear hK57 K56
    refine WC_seq (fun K58 hK59 => ?_)
    refine WC_region ?_
    refine WL_val (dd := some 36) rfl rfl rfl (r_move (v := .int .i64 _) rfl) ?_
    refine WL_val (dd := some 37) rfl rfl rfl (r_move (v := .int .i64 _) rfl) ?_
    refine WL_val (dd := some 38) rfl rfl rfl (r_shr rfl rfl (by omega) (by simp only [IntKind.bits]; omega)) ?_
    refine WL_val (dd := some 39) rfl rfl rfl (r_and (n := 1) rfl rfl rfl (by simp only [topN]; have := Nat.div_le_self o (2 ^ ((k : Nat) : Int).toNat); omega) (by decide)) ?_
    refine WL_val (dd := some 40) rfl rfl rfl (r_eql rfl rfl) ?_
    refine WL_nil ?_
    refine hK59 _ _ ?_
    clear hK59 K58
    refine WC_cond (b := _) rfl (fun hc3 => ?_) (fun hc3 => ?_)
    ·
     try with_reducible replace hc3 := of_decide_eq_true hc3
     refine WC_draw Ext tb_mix (fun W60 hE61 => ?_)
     replace hB := below_ext hB hE61 (Nat.le_refl _)
     replace hm0_0 := hE61.at hm0_0
     replace ho := hE61.ow ho
     replace hm7_6 := hE61.at hm7_6
     have hS := Ext.refl W60
     refine WT_take (dd := some 41) 0 rfl (by kernel_rfl) (by kernel_rfl) (by kernel_rfl) rfl rfl rfl (fun _wq hq => r_loadW rfl tb_ag69 rfl (hq.at hm7_6)) hS ?_
     refine WT_take (dd := some 42) 1 rfl (by kernel_rfl) (by kernel_rfl) (by kernel_rfl) rfl rfl rfl (fun _wq _hq => r_fieldAddr (b := _) (o := _) rfl tb_fo79_2) hS ?_
     refine WT_take (dd := some 43) 2 rfl (by kernel_rfl) (by kernel_rfl) (by kernel_rfl) rfl rfl rfl (fun _wq hq => r_load1 (v := mayV) rfl tb_sc77 (At.cell (hq.at hm0_0) rfl)) hS ?_
     refine WT_take (dd := some 44) 3 rfl (by kernel_rfl) (by kernel_rfl) (by kernel_rfl) rfl rfl rfl (fun _wq _hq => r_move (v := .int .i64 _) rfl) hS ?_
     refine WT_take (dd := some 45) 4 rfl (by kernel_rfl) (by kernel_rfl) (by kernel_rfl) rfl rfl rfl (fun _wq hq => r_idxS (v := mayV) rfl (hq.slT (Below.slT hB hmay)) rfl tb_el77 (by omega) (by first | omega | (simp only [flagsTo_len, litsTo_len, firstF_len, ptF_len, setF_len]; omega))) hS ?_
     refine WT_take (dd := some 46) 5 rfl (by kernel_rfl) (by kernel_rfl) (by kernel_rfl) rfl rfl rfl (fun _wq hq => r_load4 rfl tb_ag69 (SlT.cell (hq.slT (Below.slT hB hmay)) encS_len 0 (by omega) (by first | omega | (simp only [flagsTo_len, litsTo_len, firstF_len, ptF_len, setF_len]; omega)) 0 rfl) (SlT.cell (hq.slT (Below.slT hB hmay)) encS_len 0 (by omega) (by first | omega | (simp only [flagsTo_len, litsTo_len, firstF_len, ptF_len, setF_len]; omega)) 1 rfl) (SlT.cell (hq.slT (Below.slT hB hmay)) encS_len 0 (by omega) (by first | omega | (simp only [flagsTo_len, litsTo_len, firstF_len, ptF_len, setF_len]; omega)) 2 rfl) (SlT.cell (hq.slT (Below.slT hB hmay)) encS_len 0 (by omega) (by first | omega | (simp only [flagsTo_len, litsTo_len, firstF_len, ptF_len, setF_len]; omega)) 3 rfl)) hS ?_
     refine WT_one (dd := some 47) 6 (by kernel_rfl) rfl rfl rfl rfl (Yd.call (r_call2 tb_c113 (v0 := .agg #[_, _, _, _]) rfl (v1 := .agg #[_, _, _, _]) rfl) (C_set_And _ _ _) (fun v12_6 W62 hE63 hP12_6 => ⟨.inl (hS.trans hE63), ?_⟩))
     have hsz64 := (Below.size hB)
     have sv65_hB := hB
     have sv65_hm0_0 := hm0_0
     have sv65_ho := ho
     have sv65_hm7_6 := hm7_6
     replace hB := below_ext hB hE63 (Nat.le_refl _)
     replace hm0_0 := hE63.at hm0_0
     replace ho := hE63.ow ho
     replace hm7_6 := hE63.at hm7_6
     replace hS := hS.trans hE63
     clear hE63
     clear hsz64
     obtain rfl := hP12_6
     refine WT_one (dd := none) 7 (by kernel_rfl) rfl rfl rfl rfl (Y_storeW rfl rfl tb_ag69 rfl hm7_6 rfl (by rfl) (fun W66 hG67 hm68 => ⟨.inr (by kernel_rfl), ?_⟩))
     replace hB := below_grown hB hG67 (Nat.le_refl _) (fun j hj => by cases hj; exact lo_b7_6)
     replace hm0_0 := At.grownAt hm0_0 hm7_6 hG67 (by decide)
     replace ho := OwT.grownAt ho hm7_6 hG67 (by decide)
     clear hG67 hm7_6
     have hm7_6 := hm68
     clear hm68
     refine WT_done (by kernel_rfl) ?_
     try clear sv65_hB sv65_hm0_0 sv65_ho
     refine hK55 _ _ ?_
     clear hK55 K54
     refine WC_region ?_
     refine WL_val (dd := some 48) rfl rfl rfl (r_addI rfl rfl (by omega) (by omega)) ?_
     refine WL_val (dd := some 33) rfl rfl rfl (r_move (v := .int .i64 _) rfl) ?_
     refine WL_nil ?_
     refine hJ49 _ _ (k + 1) ?_ ?_ ?_ ?_
     · repeat (first | exact agree.mask _ _ _ | refine agree.updo ?_ rfl _ | refine agree.updL ?_ _ rfl | refine agree.maskS rfl ?_)
     · exact ⟨rfl, trivial⟩
     · exact ⟨hB, hm0_0, ho, (by first | (rw [← com_t (bit_yes hc3)]; exact hm7_6) | (rw [← com_f (bit_not hc3)]; exact hm7_6)), (by omega), trivial⟩
     · first | omega | (dsimp only; omega)
    ·
     try with_reducible replace hc3 := of_decide_eq_false hc3
     refine WC_skip ?_
     refine hK55 _ _ ?_
     clear hK55 K54
     refine WC_region ?_
     refine WL_val (dd := some 48) rfl rfl rfl (r_addI rfl rfl (by omega) (by omega)) ?_
     refine WL_val (dd := some 33) rfl rfl rfl (r_move (v := .int .i64 _) rfl) ?_
     refine WL_nil ?_
     refine hJ49 _ _ (k + 1) ?_ ?_ ?_ ?_
     · repeat (first | exact agree.mask _ _ _ | refine agree.updo ?_ rfl _ | refine agree.updL ?_ _ rfl | refine agree.maskS rfl ?_)
     · exact ⟨rfl, trivial⟩
     · exact ⟨hB, hm0_0, ho, (by first | (rw [← com_t (bit_yes hc3)]; exact hm7_6) | (rw [← com_f (bit_not hc3)]; exact hm7_6)), (by omega), trivial⟩
     · first | omega | (dsimp only; omega)
   ·
    try with_reducible replace hc2 := of_decide_eq_false hc2
    refine WC_exit ?_
    refine hK43 _ _ ?_
    clear hK53 K52
    clear hJ49 J48
    clear hK43 K42
    refine WC_seq (fun K69 hK70 => ?_)
    obtain rfl : k = S.may.length := by omega
    refine WC_region ?_
    refine WL_val (dd := some 50) rfl rfl rfl (r_loadW rfl tb_ag69 rfl hm7_6) ?_
    refine WL_val (dd := some 51) rfl rfl rfl (r_fieldAddr (b := _) (o := _) rfl tb_fo79_0) ?_
    refine WL_val (dd := some 52) rfl rfl rfl (r_load1 (v := .int .i64 _) rfl tb_sc3 (At.cell hm0_0 rfl)) ?_
    refine WL_call (dd := some 53) rfl rfl rfl (r_call2 tb_c62 (v0 := .agg #[_, _, _, _]) rfl (v1 := .int .i64 _) rfl) (C_prime_All (comS S o) _ _) (fun v14_3 W71 hE72 hP14_3 => ?_)
    have hsz73 := (Below.size hB)
    replace hB := below_ext hB hE72 (Nat.le_refl _)
    replace hm0_0 := hE72.at hm0_0
    replace ho := hE72.ow ho
    replace hm7_6 := hE72.at hm7_6
    clear hE72
    obtain ⟨x_hP14_3, er_hP14_3, l_hP14_3, rfl, ho_hP14_3, hc_hP14_3⟩ := all_res hP14_3
    replace ho_hP14_3 := OwT.mono ho_hP14_3 hsz73
    clear hsz73
    refine WL_val (dd := some 49) rfl rfl rfl (r_move (v := .tuple #[x_hP14_3, .int .i64 _]) rfl) ?_
    refine WL_val (dd := some 54) rfl rfl rfl (r_ext2_0 (h := rfl)) ?_
    refine WL_val (dd := some 55) rfl rfl rfl (r_ext2_1 (h := rfl)) ?_
    refine WL_val (dd := some 9) rfl rfl rfl (r_assign (v := x_hP14_3) rfl) ?_
    refine WL_val (dd := some 10) rfl rfl rfl (r_assign (v := .int .i64 _) rfl) ?_
    refine WL_nil ?_
    refine hK70 _ _ ?_
    clear hK70 K69
    refine WC_seq (fun K74 hK75 => ?_)
    obtain ⟨q2, q3⟩ := hc_hP14_3.elim (fun h => h.2) (fun h => absurd (com_of hr o) (by rw [h.1]; decide))
    subst q2 q3
    have hpl := primesL_len (s := comS S o) h8
    refine WC_region ?_
    refine WL_val (dd := some 56) rfl rfl rfl (r_move (v := x_hP14_3) rfl) ?_
    refine WL_val (dd := some 57) rfl rfl rfl (r_lenS (v := x_hP14_3) rfl ho_hP14_3.sl tb_el72) ?_
    refine WL_val (dd := some 58) rfl rfl rfl (r_move (v := .int .i64 0) rfl) ?_
    refine WL_nil ?_
    refine hK75 _ _ ?_
    clear hK75 K74
    refine WC_block ?_
    refine WC_loop (σ := (Nat) × (Value)) [4, 12, 58, 59, 60, 61, 62, 63, 64, 65, 66, 67, 68, 69, 70, 71, 72, 73, 74, 75] (fun (i, v1) => [(58, .int .i64 (i : Int)), (4, v1)]) (fun sg W => match sg with | (i, v1) => (Below w.heap.size w W) ∧ (At W b0_0 _ 79) ∧ (At W b7_6 _ 69) ∧ (OwT encC 2 55 W w.heap.size x_hP14_3 _) ∧ (OwT encR 3 57 W w.heap.size v1 (allTo S o ++ rowsTo S o i)) ∧ (i ≤ (primesL (comS S o) S.n).length) ∧ (True)) (fun (i, v1) => (primesL (comS S o) S.n).length - i) ((0, v0)) ⟨rfl, rfl, trivial⟩ ⟨hB, hm0_0, hm7_6, ho_hP14_3, (by rw [rowsTo, List.append_nil]; exact ho), (Nat.zero_le _), trivial⟩ ?_
    clear hB hm0_0 ho hm7_6 ho_hP14_3
    rintro ⟨i, v1⟩ g77 W76 ⟨hB, hm0_0, hm7_6, ho_hP14_3, ho2, hi, _⟩ J78 hJ79
    refine WC_seq (fun K80 hK81 => ?_)
    refine WC_region ?_
    refine WL_val (dd := some 59) rfl rfl rfl (r_lss rfl rfl) ?_
    refine WL_nil ?_
    refine hK81 _ _ ?_
    clear hK81 K80
    refine WC_seq (fun K82 hK83 => ?_)
    refine WC_cond (b := _) rfl (fun hc4 => ?_) (fun hc4 => ?_)
    ·
     try with_reducible replace hc4 := of_decide_eq_true hc4
     refine WC_skip ?_
     refine hK83 _ _ ?_
     clear hK83 K82
     refine WC_seq (fun K84 hK85 => ?_)
     refine WC_block ?_
     refine WC_seq (fun K86 hK87 => ?_)
     have hci : ((primesL (comS S o) S.n).getD i ⟨0, 0⟩).m < 256 ∧ ((primesL (comS S o) S.n).getD i ⟨0, 0⟩).v < 256 := primes_b h8 (by omega)
     have hrl := rowsTo_len S o i
     have hol2 := outsTo_lt S ((primesL (comS S o) S.n).getD i ⟨0, 0⟩) S.may.length
     refine WC_region ?_
     refine WL_val (dd := some 60) rfl rfl rfl (r_idxS (v := x_hP14_3) rfl ho_hP14_3.sl rfl tb_el72 (by omega) (by first | omega | (simp only [flagsTo_len, litsTo_len, firstF_len, ptF_len, setF_len]; omega))) ?_
     refine WL_val (dd := some 61) rfl rfl rfl (r_load2 rfl tb_ag55 (SlT.cell ho_hP14_3.sl encC_len ⟨0, 0⟩ (by omega) (by first | omega | (simp only [flagsTo_len, litsTo_len, firstF_len, ptF_len, setF_len]; omega)) 0 rfl) (SlT.cell ho_hP14_3.sl encC_len ⟨0, 0⟩ (by omega) (by first | omega | (simp only [flagsTo_len, litsTo_len, firstF_len, ptF_len, setF_len]; omega)) 1 rfl)) ?_
     refine WL_step (dd := some 12) rfl rfl rfl (Y_alloc tb_z55 rfl (fun b17_2 W88 hb89 hE90 hm17_2 => ?_))
     have lo_b17_2 : w.heap.size ≤ b17_2 := hb89 ▸ (Below.size hB)
     have no_x_hP14_3_b17_2 := OwT.neB (b := b17_2) ho_hP14_3 (Nat.le_of_eq hb89.symm)
     clear hb89
     replace hB := below_ext hB hE90 (Nat.le_refl _)
     replace hm0_0 := hE90.at hm0_0
     replace hm7_6 := hE90.at hm7_6
     replace ho_hP14_3 := hE90.ow ho_hP14_3
     replace ho2 := hE90.ow ho2
     clear hE90
     refine WL_step (dd := none) rfl rfl rfl (Y_storeW rfl rfl tb_ag55 rfl hm17_2 rfl (by rfl) (fun W91 hG92 hm93 => ?_))
     replace hB := below_grown hB hG92 (Nat.le_refl _) (fun j hj => by cases hj; exact lo_b17_2)
     replace hm0_0 := At.grownAt hm0_0 hm17_2 hG92 (by decide)
     replace hm7_6 := At.grownAt hm7_6 hm17_2 hG92 (by decide)
     replace ho_hP14_3 := OwT.grownAtNe ho_hP14_3 no_x_hP14_3_b17_2 hG92
     replace ho2 := OwT.grownAt ho2 hm17_2 hG92 (by decide)
     clear hG92 hm17_2
     have hm17_2 := hm93
     clear hm93
     refine WL_nil ?_
     refine hK87 _ _ ?_
     clear hK87 K86
     refine WC_seq (fun K94 hK95 => ?_)
     refine WC_region ?_
     refine WL_val (dd := some 62) rfl rfl rfl (r_loadW rfl tb_ag79 rfl hm0_0) ?_
     refine WL_val (dd := some 63) rfl rfl rfl (r_loadW rfl tb_ag55 rfl hm17_2) ?_
     refine WL_call (dd := some 64) rfl rfl rfl (r_call2 tb_c115 (v0 := .agg #[_, _, _]) rfl (v1 := .agg #[_, _]) rfl) (C_multi_outs S _ _ ((primesL (comS S o) S.n).getD i ⟨0, 0⟩) _ (Below.slT hB hon) (Below.slT hB hmay) hci (by omega)) (fun v18_2 W96 hE97 hP18_2 => ?_)
     have hsz98 := (Below.size hB)
     replace hB := below_ext hB hE97 (Nat.le_refl _)
     replace hm0_0 := hE97.at hm0_0
     replace hm7_6 := hE97.at hm7_6
     replace ho_hP14_3 := hE97.ow ho_hP14_3
     replace ho2 := hE97.ow ho2
     replace hm17_2 := hE97.at hm17_2
     clear hE97
     clear hsz98
     obtain rfl := hP18_2
     refine WL_val (dd := some 65) rfl rfl rfl (r_move (v := .int .i64 _) rfl) ?_
     refine WL_val (dd := some 66) rfl rfl rfl (r_convN rfl Try.underlying3 Try.underlying5 (by simp only [topN]; omega)) ?_
     refine WL_val (dd := some 67) rfl rfl rfl (r_eql rfl rfl) ?_
     refine WL_nil ?_
     refine hK95 _ _ ?_
     clear hK95 K94
     refine WC_cond (b := _) rfl (fun hc5 => ?_) (fun hc5 => ?_)
     ·
      try with_reducible replace hc5 := of_decide_eq_true hc5
      refine WC_region ?_
      refine WL_val (dd := some 68) rfl rfl rfl (r_move (v := v1) rfl) ?_
      refine WL_val (dd := some 69) rfl rfl rfl (r_loadW rfl tb_ag55 rfl hm17_2) ?_
      refine WL_val (dd := some 70) rfl rfl rfl (r_move (v := .int .i64 _) rfl) ?_
      refine WL_val (dd := some 71) rfl rfl rfl (r_convN rfl Try.underlying3 Try.underlying5 (by simp only [topN]; omega)) ?_
      refine WL_val (dd := some 72) rfl rfl rfl (tb_build57_0_1 (h0 := rfl) (h1 := rfl) (k1 := rfl) (c1_0 := .int .u8 _)) ?_
      refine WL_step (dd := some 73) rfl rfl rfl (Y_lit1 (u := .agg #[_, _, _]) rfl tb_el75 tb_zs57 rfl (by decide) (by decide) (fun b19_5 W99 hb100 hE101 hm19_5 => ?_))
      have lo_b19_5 : w.heap.size ≤ b19_5 := hb100 ▸ (Below.size hB)
      have no_v1_b19_5 := OwT.neB (b := b19_5) ho2 (Nat.le_of_eq hb100.symm)
      clear hb100
      replace hB := below_ext hB hE101 (Nat.le_refl _)
      replace hm0_0 := hE101.at hm0_0
      replace hm7_6 := hE101.at hm7_6
      replace ho_hP14_3 := hE101.ow ho_hP14_3
      replace ho2 := hE101.ow ho2
      replace hm17_2 := hE101.at hm17_2
      clear hE101
      refine WL_step (dd := some 74) rfl rfl rfl (Y_append (v := v1) (v2 := .slice (some ⟨b19_5, 0, none⟩) 1 1) rfl rfl tb_el75 tb_zs57 (by decide) ho2 (sl_lit1 hm19_5 rfl) rfl (by have := Below.size hB; omega) (by first | omega | (simp; omega) | (simp only [flagsTo_len, litsTo_len, firstF_len, ptF_len, setF_len]; omega)) (by first | omega | (simp; omega) | (simp only [flagsTo_len, litsTo_len, firstF_len, ptF_len, setF_len]; omega)) (fun v19_6 W102 hG103 ho19_6 => ?_))
      replace ho19_6 := OwT.snoc (enc := encR) (x := ⟨(primesL (comS S o) S.n).getD i ⟨0, 0⟩, o⟩) rfl rfl rfl rfl ho19_6
      clear hm19_5
      replace hB := below_grown hB hG103 (Nat.le_refl _) (fun j hj => (OwT.lt ho2 j hj))
      replace hm0_0 := At.grownOw hm0_0 ho2 hG103 (by decide)
      replace hm7_6 := At.grownOw hm7_6 ho2 hG103 (by decide)
      replace ho_hP14_3 := OwT.grownOw ho_hP14_3 ho2 hG103 (by decide)
      replace hm17_2 := At.grownOw hm17_2 ho2 hG103 (by decide)
      clear hG103
      clear ho2
      refine WL_val (dd := some 4) rfl rfl rfl (r_assign (v := v19_6) rfl) ?_
      refine WL_nil ?_
      refine hK85 _ _ ?_
      clear hK85 K84
      refine WC_region ?_
      refine WL_val (dd := some 75) rfl rfl rfl (r_addI rfl rfl (by omega) (by omega)) ?_
      refine WL_val (dd := some 58) rfl rfl rfl (r_move (v := .int .i64 _) rfl) ?_
      refine WL_nil ?_
      refine hJ79 _ _ ((i + 1, v19_6)) ?_ ?_ ?_ ?_
      · repeat (first | exact agree.mask _ _ _ | refine agree.updo ?_ rfl _ | refine agree.updL ?_ _ rfl | refine agree.maskS rfl ?_)
      · exact ⟨rfl, rfl, trivial⟩
      · exact ⟨hB, hm0_0, hm7_6, ho_hP14_3, (by first | (rw [← rowsTo_t (int_eq hc5), ← List.append_assoc]; exact ho19_6) | (rw [← rowsTo_f (fun h => hc5 (congrArg Int.ofNat h))]; exact ho19_6)), (by omega), trivial⟩
      · show (primesL (comS S o) S.n).length - (i + 1) < (primesL (comS S o) S.n).length - i; omega
     ·
      try with_reducible replace hc5 := of_decide_eq_false hc5
      refine WC_skip ?_
      refine hK85 _ _ ?_
      clear hK85 K84
      refine WC_region ?_
      refine WL_val (dd := some 75) rfl rfl rfl (r_addI rfl rfl (by omega) (by omega)) ?_
      refine WL_val (dd := some 58) rfl rfl rfl (r_move (v := .int .i64 _) rfl) ?_
      refine WL_nil ?_
      refine hJ79 _ _ ((i + 1, v1)) ?_ ?_ ?_ ?_
      · repeat (first | exact agree.mask _ _ _ | refine agree.updo ?_ rfl _ | refine agree.updL ?_ _ rfl | refine agree.maskS rfl ?_)
      · exact ⟨rfl, rfl, trivial⟩
      · exact ⟨hB, hm0_0, hm7_6, ho_hP14_3, (by first | (rw [← rowsTo_t (int_eq hc5), ← List.append_assoc]; exact ho2) | (rw [← rowsTo_f (fun h => hc5 (congrArg Int.ofNat h))]; exact ho2)), (by omega), trivial⟩
      · show (primesL (comS S o) S.n).length - (i + 1) < (primesL (comS S o) S.n).length - i; omega
    ·
     try with_reducible replace hc4 := of_decide_eq_false hc4
     refine WC_exit ?_
     refine hK30 _ _ ?_
     clear hK83 K82
     clear hJ79 J78
     clear hK30 K29
     refine WC_region ?_
     refine WL_val (dd := some 22) rfl rfl rfl (r_move (v := .int .i64 _) rfl) ?_
     refine WL_val (dd := some 23) rfl rfl rfl (r_addI rfl rfl (by omega) (by omega)) ?_
     refine WL_val (dd := some 5) rfl rfl rfl (r_assign (v := .int .i64 _) rfl) ?_
     refine WL_nil ?_
     refine hJ24 _ _ ((o + 1, v1)) ?_ ?_ ?_ ?_
     · repeat (first | exact agree.mask _ _ _ | refine agree.updo ?_ rfl _ | refine agree.updL ?_ _ rfl | refine agree.maskS rfl ?_)
     · exact ⟨rfl, rfl, trivial⟩
     · exact ⟨hB, hm0_0, (by rw [← allTo_succ (by omega)]; have e : i = (primesL (comS S o) S.n).length := (by omega); subst e; exact ho2), (by omega), trivial⟩
     · show 2 ^ S.may.length - (o + 1) < 2 ^ S.may.length - o; omega
  ·
   try with_reducible replace hc1 := of_decide_eq_false hc1
   refine WC_exit ?_
   refine hK18 _ _ ?_
   clear hK26 K25
   clear hJ24 J23
   clear hK18 K17
   refine WC_seq (fun K105 hK106 => ?_)
   obtain rfl : o = 2 ^ S.may.length := by simp only [Nat.one_mul, Int.toNat_natCast] at hc1; omega
   have hal := allTo_len (S := S) h8 (2 ^ S.may.length)
   refine WC_region ?_
   refine WL_val (dd := some 76) rfl rfl rfl (r_move (v := v0) rfl) ?_
   refine WL_call (dd := some 77) rfl rfl rfl (r_call2 tb_c116 (v0 := v0) rfl (v1 := .func (.func 117) #[] #[]) rfl) (C_multi_sorted_api_Row_ _ (allR S) 117 _ ho.sl tb_c117 (fun m u o m2 u2 o2 w => C_multi_ahead m u o m2 u2 o2 w) (show (allTo S (2 ^ S.may.length)).length ≤ 2000000 by omega)) (fun v21_1 W107 hE108 hP21_1 => ?_)
   have hlt109 := OwT.lt2 ho
   have hsz110 := (Below.size hB)
   replace hB := below_ext hB hE108 (Nat.le_refl _)
   replace hm0_0 := hE108.at hm0_0
   replace ho := hE108.ow ho
   clear hE108
   have hap111 := Apart.new hlt109 hP21_1
   replace hP21_1 := OwT.mono hP21_1 hsz110
   clear hsz110
   rw [sort_allR] at hP21_1
   refine WL_val (dd := some 2) rfl rfl rfl (r_assign (v := v21_1) rfl) ?_
   refine WL_val (dd := some 3) rfl rfl rfl (r_assign (v := .int .i64 0) rfl) ?_
   refine WL_nil ?_
   refine hK106 _ _ ?_
   clear hK106 K105
   refine WC_ret ?_
   repeat (first | refine thenQ_ret ?_ | refine blockQ_ret ?_)
   refine ret_tt (v := v21_1) rfl (v1 := .int .i64 0) rfl ?_
   refine ⟨hB, ?_⟩
   rw [if_pos hr]
   exact ⟨_, rfl, hP21_1⟩

end Go.Proofs.Ytpamgfbecgjjeaa
