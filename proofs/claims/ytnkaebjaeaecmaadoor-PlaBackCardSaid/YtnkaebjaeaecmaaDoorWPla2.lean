/-
  The walks of package pla: its tables.
-/
import Derived.Test.YtnkaebjaeaecmaaDoorProg
import Derived.Test.YtnkaebjaeaecmaaDoorWPla
import Derived.Test.YtnkaebjaeaecmaaDoorWCube
namespace Go.Proofs.YtnkaebjaeaecmaaDoor
set_option linter.unusedVariables false
set_option linter.unusedSimpArgs false
open Go Go.RowKit

theorem tb_fo24_0 : fieldO Tryd.prog 24 0 = some 0 := by kernel_rfl
theorem tb_fo24_1 : fieldO Tryd.prog 24 1 = some 1 := by kernel_rfl
theorem tb_fo24_2 : fieldO Tryd.prog 24 2 = some 2 := by kernel_rfl
theorem tb_fo24_3 : fieldO Tryd.prog 24 3 = some 3 := by kernel_rfl
theorem tb_sc22 : scalarB Tryd.prog 22 = true := by kernel_rfl
theorem tb_el22 : elemI Tryd.prog 22 = some (45, 3, 32) := by kernel_rfl
theorem tb_ag45 : aggN Tryd.prog 45 = some 3 := by kernel_rfl
theorem tb_z45 : zeroI Tryd.prog 45 = some (.agg #[.int .u8 0, .int .u8 0, .slice none 0 0]) := by kernel_rfl
theorem tb_fo45_0 : fieldO Tryd.prog 45 0 = some 0 := by kernel_rfl
theorem tb_fo45_1 : fieldO Tryd.prog 45 1 = some 2 := by kernel_rfl
theorem tb_sc43 : scalarB Tryd.prog 43 = true := by kernel_rfl
theorem tb_c20 : callB Tryd.prog 20 = true := by kernel_rfl
theorem tb_neq42 {f : Nat → Value} {w : World} {d : Option Nat} {ty t2 : TypeId} {ps : String} {af : Array Edge} {g : Option (Nat × Bool)} {x y : Operand} {a0 a1 b0 b1 : Int} (hx : evF f x = .agg #[.int .u8 a0, .int .u8 a1]) (hy : evF f y = .agg #[.int .u8 b0, .int .u8 b1]) :
    (execOp (evF f) ⟨d, .binOp .neq 42 x y t2, ty, ps, af, g⟩).run Tryd.prog w = .ok (.value (.bool (decide (¬ (a0 = b0 ∧ a1 = b1))))) w := by
  have hg : Tryd.prog.eqGuardType Tryd.prog.depth 42 = false := by kernel_rfl
  have hp42 : Tryd.prog.stoodInHeld 42 = false := by kernel_rfl
  have hu42 : Tryd.prog.underlying 42 = some (.struct (Tryd.prog.fieldsOf 42)) := by kernel_rfl
  simp only [execOp, hx, hy, Sem.run_bind, run_eqGuard_agg _ _ _ _ _ _ _ hg, Result.andThen_ok, run_neq_struct, run_equalIn_agg _ 9999 42 _ _ hu42 hp42]
  simp only [Program.fieldsOf, Tryd.underlying42]
  simp [Op.eqFields, part, isAgg, run_equalIn_int _ 9998 5 _ _ _ _ Tryd.underlying5, run_underlying Tryd.underlying5]
  by_cases q0 : a0 = b0 <;> by_cases q1 : a1 = b1 <;> simp [q0, q1]

theorem C_pla_Right (T : Tb) (lv : Value) (vs : List LnV) (w : World) (hlv : SlT encLn 3 w lv vs) (hls : LsAt w vs T.ls) (hmb : ∀ i, i < T.ls.length → (T.ls.getD i ln0).c.m < 256 ∧ (T.ls.getD i ln0).c.v < 256) :
    Fn Tryd.prog 11 #[.agg #[.int .i64 T.kind, .int .i64 T.ni, .int .i64 T.no, lv]] w fun v w' => v = .bool (rightT T) := by
  refine Fn_intro (n := 77) Tryd.func11 rfl rfl (Nat.le_of_ble_eq_true rfl) ?_
  have hB : Below w.heap.size w w := Below.refl _ _
  have hle := hls.len
  refine WC_seq (fun K1 hK2 => ?_)
  refine WC_region ?_
  refine WL_step (dd := some 1) rfl rfl rfl (Y_box (c := #[_, _, _, _]) rfl rfl (fun b0_0 W3 hb4 hE5 hm0_0 => ?_))
  have lo_b0_0 : w.heap.size ≤ b0_0 := hb4 ▸ (Below.size hB)
  clear hb4
  replace hB := below_ext hB hE5 (Nat.le_refl _)
  clear hE5
  refine WL_val (dd := some 2) rfl rfl rfl (r_assign (v := .bool false) rfl) ?_
  refine WL_nil ?_
  refine hK2 _ _ ?_
  clear hK2 K1
  refine WC_seq (fun K6 hK7 => ?_)
  refine WC_seq (fun K8 hK9 => ?_)
  refine WC_region ?_
  refine WL_val (dd := some 7) rfl rfl rfl (r_fieldAddr (b := _) (o := _) rfl tb_fo24_0) ?_
  refine WL_val (dd := some 8) rfl rfl rfl (r_load1 (v := .int .i64 _) rfl tb_sc3 (At.cell hm0_0 rfl)) ?_
  refine WL_val (dd := some 9) rfl rfl rfl (r_lss rfl rfl) ?_
  refine WL_split (dd := some 10) rfl rfl rfl (r_move (v := .bool _) rfl) (fun hs1_3 => ?_) (fun hs1_3 => ?_)
  ·
    try with_reducible replace hs1_3 := dec_t hs1_3
    refine WL_skip (dd := some 11) rfl rfl rfl ?_
    refine WL_skip (dd := some 12) rfl rfl rfl ?_
    refine WL_skip (dd := some 13) rfl rfl rfl ?_
    refine WL_val (dd := some 14) rfl rfl rfl (r_pick_t rfl (v := .bool true) rfl) ?_
    refine WL_val (dd := some 15) rfl rfl rfl (r_move (v := .bool true) rfl) ?_
    refine WL_skip (dd := some 16) rfl rfl rfl ?_
    refine WL_skip (dd := some 17) rfl rfl rfl ?_
    refine WL_skip (dd := some 18) rfl rfl rfl ?_
    refine WL_val (dd := some 19) rfl rfl rfl (r_pick_t rfl (v := .bool true) rfl) ?_
    refine WL_val (dd := some 20) rfl rfl rfl (r_move (v := .bool true) rfl) ?_
    refine WL_skip (dd := some 21) rfl rfl rfl ?_
    refine WL_skip (dd := some 22) rfl rfl rfl ?_
    refine WL_skip (dd := some 23) rfl rfl rfl ?_
    refine WL_val (dd := some 24) rfl rfl rfl (r_pick_t rfl (v := .bool true) rfl) ?_
    refine WL_val (dd := some 25) rfl rfl rfl (r_move (v := .bool true) rfl) ?_
    refine WL_skip (dd := some 26) rfl rfl rfl ?_
    refine WL_skip (dd := some 27) rfl rfl rfl ?_
    refine WL_skip (dd := some 28) rfl rfl rfl ?_
    refine WL_val (dd := some 29) rfl rfl rfl (r_pick_t rfl (v := .bool true) rfl) ?_
    refine WL_val (dd := some 30) rfl rfl rfl (r_move (v := .bool true) rfl) ?_
    refine WL_skip (dd := some 31) rfl rfl rfl ?_
    refine WL_skip (dd := some 32) rfl rfl rfl ?_
    refine WL_skip (dd := some 33) rfl rfl rfl ?_
    refine WL_val (dd := some 34) rfl rfl rfl (r_pick_t rfl (v := .bool true) rfl) ?_
    refine WL_val (dd := some 35) rfl rfl rfl (r_move (v := .bool true) rfl) ?_
    refine WL_skip (dd := some 36) rfl rfl rfl ?_
    refine WL_skip (dd := some 37) rfl rfl rfl ?_
    refine WL_skip (dd := some 38) rfl rfl rfl ?_
    refine WL_skip (dd := some 39) rfl rfl rfl ?_
    refine WL_val (dd := some 40) rfl rfl rfl (r_pick_t rfl (v := .bool true) rfl) ?_
    refine WL_nil ?_
    refine hK9 _ _ ?_
    clear hK9 K8
    refine WC_cond_true rfl ?_
    refine WC_seq (fun K10 hK11 => ?_)
    refine WC_region ?_
    refine WL_val (dd := some 2) rfl rfl rfl (r_assign (v := .bool false) rfl) ?_
    refine WL_nil ?_
    refine hK11 _ _ ?_
    clear hK11 K10
    refine WC_ret ?_
    repeat (first | refine thenQ_ret ?_ | refine blockQ_ret ?_)
    try clear hK7 K6
    refine ret_t (v := .bool false) rfl ?_
    refine ⟨hB, ?_⟩
    first | exact rightT_f (by omega) | exact rightT_k (k := k) (by omega) (ln_1 (by rw [← hck]; exact bool_t hs6_6)) | exact rightT_k (k := k) (by omega) (ln_2 hc2) | exact rightT_k (k := k) (by omega) (ln_3 (j := j) (by omega) (by have h1 : (T.ls.getD k ln0).os.getD j 0 < 0 := hs11_2; omega)) | exact rightT_k (k := k) (by omega) (ln_3 (j := j) (by omega) (by have h1 : (T.ls.getD k ln0).os.getD j 0 ≥ 3 := hc4; omega)) | exact rightT_t (by omega) (fun q hq' => hq q (by omega))
  ·
    try with_reducible replace hs1_3 := dec_f hs1_3
    refine WL_val (dd := some 11) rfl rfl rfl (r_fieldAddr (b := _) (o := _) rfl tb_fo24_0) ?_
    refine WL_val (dd := some 12) rfl rfl rfl (r_load1 (v := .int .i64 _) rfl tb_sc3 (At.cell hm0_0 rfl)) ?_
    refine WL_val (dd := some 13) rfl rfl rfl (r_gtr rfl rfl) ?_
    refine WL_val (dd := some 14) rfl rfl rfl (r_pick_f rfl (v := .bool _) rfl) ?_
    refine WL_split (dd := some 15) rfl rfl rfl (r_move (v := .bool _) rfl) (fun hs1_8 => ?_) (fun hs1_8 => ?_)
    ·
      try with_reducible replace hs1_8 := dec_t hs1_8
      refine WL_skip (dd := some 16) rfl rfl rfl ?_
      refine WL_skip (dd := some 17) rfl rfl rfl ?_
      refine WL_skip (dd := some 18) rfl rfl rfl ?_
      refine WL_val (dd := some 19) rfl rfl rfl (r_pick_t rfl (v := .bool true) rfl) ?_
      refine WL_val (dd := some 20) rfl rfl rfl (r_move (v := .bool true) rfl) ?_
      refine WL_skip (dd := some 21) rfl rfl rfl ?_
      refine WL_skip (dd := some 22) rfl rfl rfl ?_
      refine WL_skip (dd := some 23) rfl rfl rfl ?_
      refine WL_val (dd := some 24) rfl rfl rfl (r_pick_t rfl (v := .bool true) rfl) ?_
      refine WL_val (dd := some 25) rfl rfl rfl (r_move (v := .bool true) rfl) ?_
      refine WL_skip (dd := some 26) rfl rfl rfl ?_
      refine WL_skip (dd := some 27) rfl rfl rfl ?_
      refine WL_skip (dd := some 28) rfl rfl rfl ?_
      refine WL_val (dd := some 29) rfl rfl rfl (r_pick_t rfl (v := .bool true) rfl) ?_
      refine WL_val (dd := some 30) rfl rfl rfl (r_move (v := .bool true) rfl) ?_
      refine WL_skip (dd := some 31) rfl rfl rfl ?_
      refine WL_skip (dd := some 32) rfl rfl rfl ?_
      refine WL_skip (dd := some 33) rfl rfl rfl ?_
      refine WL_val (dd := some 34) rfl rfl rfl (r_pick_t rfl (v := .bool true) rfl) ?_
      refine WL_val (dd := some 35) rfl rfl rfl (r_move (v := .bool true) rfl) ?_
      refine WL_skip (dd := some 36) rfl rfl rfl ?_
      refine WL_skip (dd := some 37) rfl rfl rfl ?_
      refine WL_skip (dd := some 38) rfl rfl rfl ?_
      refine WL_skip (dd := some 39) rfl rfl rfl ?_
      refine WL_val (dd := some 40) rfl rfl rfl (r_pick_t rfl (v := .bool true) rfl) ?_
      refine WL_nil ?_
      refine hK9 _ _ ?_
      clear hK9 K8
      refine WC_cond_true rfl ?_
      refine WC_seq (fun K12 hK13 => ?_)
      refine WC_region ?_
      refine WL_val (dd := some 2) rfl rfl rfl (r_assign (v := .bool false) rfl) ?_
      refine WL_nil ?_
      refine hK13 _ _ ?_
      clear hK13 K12
      refine WC_ret ?_
      repeat (first | refine thenQ_ret ?_ | refine blockQ_ret ?_)
      try clear hK7 K6
      refine ret_t (v := .bool false) rfl ?_
      refine ⟨hB, ?_⟩
      first | exact rightT_f (by omega) | exact rightT_k (k := k) (by omega) (ln_1 (by rw [← hck]; exact bool_t hs6_6)) | exact rightT_k (k := k) (by omega) (ln_2 hc2) | exact rightT_k (k := k) (by omega) (ln_3 (j := j) (by omega) (by have h1 : (T.ls.getD k ln0).os.getD j 0 < 0 := hs11_2; omega)) | exact rightT_k (k := k) (by omega) (ln_3 (j := j) (by omega) (by have h1 : (T.ls.getD k ln0).os.getD j 0 ≥ 3 := hc4; omega)) | exact rightT_t (by omega) (fun q hq' => hq q (by omega))
    ·
      try with_reducible replace hs1_8 := dec_f hs1_8
      refine WL_val (dd := some 16) rfl rfl rfl (r_fieldAddr (b := _) (o := _) rfl tb_fo24_1) ?_
      refine WL_val (dd := some 17) rfl rfl rfl (r_load1 (v := .int .i64 _) rfl tb_sc3 (At.cell hm0_0 rfl)) ?_
      refine WL_val (dd := some 18) rfl rfl rfl (r_lss rfl rfl) ?_
      refine WL_val (dd := some 19) rfl rfl rfl (r_pick_f rfl (v := .bool _) rfl) ?_
      refine WL_split (dd := some 20) rfl rfl rfl (r_move (v := .bool _) rfl) (fun hs1_13 => ?_) (fun hs1_13 => ?_)
      ·
        try with_reducible replace hs1_13 := dec_t hs1_13
        refine WL_skip (dd := some 21) rfl rfl rfl ?_
        refine WL_skip (dd := some 22) rfl rfl rfl ?_
        refine WL_skip (dd := some 23) rfl rfl rfl ?_
        refine WL_val (dd := some 24) rfl rfl rfl (r_pick_t rfl (v := .bool true) rfl) ?_
        refine WL_val (dd := some 25) rfl rfl rfl (r_move (v := .bool true) rfl) ?_
        refine WL_skip (dd := some 26) rfl rfl rfl ?_
        refine WL_skip (dd := some 27) rfl rfl rfl ?_
        refine WL_skip (dd := some 28) rfl rfl rfl ?_
        refine WL_val (dd := some 29) rfl rfl rfl (r_pick_t rfl (v := .bool true) rfl) ?_
        refine WL_val (dd := some 30) rfl rfl rfl (r_move (v := .bool true) rfl) ?_
        refine WL_skip (dd := some 31) rfl rfl rfl ?_
        refine WL_skip (dd := some 32) rfl rfl rfl ?_
        refine WL_skip (dd := some 33) rfl rfl rfl ?_
        refine WL_val (dd := some 34) rfl rfl rfl (r_pick_t rfl (v := .bool true) rfl) ?_
        refine WL_val (dd := some 35) rfl rfl rfl (r_move (v := .bool true) rfl) ?_
        refine WL_skip (dd := some 36) rfl rfl rfl ?_
        refine WL_skip (dd := some 37) rfl rfl rfl ?_
        refine WL_skip (dd := some 38) rfl rfl rfl ?_
        refine WL_skip (dd := some 39) rfl rfl rfl ?_
        refine WL_val (dd := some 40) rfl rfl rfl (r_pick_t rfl (v := .bool true) rfl) ?_
        refine WL_nil ?_
        refine hK9 _ _ ?_
        clear hK9 K8
        refine WC_cond_true rfl ?_
        refine WC_seq (fun K14 hK15 => ?_)
        refine WC_region ?_
        refine WL_val (dd := some 2) rfl rfl rfl (r_assign (v := .bool false) rfl) ?_
        refine WL_nil ?_
        refine hK15 _ _ ?_
        clear hK15 K14
        refine WC_ret ?_
        repeat (first | refine thenQ_ret ?_ | refine blockQ_ret ?_)
        try clear hK7 K6
        refine ret_t (v := .bool false) rfl ?_
        refine ⟨hB, ?_⟩
        first | exact rightT_f (by omega) | exact rightT_k (k := k) (by omega) (ln_1 (by rw [← hck]; exact bool_t hs6_6)) | exact rightT_k (k := k) (by omega) (ln_2 hc2) | exact rightT_k (k := k) (by omega) (ln_3 (j := j) (by omega) (by have h1 : (T.ls.getD k ln0).os.getD j 0 < 0 := hs11_2; omega)) | exact rightT_k (k := k) (by omega) (ln_3 (j := j) (by omega) (by have h1 : (T.ls.getD k ln0).os.getD j 0 ≥ 3 := hc4; omega)) | exact rightT_t (by omega) (fun q hq' => hq q (by omega))
      ·
        try with_reducible replace hs1_13 := dec_f hs1_13
        refine WL_val (dd := some 21) rfl rfl rfl (r_fieldAddr (b := _) (o := _) rfl tb_fo24_1) ?_
        refine WL_val (dd := some 22) rfl rfl rfl (r_load1 (v := .int .i64 _) rfl tb_sc3 (At.cell hm0_0 rfl)) ?_
        refine WL_val (dd := some 23) rfl rfl rfl (r_gtr rfl rfl) ?_
        refine WL_val (dd := some 24) rfl rfl rfl (r_pick_f rfl (v := .bool _) rfl) ?_
        refine WL_split (dd := some 25) rfl rfl rfl (r_move (v := .bool _) rfl) (fun hs1_18 => ?_) (fun hs1_18 => ?_)
        ·
          try with_reducible replace hs1_18 := dec_t hs1_18
          refine WL_skip (dd := some 26) rfl rfl rfl ?_
          refine WL_skip (dd := some 27) rfl rfl rfl ?_
          refine WL_skip (dd := some 28) rfl rfl rfl ?_
          refine WL_val (dd := some 29) rfl rfl rfl (r_pick_t rfl (v := .bool true) rfl) ?_
          refine WL_val (dd := some 30) rfl rfl rfl (r_move (v := .bool true) rfl) ?_
          refine WL_skip (dd := some 31) rfl rfl rfl ?_
          refine WL_skip (dd := some 32) rfl rfl rfl ?_
          refine WL_skip (dd := some 33) rfl rfl rfl ?_
          refine WL_val (dd := some 34) rfl rfl rfl (r_pick_t rfl (v := .bool true) rfl) ?_
          refine WL_val (dd := some 35) rfl rfl rfl (r_move (v := .bool true) rfl) ?_
          refine WL_skip (dd := some 36) rfl rfl rfl ?_
          refine WL_skip (dd := some 37) rfl rfl rfl ?_
          refine WL_skip (dd := some 38) rfl rfl rfl ?_
          refine WL_skip (dd := some 39) rfl rfl rfl ?_
          refine WL_val (dd := some 40) rfl rfl rfl (r_pick_t rfl (v := .bool true) rfl) ?_
          refine WL_nil ?_
          refine hK9 _ _ ?_
          clear hK9 K8
          refine WC_cond_true rfl ?_
          refine WC_seq (fun K16 hK17 => ?_)
          refine WC_region ?_
          refine WL_val (dd := some 2) rfl rfl rfl (r_assign (v := .bool false) rfl) ?_
          refine WL_nil ?_
          refine hK17 _ _ ?_
          clear hK17 K16
          refine WC_ret ?_
          repeat (first | refine thenQ_ret ?_ | refine blockQ_ret ?_)
          try clear hK7 K6
          refine ret_t (v := .bool false) rfl ?_
          refine ⟨hB, ?_⟩
          first | exact rightT_f (by omega) | exact rightT_k (k := k) (by omega) (ln_1 (by rw [← hck]; exact bool_t hs6_6)) | exact rightT_k (k := k) (by omega) (ln_2 hc2) | exact rightT_k (k := k) (by omega) (ln_3 (j := j) (by omega) (by have h1 : (T.ls.getD k ln0).os.getD j 0 < 0 := hs11_2; omega)) | exact rightT_k (k := k) (by omega) (ln_3 (j := j) (by omega) (by have h1 : (T.ls.getD k ln0).os.getD j 0 ≥ 3 := hc4; omega)) | exact rightT_t (by omega) (fun q hq' => hq q (by omega))
        ·
          try with_reducible replace hs1_18 := dec_f hs1_18
          refine WL_val (dd := some 26) rfl rfl rfl (r_fieldAddr (b := _) (o := _) rfl tb_fo24_2) ?_
          refine WL_val (dd := some 27) rfl rfl rfl (r_load1 (v := .int .i64 _) rfl tb_sc3 (At.cell hm0_0 rfl)) ?_
          refine WL_val (dd := some 28) rfl rfl rfl (r_lss rfl rfl) ?_
          refine WL_val (dd := some 29) rfl rfl rfl (r_pick_f rfl (v := .bool _) rfl) ?_
          refine WL_split (dd := some 30) rfl rfl rfl (r_move (v := .bool _) rfl) (fun hs1_23 => ?_) (fun hs1_23 => ?_)
          ·
            try with_reducible replace hs1_23 := dec_t hs1_23
            refine WL_skip (dd := some 31) rfl rfl rfl ?_
            refine WL_skip (dd := some 32) rfl rfl rfl ?_
            refine WL_skip (dd := some 33) rfl rfl rfl ?_
            refine WL_val (dd := some 34) rfl rfl rfl (r_pick_t rfl (v := .bool true) rfl) ?_
            refine WL_val (dd := some 35) rfl rfl rfl (r_move (v := .bool true) rfl) ?_
            refine WL_skip (dd := some 36) rfl rfl rfl ?_
            refine WL_skip (dd := some 37) rfl rfl rfl ?_
            refine WL_skip (dd := some 38) rfl rfl rfl ?_
            refine WL_skip (dd := some 39) rfl rfl rfl ?_
            refine WL_val (dd := some 40) rfl rfl rfl (r_pick_t rfl (v := .bool true) rfl) ?_
            refine WL_nil ?_
            refine hK9 _ _ ?_
            clear hK9 K8
            refine WC_cond_true rfl ?_
            refine WC_seq (fun K18 hK19 => ?_)
            refine WC_region ?_
            refine WL_val (dd := some 2) rfl rfl rfl (r_assign (v := .bool false) rfl) ?_
            refine WL_nil ?_
            refine hK19 _ _ ?_
            clear hK19 K18
            refine WC_ret ?_
            repeat (first | refine thenQ_ret ?_ | refine blockQ_ret ?_)
            try clear hK7 K6
            refine ret_t (v := .bool false) rfl ?_
            refine ⟨hB, ?_⟩
            first | exact rightT_f (by omega) | exact rightT_k (k := k) (by omega) (ln_1 (by rw [← hck]; exact bool_t hs6_6)) | exact rightT_k (k := k) (by omega) (ln_2 hc2) | exact rightT_k (k := k) (by omega) (ln_3 (j := j) (by omega) (by have h1 : (T.ls.getD k ln0).os.getD j 0 < 0 := hs11_2; omega)) | exact rightT_k (k := k) (by omega) (ln_3 (j := j) (by omega) (by have h1 : (T.ls.getD k ln0).os.getD j 0 ≥ 3 := hc4; omega)) | exact rightT_t (by omega) (fun q hq' => hq q (by omega))
          ·
            try with_reducible replace hs1_23 := dec_f hs1_23
            refine WL_val (dd := some 31) rfl rfl rfl (r_fieldAddr (b := _) (o := _) rfl tb_fo24_2) ?_
            refine WL_val (dd := some 32) rfl rfl rfl (r_load1 (v := .int .i64 _) rfl tb_sc3 (At.cell hm0_0 rfl)) ?_
            refine WL_val (dd := some 33) rfl rfl rfl (r_gtr rfl rfl) ?_
            refine WL_val (dd := some 34) rfl rfl rfl (r_pick_f rfl (v := .bool _) rfl) ?_
            refine WL_split (dd := some 35) rfl rfl rfl (r_move (v := .bool _) rfl) (fun hs1_28 => ?_) (fun hs1_28 => ?_)
            ·
              try with_reducible replace hs1_28 := dec_t hs1_28
              refine WL_skip (dd := some 36) rfl rfl rfl ?_
              refine WL_skip (dd := some 37) rfl rfl rfl ?_
              refine WL_skip (dd := some 38) rfl rfl rfl ?_
              refine WL_skip (dd := some 39) rfl rfl rfl ?_
              refine WL_val (dd := some 40) rfl rfl rfl (r_pick_t rfl (v := .bool true) rfl) ?_
              refine WL_nil ?_
              refine hK9 _ _ ?_
              clear hK9 K8
              refine WC_cond_true rfl ?_
              refine WC_seq (fun K20 hK21 => ?_)
              refine WC_region ?_
              refine WL_val (dd := some 2) rfl rfl rfl (r_assign (v := .bool false) rfl) ?_
              refine WL_nil ?_
              refine hK21 _ _ ?_
              clear hK21 K20
              refine WC_ret ?_
              repeat (first | refine thenQ_ret ?_ | refine blockQ_ret ?_)
              try clear hK7 K6
              refine ret_t (v := .bool false) rfl ?_
              refine ⟨hB, ?_⟩
              first | exact rightT_f (by omega) | exact rightT_k (k := k) (by omega) (ln_1 (by rw [← hck]; exact bool_t hs6_6)) | exact rightT_k (k := k) (by omega) (ln_2 hc2) | exact rightT_k (k := k) (by omega) (ln_3 (j := j) (by omega) (by have h1 : (T.ls.getD k ln0).os.getD j 0 < 0 := hs11_2; omega)) | exact rightT_k (k := k) (by omega) (ln_3 (j := j) (by omega) (by have h1 : (T.ls.getD k ln0).os.getD j 0 ≥ 3 := hc4; omega)) | exact rightT_t (by omega) (fun q hq' => hq q (by omega))
            ·
              try with_reducible replace hs1_28 := dec_f hs1_28
              refine WL_val (dd := some 36) rfl rfl rfl (r_fieldAddr (b := _) (o := _) rfl tb_fo24_3) ?_
              refine WL_val (dd := some 37) rfl rfl rfl (r_load1 (v := lv) rfl tb_sc22 (At.cell hm0_0 rfl)) ?_
              refine WL_val (dd := some 38) rfl rfl rfl (r_lenS (v := lv) rfl (Below.slT hB hlv) tb_el22) ?_
              refine WL_val (dd := some 39) rfl rfl rfl (r_gtr rfl rfl) ?_
              refine WL_val (dd := some 40) rfl rfl rfl (r_pick_f rfl (v := .bool _) rfl) ?_
              refine WL_nil ?_
              refine hK9 _ _ ?_
              clear hK9 K8
              refine WC_cond (b := _) rfl (fun hc0 => ?_) (fun hc0 => ?_)
              ·
                try with_reducible replace hc0 := dec_t hc0
                refine WC_seq (fun K22 hK23 => ?_)
                refine WC_region ?_
                refine WL_val (dd := some 2) rfl rfl rfl (r_assign (v := .bool false) rfl) ?_
                refine WL_nil ?_
                refine hK23 _ _ ?_
                clear hK23 K22
                refine WC_ret ?_
                repeat (first | refine thenQ_ret ?_ | refine blockQ_ret ?_)
                try clear hK7 K6
                refine ret_t (v := .bool false) rfl ?_
                refine ⟨hB, ?_⟩
                first | exact rightT_f (by omega) | exact rightT_k (k := k) (by omega) (ln_1 (by rw [← hck]; exact bool_t hs6_6)) | exact rightT_k (k := k) (by omega) (ln_2 hc2) | exact rightT_k (k := k) (by omega) (ln_3 (j := j) (by omega) (by have h1 : (T.ls.getD k ln0).os.getD j 0 < 0 := hs11_2; omega)) | exact rightT_k (k := k) (by omega) (ln_3 (j := j) (by omega) (by have h1 : (T.ls.getD k ln0).os.getD j 0 ≥ 3 := hc4; omega)) | exact rightT_t (by omega) (fun q hq' => hq q (by omega))
              ·
                try with_reducible replace hc0 := dec_f hc0
                refine WC_skip ?_
                refine hK7 _ _ ?_
                clear hK7 K6
                refine WC_seq (fun K24 hK25 => ?_)
                refine WC_seq (fun K26 hK27 => ?_)
                refine WC_region ?_
                refine WL_val (dd := some 41) rfl rfl rfl (r_fieldAddr (b := _) (o := _) rfl tb_fo24_3) ?_
                refine WL_val (dd := some 42) rfl rfl rfl (r_load1 (v := lv) rfl tb_sc22 (At.cell hm0_0 rfl)) ?_
                refine WL_val (dd := some 43) rfl rfl rfl (r_lenS (v := lv) rfl (Below.slT hB hlv) tb_el22) ?_
                refine WL_val (dd := some 44) rfl rfl rfl (r_move (v := .int .i64 0) rfl) ?_
                refine WL_nil ?_
                refine hK27 _ _ ?_
                clear hK27 K26
                refine WC_block ?_
                refine WC_loop (σ := (Nat)) [2, 4, 6, 44, 45, 46, 47, 48, 49, 50, 51, 52, 53, 54, 55, 56, 57, 58, 59, 60, 61, 62, 63, 64, 65, 66, 67, 68, 69, 70, 71, 72, 73, 74, 75, 76] (fun k => [(44, .int .i64 (k : Int))]) (fun k W => (Below w.heap.size w W) ∧ (At W b0_0 _ 24) ∧ (k ≤ T.ls.length) ∧ (∀ q, q < k → lnOk T.ni T.no (T.ls.getD q ln0) = true) ∧ (True)) (fun k => T.ls.length - k) (0) ⟨rfl, trivial⟩ ⟨hB, hm0_0, (Nat.zero_le _), upTo_zero, trivial⟩ ?_
                clear hB hm0_0
                rintro k g29 W28 ⟨hB, hm0_0, hk, hq, _⟩ J30 hJ31
                refine WC_seq (fun K32 hK33 => ?_)
                refine WC_region ?_
                refine WL_val (dd := some 45) rfl rfl rfl (r_lss rfl rfl) ?_
                refine WL_nil ?_
                refine hK33 _ _ ?_
                clear hK33 K32
                refine WC_seq (fun K34 hK35 => ?_)
                refine WC_cond (b := _) rfl (fun hc1 => ?_) (fun hc1 => ?_)
                ·
                  try with_reducible replace hc1 := dec_t hc1
                  refine WC_skip ?_
                  refine hK35 _ _ ?_
                  clear hK35 K34
                  refine WC_seq (fun K36 hK37 => ?_)
                  refine WC_block ?_
                  refine WC_seq (fun K38 hK39 => ?_)
                  have hck := hls.c k (by omega)
                  have hbk := hmb k (by omega)
                  have hb1 : (vs.getD k lv0).c.m < 256 ∧ (vs.getD k lv0).c.v < 256 := by rw [hck]; exact hbk
                  refine WC_region ?_
                  refine WL_val (dd := some 46) rfl rfl rfl (r_idxS (v := lv) rfl (Below.slT hB hlv) rfl tb_el22 (by omega) (by omega)) ?_
                  refine WL_val (dd := some 47) rfl rfl rfl (r_load3 rfl tb_ag45 (SlT.cell (Below.slT hB hlv) encLn_len lv0 (by omega) (by omega) 0 rfl) (SlT.cell (Below.slT hB hlv) encLn_len lv0 (by omega) (by omega) 1 rfl) (SlT.cell (Below.slT hB hlv) encLn_len lv0 (by omega) (by omega) 2 rfl)) ?_
                  have hp5_1 : SlT encI 1 w ((vs.getD k lv0).o) ((T.ls.getD k ln0).os) := hls.o k (by omega)
                  refine WL_step (dd := some 4) rfl rfl rfl (Y_alloc tb_z45 rfl (fun b5_2 W40 hb41 hE42 hm5_2 => ?_))
                  have lo_b5_2 : w.heap.size ≤ b5_2 := hb41 ▸ (Below.size hB)
                  clear hb41
                  replace hB := below_ext hB hE42 (Nat.le_refl _)
                  replace hm0_0 := hE42.at hm0_0
                  clear hE42
                  refine WL_step (dd := none) rfl rfl rfl (Y_storeW rfl rfl tb_ag45 rfl hm5_2 rfl (by exact one_ln (SlT.one hp5_1)) (fun W43 hG44 hm45 => ?_))
                  replace hB := below_grown hB hG44 (Nat.le_refl _) (fun j hj => by cases hj; exact lo_b5_2)
                  replace hm0_0 := At.grownAt hm0_0 hm5_2 hG44 (by decide)
                  clear hG44 hm5_2
                  have hm5_2 := hm45
                  clear hm45
                  refine WL_nil ?_
                  refine hK39 _ _ ?_
                  clear hK39 K38
                  refine WC_seq (fun K46 hK47 => ?_)
                  refine WC_seq (fun K48 hK49 => ?_)
                  refine WC_region ?_
                  refine WL_val (dd := some 48) rfl rfl rfl (r_fieldAddr (b := _) (o := _) rfl tb_fo45_0) ?_
                  refine WL_val (dd := some 49) rfl rfl rfl (r_load2 rfl tb_ag42 (At.cell hm5_2 rfl) (At.cell hm5_2 rfl)) ?_
                  refine WL_val (dd := some 50) rfl rfl rfl (r_fieldAddr (b := _) (o := _) rfl tb_fo24_1) ?_
                  refine WL_val (dd := some 51) rfl rfl rfl (r_load1 (v := .int .i64 _) rfl tb_sc3 (At.cell hm0_0 rfl)) ?_
                  refine WL_call (dd := some 52) rfl rfl rfl (r_call2 tb_c27 (v0 := .agg #[_, _]) rfl (v1 := .int .i64 _) rfl) (C_cube_Right (vs.getD k lv0).c.m (vs.getD k lv0).c.v _ _ hb1.1 hb1.2) (fun v6_4 W50 hE51 hP6_4 => ?_)
                  have hsz52 := (Below.size hB)
                  replace hB := below_ext hB hE51 (Nat.le_refl _)
                  replace hm0_0 := hE51.at hm0_0
                  replace hm5_2 := hE51.at hm5_2
                  clear hE51
                  clear hsz52
                  obtain rfl := hP6_4
                  refine WL_val (dd := some 53) rfl rfl rfl (r_not rfl) ?_
                  refine WL_split (dd := some 54) rfl rfl rfl (r_move (v := .bool _) rfl) (fun hs6_6 => ?_) (fun hs6_6 => ?_)
                  ·
                    try with_reducible replace hs6_6 := dec_t hs6_6
                    refine WL_skip (dd := some 55) rfl rfl rfl ?_
                    refine WL_skip (dd := some 56) rfl rfl rfl ?_
                    refine WL_skip (dd := some 57) rfl rfl rfl ?_
                    refine WL_skip (dd := some 58) rfl rfl rfl ?_
                    refine WL_skip (dd := some 59) rfl rfl rfl ?_
                    refine WL_skip (dd := some 60) rfl rfl rfl ?_
                    refine WL_val (dd := some 61) rfl rfl rfl (r_pick_t rfl (v := .bool true) rfl) ?_
                    refine WL_nil ?_
                    refine hK49 _ _ ?_
                    clear hK49 K48
                    refine WC_cond_true rfl ?_
                    refine WC_seq (fun K53 hK54 => ?_)
                    refine WC_region ?_
                    refine WL_val (dd := some 2) rfl rfl rfl (r_assign (v := .bool false) rfl) ?_
                    refine WL_nil ?_
                    refine hK54 _ _ ?_
                    clear hK54 K53
                    refine WC_ret ?_
                    repeat (first | refine thenQ_ret ?_ | refine blockQ_ret ?_)
                    try clear hK47 K46
                    try clear hK37 K36
                    try clear hJ31 J30
                    try clear hK25 K24
                    refine ret_t (v := .bool false) rfl ?_
                    refine ⟨hB, ?_⟩
                    first | exact rightT_f (by omega) | exact rightT_k (k := k) (by omega) (ln_1 (by rw [← hck]; exact bool_t hs6_6)) | exact rightT_k (k := k) (by omega) (ln_2 hc2) | exact rightT_k (k := k) (by omega) (ln_3 (j := j) (by omega) (by have h1 : (T.ls.getD k ln0).os.getD j 0 < 0 := hs11_2; omega)) | exact rightT_k (k := k) (by omega) (ln_3 (j := j) (by omega) (by have h1 : (T.ls.getD k ln0).os.getD j 0 ≥ 3 := hc4; omega)) | exact rightT_t (by omega) (fun q hq' => hq q (by omega))
                  ·
                    try with_reducible replace hs6_6 := dec_f hs6_6
                    refine WL_val (dd := some 55) rfl rfl rfl (r_fieldAddr (b := _) (o := _) rfl tb_fo45_1) ?_
                    refine WL_val (dd := some 56) rfl rfl rfl (r_load1 (v := (vs.getD k lv0).o) rfl tb_sc43 (At.cell hm5_2 rfl)) ?_
                    refine WL_val (dd := some 57) rfl rfl rfl (r_lenS (v := (vs.getD k lv0).o) rfl (Below.slT hB hp5_1) tb_el43) ?_
                    refine WL_val (dd := some 58) rfl rfl rfl (r_fieldAddr (b := _) (o := _) rfl tb_fo24_2) ?_
                    refine WL_val (dd := some 59) rfl rfl rfl (r_load1 (v := .int .i64 _) rfl tb_sc3 (At.cell hm0_0 rfl)) ?_
                    refine WL_val (dd := some 60) rfl rfl rfl (r_neq rfl rfl) ?_
                    refine WL_val (dd := some 61) rfl rfl rfl (r_pick_f rfl (v := .bool _) rfl) ?_
                    refine WL_nil ?_
                    refine hK49 _ _ ?_
                    clear hK49 K48
                    refine WC_cond (b := _) rfl (fun hc2 => ?_) (fun hc2 => ?_)
                    ·
                      try with_reducible replace hc2 := dec_t hc2
                      refine WC_seq (fun K55 hK56 => ?_)
                      refine WC_region ?_
                      refine WL_val (dd := some 2) rfl rfl rfl (r_assign (v := .bool false) rfl) ?_
                      refine WL_nil ?_
                      refine hK56 _ _ ?_
                      clear hK56 K55
                      refine WC_ret ?_
                      repeat (first | refine thenQ_ret ?_ | refine blockQ_ret ?_)
                      try clear hK47 K46
                      try clear hK37 K36
                      try clear hJ31 J30
                      try clear hK25 K24
                      refine ret_t (v := .bool false) rfl ?_
                      refine ⟨hB, ?_⟩
                      first | exact rightT_f (by omega) | exact rightT_k (k := k) (by omega) (ln_1 (by rw [← hck]; exact bool_t hs6_6)) | exact rightT_k (k := k) (by omega) (ln_2 hc2) | exact rightT_k (k := k) (by omega) (ln_3 (j := j) (by omega) (by have h1 : (T.ls.getD k ln0).os.getD j 0 < 0 := hs11_2; omega)) | exact rightT_k (k := k) (by omega) (ln_3 (j := j) (by omega) (by have h1 : (T.ls.getD k ln0).os.getD j 0 ≥ 3 := hc4; omega)) | exact rightT_t (by omega) (fun q hq' => hq q (by omega))
                    ·
                      try with_reducible replace hc2 := dec_f hc2
                      refine WC_skip ?_
                      refine hK47 _ _ ?_
                      clear hK47 K46
                      refine WC_seq (fun K57 hK58 => ?_)
                      refine WC_region ?_
                      refine WL_val (dd := some 62) rfl rfl rfl (r_fieldAddr (b := _) (o := _) rfl tb_fo45_1) ?_
                      refine WL_val (dd := some 63) rfl rfl rfl (r_load1 (v := (vs.getD k lv0).o) rfl tb_sc43 (At.cell hm5_2 rfl)) ?_
                      refine WL_val (dd := some 64) rfl rfl rfl (r_lenS (v := (vs.getD k lv0).o) rfl (Below.slT hB hp5_1) tb_el43) ?_
                      refine WL_val (dd := some 65) rfl rfl rfl (r_move (v := .int .i64 0) rfl) ?_
                      refine WL_nil ?_
                      refine hK58 _ _ ?_
                      clear hK58 K57
                      refine WC_block ?_
                      refine WC_loop (σ := (Nat)) [2, 6, 65, 66, 67, 68, 69, 70, 71, 72, 73, 74, 75] (fun j => [(65, .int .i64 (j : Int))]) (fun j W => (Below w.heap.size w W) ∧ (At W b0_0 _ 24) ∧ (At W b5_2 _ 45) ∧ (j ≤ (T.ls.getD k ln0).os.length) ∧ (∀ q, q < j → 0 ≤ (T.ls.getD k ln0).os.getD q 0 ∧ (T.ls.getD k ln0).os.getD q 0 < 3) ∧ (True)) (fun j => (T.ls.getD k ln0).os.length - j) (0) ⟨rfl, trivial⟩ ⟨hB, hm0_0, hm5_2, (Nat.zero_le _), upTo_zero, trivial⟩ ?_
                      clear hB hm0_0 hm5_2
                      rintro j g60 W59 ⟨hB, hm0_0, hm5_2, hj, hqj, _⟩ J61 hJ62
                      refine WC_seq (fun K63 hK64 => ?_)
                      refine WC_region ?_
                      refine WL_val (dd := some 66) rfl rfl rfl (r_lss rfl rfl) ?_
                      refine WL_nil ?_
                      refine hK64 _ _ ?_
                      clear hK64 K63
                      refine WC_seq (fun K65 hK66 => ?_)
                      refine WC_cond (b := _) rfl (fun hc3 => ?_) (fun hc3 => ?_)
                      ·
                        try with_reducible replace hc3 := dec_t hc3
                        refine WC_skip ?_
                        refine hK66 _ _ ?_
                        clear hK66 K65
                        refine WC_seq (fun K67 hK68 => ?_)
                        refine WC_block ?_
                        refine WC_seq (fun K69 hK70 => ?_)
                        refine WC_region ?_
                        refine WL_val (dd := some 67) rfl rfl rfl (r_idxS (v := (vs.getD k lv0).o) rfl (Below.slT hB hp5_1) rfl tb_el43 (by omega) (by omega)) ?_
                        refine WL_val (dd := some 68) rfl rfl rfl (r_load1 (v := .int .i64 _) rfl tb_sc3 (SlT.cell (Below.slT hB hp5_1) encI_len 0 (by omega) (by omega) 0 rfl)) ?_
                        refine WL_val (dd := some 6) rfl rfl rfl (r_assign (v := .int .i64 _) rfl) ?_
                        refine WL_nil ?_
                        refine hK70 _ _ ?_
                        clear hK70 K69
                        refine WC_seq (fun K71 hK72 => ?_)
                        refine WC_region ?_
                        refine WL_val (dd := some 69) rfl rfl rfl (r_move (v := .int .i64 _) rfl) ?_
                        refine WL_val (dd := some 70) rfl rfl rfl (r_lss rfl rfl) ?_
                        refine WL_split (dd := some 71) rfl rfl rfl (r_move (v := .bool _) rfl) (fun hs11_2 => ?_) (fun hs11_2 => ?_)
                        ·
                          try with_reducible replace hs11_2 := dec_t hs11_2
                          refine WL_skip (dd := some 72) rfl rfl rfl ?_
                          refine WL_skip (dd := some 73) rfl rfl rfl ?_
                          refine WL_val (dd := some 74) rfl rfl rfl (r_pick_t rfl (v := .bool true) rfl) ?_
                          refine WL_nil ?_
                          refine hK72 _ _ ?_
                          clear hK72 K71
                          refine WC_cond_true rfl ?_
                          refine WC_seq (fun K73 hK74 => ?_)
                          refine WC_region ?_
                          refine WL_val (dd := some 2) rfl rfl rfl (r_assign (v := .bool false) rfl) ?_
                          refine WL_nil ?_
                          refine hK74 _ _ ?_
                          clear hK74 K73
                          refine WC_ret ?_
                          repeat (first | refine thenQ_ret ?_ | refine blockQ_ret ?_)
                          try clear hK68 K67
                          try clear hJ62 J61
                          try clear hK37 K36
                          try clear hJ31 J30
                          try clear hK25 K24
                          refine ret_t (v := .bool false) rfl ?_
                          refine ⟨hB, ?_⟩
                          first | exact rightT_f (by omega) | exact rightT_k (k := k) (by omega) (ln_1 (by rw [← hck]; exact bool_t hs6_6)) | exact rightT_k (k := k) (by omega) (ln_2 hc2) | exact rightT_k (k := k) (by omega) (ln_3 (j := j) (by omega) (by have h1 : (T.ls.getD k ln0).os.getD j 0 < 0 := hs11_2; omega)) | exact rightT_k (k := k) (by omega) (ln_3 (j := j) (by omega) (by have h1 : (T.ls.getD k ln0).os.getD j 0 ≥ 3 := hc4; omega)) | exact rightT_t (by omega) (fun q hq' => hq q (by omega))
                        ·
                          try with_reducible replace hs11_2 := dec_f hs11_2
                          refine WL_val (dd := some 72) rfl rfl rfl (r_move (v := .int .i64 _) rfl) ?_
                          refine WL_val (dd := some 73) rfl rfl rfl (r_geq rfl rfl) ?_
                          refine WL_val (dd := some 74) rfl rfl rfl (r_pick_f rfl (v := .bool _) rfl) ?_
                          refine WL_nil ?_
                          refine hK72 _ _ ?_
                          clear hK72 K71
                          refine WC_cond (b := _) rfl (fun hc4 => ?_) (fun hc4 => ?_)
                          ·
                            try with_reducible replace hc4 := dec_t hc4
                            refine WC_seq (fun K75 hK76 => ?_)
                            refine WC_region ?_
                            refine WL_val (dd := some 2) rfl rfl rfl (r_assign (v := .bool false) rfl) ?_
                            refine WL_nil ?_
                            refine hK76 _ _ ?_
                            clear hK76 K75
                            refine WC_ret ?_
                            repeat (first | refine thenQ_ret ?_ | refine blockQ_ret ?_)
                            try clear hK68 K67
                            try clear hJ62 J61
                            try clear hK37 K36
                            try clear hJ31 J30
                            try clear hK25 K24
                            refine ret_t (v := .bool false) rfl ?_
                            refine ⟨hB, ?_⟩
                            first | exact rightT_f (by omega) | exact rightT_k (k := k) (by omega) (ln_1 (by rw [← hck]; exact bool_t hs6_6)) | exact rightT_k (k := k) (by omega) (ln_2 hc2) | exact rightT_k (k := k) (by omega) (ln_3 (j := j) (by omega) (by have h1 : (T.ls.getD k ln0).os.getD j 0 < 0 := hs11_2; omega)) | exact rightT_k (k := k) (by omega) (ln_3 (j := j) (by omega) (by have h1 : (T.ls.getD k ln0).os.getD j 0 ≥ 3 := hc4; omega)) | exact rightT_t (by omega) (fun q hq' => hq q (by omega))
                          ·
                            try with_reducible replace hc4 := dec_f hc4
                            refine WC_skip ?_
                            refine hK68 _ _ ?_
                            clear hK68 K67
                            have hs1 : ¬ (T.ls.getD k ln0).os.getD j 0 < 0 := hs11_2
                            have hs2 : ¬ (T.ls.getD k ln0).os.getD j 0 ≥ 3 := hc4
                            refine WC_region ?_
                            refine WL_val (dd := some 75) rfl rfl rfl (r_addI rfl rfl (by omega) (by omega)) ?_
                            refine WL_val (dd := some 65) rfl rfl rfl (r_move (v := .int .i64 _) rfl) ?_
                            refine WL_nil ?_
                            refine hJ62 _ _ (j + 1) ?_ ?_ ?_ ?_
                            · repeat (first | exact agree.mask _ _ _ | refine agree.updo ?_ rfl _ | refine agree.updL ?_ _ rfl | refine agree.maskS rfl ?_)
                            · exact ⟨rfl, trivial⟩
                            · exact ⟨hB, hm0_0, hm5_2, (by omega), (upTo_succ hqj (by omega)), trivial⟩
                            · show (T.ls.getD k ln0).os.length - (j + 1) < (T.ls.getD k ln0).os.length - j; omega
                      ·
                        try with_reducible replace hc3 := dec_f hc3
                        refine WC_exit ?_
                        refine hK37 _ _ ?_
                        clear hK66 K65
                        clear hJ62 J61
                        clear hK37 K36
                        have hqj2 : ∀ q, q < (T.ls.getD k ln0).os.length → 0 ≤ (T.ls.getD k ln0).os.getD q 0 ∧ (T.ls.getD k ln0).os.getD q 0 < 3 := fun q hq' => hqj q (by omega)
                        refine WC_region ?_
                        refine WL_val (dd := some 76) rfl rfl rfl (r_addI rfl rfl (by omega) (by omega)) ?_
                        refine WL_val (dd := some 44) rfl rfl rfl (r_move (v := .int .i64 _) rfl) ?_
                        refine WL_nil ?_
                        refine hJ31 _ _ (k + 1) ?_ ?_ ?_ ?_
                        · repeat (first | exact agree.mask _ _ _ | refine agree.updo ?_ rfl _ | refine agree.updL ?_ _ rfl | refine agree.maskS rfl ?_)
                        · exact ⟨rfl, trivial⟩
                        · exact ⟨hB, hm0_0, (by omega), (upTo_succ hq (ln_4 (by rw [← hck]; exact bool_f hs6_6) (Decidable.of_not_not hc2) hqj2)), trivial⟩
                        · first | omega | (dsimp only; omega)
                ·
                  try with_reducible replace hc1 := dec_f hc1
                  refine WC_exit ?_
                  refine hK25 _ _ ?_
                  clear hK35 K34
                  clear hJ31 J30
                  clear hK25 K24
                  refine WC_seq (fun K77 hK78 => ?_)
                  refine WC_region ?_
                  refine WL_val (dd := some 2) rfl rfl rfl (r_assign (v := .bool true) rfl) ?_
                  refine WL_nil ?_
                  refine hK78 _ _ ?_
                  clear hK78 K77
                  refine WC_ret ?_
                  repeat (first | refine thenQ_ret ?_ | refine blockQ_ret ?_)
                  refine ret_t (v := .bool true) rfl ?_
                  refine ⟨hB, ?_⟩
                  first | exact rightT_f (by omega) | exact rightT_k (k := k) (by omega) (ln_1 (by rw [← hck]; exact bool_t hs6_6)) | exact rightT_k (k := k) (by omega) (ln_2 hc2) | exact rightT_k (k := k) (by omega) (ln_3 (j := j) (by omega) (by have h1 : (T.ls.getD k ln0).os.getD j 0 < 0 := hs11_2; omega)) | exact rightT_k (k := k) (by omega) (ln_3 (j := j) (by omega) (by have h1 : (T.ls.getD k ln0).os.getD j 0 ≥ 3 := hc4; omega)) | exact rightT_t (by omega) (fun q hq' => hq q (by omega))

theorem C_drawknifelaw03_Great (T : Tb) (lv : Value) (vs : List LnV) (w : World) (hlv : SlT encLn 3 w lv vs) (hls : LsAt w vs T.ls) (hmb : ∀ i, i < T.ls.length → (T.ls.getD i ln0).c.m < 256 ∧ (T.ls.getD i ln0).c.v < 256) (hvl : vs.length ≤ 9223372036854775807) :
    Fn Tryd.prog 7 #[.agg #[.int .i64 T.kind, .int .i64 T.ni, .int .i64 T.no, lv]] w fun v w' => v = .bool (greatT T) := by
  refine Fn_intro (n := 23) Tryd.func7 rfl rfl (Nat.le_of_ble_eq_true rfl) ?_
  have hB : Below w.heap.size w w := Below.refl _ _
  have hle := hls.len
  refine WC_seq (fun K1 hK2 => ?_)
  refine WC_region ?_
  refine WL_step (dd := some 1) rfl rfl rfl (Y_box (c := #[_, _, _, _]) rfl rfl (fun b0_0 W3 hb4 hE5 hm0_0 => ?_))
  have lo_b0_0 : w.heap.size ≤ b0_0 := hb4 ▸ (Below.size hB)
  clear hb4
  replace hB := below_ext hB hE5 (Nat.le_refl _)
  clear hE5
  refine WL_val (dd := some 2) rfl rfl rfl (r_assign (v := .bool false) rfl) ?_
  refine WL_nil ?_
  refine hK2 _ _ ?_
  clear hK2 K1
  refine WC_seq (fun K6 hK7 => ?_)
  refine WC_seq (fun K8 hK9 => ?_)
  refine WC_region ?_
  refine WL_val (dd := some 3) rfl rfl rfl (r_assign (v := .int .i64 0) rfl) ?_
  refine WL_nil ?_
  refine hK9 _ _ ?_
  clear hK9 K8
  refine WC_block ?_
  refine WC_loop (σ := (Nat)) [2, 3, 4, 5, 6, 7, 8, 9, 10, 11, 12, 13, 14, 15, 16, 17, 18] (fun k => [(3, .int .i64 (k : Int))]) (fun k W => (Below w.heap.size w W) ∧ (At W b0_0 _ 24) ∧ (k ≤ T.ls.length) ∧ (∀ q, q < k → ¬ ((T.ls.getD q ln0).os.length : Int) > 20) ∧ (True)) (fun k => T.ls.length - k) (0) ⟨rfl, trivial⟩ ⟨hB, hm0_0, (Nat.zero_le _), upTo_zero, trivial⟩ ?_
  clear hB hm0_0
  rintro k g11 W10 ⟨hB, hm0_0, hk, hq, _⟩ J12 hJ13
  refine WC_seq (fun K14 hK15 => ?_)
  refine WC_seq (fun K16 hK17 => ?_)
  refine WC_region ?_
  refine WL_val (dd := some 4) rfl rfl rfl (r_move (v := .int .i64 _) rfl) ?_
  refine WL_val (dd := some 5) rfl rfl rfl (r_fieldAddr (b := _) (o := _) rfl tb_fo24_3) ?_
  refine WL_val (dd := some 6) rfl rfl rfl (r_load1 (v := lv) rfl tb_sc22 (At.cell hm0_0 rfl)) ?_
  refine WL_val (dd := some 7) rfl rfl rfl (r_lenS (v := lv) rfl (Below.slT hB hlv) tb_el22) ?_
  refine WL_val (dd := some 8) rfl rfl rfl (r_lss rfl rfl) ?_
  refine WL_nil ?_
  refine hK17 _ _ ?_
  clear hK17 K16
  refine WC_cond (b := _) rfl (fun hc0 => ?_) (fun hc0 => ?_)
  ·
    try with_reducible replace hc0 := dec_t hc0
    refine WC_skip ?_
    refine hK15 _ _ ?_
    clear hK15 K14
    refine WC_seq (fun K18 hK19 => ?_)
    refine WC_block ?_
    refine WC_seq (fun K20 hK21 => ?_)
    refine WC_region ?_
    refine WL_val (dd := some 11) rfl rfl rfl (r_fieldAddr (b := _) (o := _) rfl tb_fo24_3) ?_
    refine WL_val (dd := some 12) rfl rfl rfl (r_load1 (v := lv) rfl tb_sc22 (At.cell hm0_0 rfl)) ?_
    refine WL_val (dd := some 13) rfl rfl rfl (r_move (v := .int .i64 _) rfl) ?_
    refine WL_val (dd := some 14) rfl rfl rfl (r_idxS (v := lv) rfl (Below.slT hB hlv) rfl tb_el22 (by omega) (by omega)) ?_
    refine WL_val (dd := some 15) rfl rfl rfl (r_fieldAddr (b := _) (o := _) rfl tb_fo45_1) ?_
    refine WL_val (dd := some 16) rfl rfl rfl (r_load1 (v := (vs.getD k lv0).o) rfl tb_sc43 (SlT.cell (Below.slT hB hlv) encLn_len lv0 (by omega) (by omega) 2 rfl)) ?_
    have hp4_5 : SlT encI 1 w ((vs.getD k lv0).o) ((T.ls.getD k ln0).os) := hls.o k (by omega)
    refine WL_val (dd := some 17) rfl rfl rfl (r_lenS (v := (vs.getD k lv0).o) rfl (Below.slT hB hp4_5) tb_el43) ?_
    refine WL_val (dd := some 18) rfl rfl rfl (r_gtr rfl rfl) ?_
    refine WL_nil ?_
    refine hK21 _ _ ?_
    clear hK21 K20
    refine WC_cond (b := _) rfl (fun hc1 => ?_) (fun hc1 => ?_)
    ·
      try with_reducible replace hc1 := dec_t hc1
      refine WC_seq (fun K22 hK23 => ?_)
      refine WC_region ?_
      refine WL_val (dd := some 2) rfl rfl rfl (r_assign (v := .bool true) rfl) ?_
      refine WL_nil ?_
      refine hK23 _ _ ?_
      clear hK23 K22
      refine WC_ret ?_
      repeat (first | refine thenQ_ret ?_ | refine blockQ_ret ?_)
      try clear hK19 K18
      try clear hJ13 J12
      try clear hK7 K6
      refine ret_t (v := .bool true) rfl ?_
      refine ⟨hB, ?_⟩
      first | exact greatT_y (k := k) (by omega) hc1 | exact greatT_n hle (fun q hq' => hq q (by omega))
    ·
      try with_reducible replace hc1 := dec_f hc1
      refine WC_skip ?_
      refine hK19 _ _ ?_
      clear hK19 K18
      refine WC_region ?_
      refine WL_val (dd := some 9) rfl rfl rfl (r_move (v := .int .i64 _) rfl) ?_
      refine WL_val (dd := some 10) rfl rfl rfl (r_addI rfl rfl (by omega) (by omega)) ?_
      refine WL_val (dd := some 3) rfl rfl rfl (r_assign (v := .int .i64 _) rfl) ?_
      refine WL_nil ?_
      refine hJ13 _ _ (k + 1) ?_ ?_ ?_ ?_
      · repeat (first | exact agree.mask _ _ _ | refine agree.updo ?_ rfl _ | refine agree.updL ?_ _ rfl | refine agree.maskS rfl ?_)
      · exact ⟨rfl, trivial⟩
      · exact ⟨hB, hm0_0, (by omega), (upTo_succ hq hc1), trivial⟩
      · first | omega | (dsimp only; omega)
  ·
    try with_reducible replace hc0 := dec_f hc0
    refine WC_exit ?_
    refine hK7 _ _ ?_
    clear hK15 K14
    clear hJ13 J12
    clear hK7 K6
    refine WC_seq (fun K24 hK25 => ?_)
    refine WC_region ?_
    refine WL_val (dd := some 19) rfl rfl rfl (r_fieldAddr (b := _) (o := _) rfl tb_fo24_3) ?_
    refine WL_val (dd := some 20) rfl rfl rfl (r_load1 (v := lv) rfl tb_sc22 (At.cell hm0_0 rfl)) ?_
    refine WL_val (dd := some 21) rfl rfl rfl (r_lenS (v := lv) rfl (Below.slT hB hlv) tb_el22) ?_
    refine WL_val (dd := some 22) rfl rfl rfl (r_gtr rfl rfl) ?_
    refine WL_val (dd := some 2) rfl rfl rfl (r_assign (v := .bool _) rfl) ?_
    refine WL_nil ?_
    refine hK25 _ _ ?_
    clear hK25 K24
    refine WC_ret ?_
    repeat (first | refine thenQ_ret ?_ | refine blockQ_ret ?_)
    refine ret_t (v := .bool _) rfl ?_
    refine ⟨hB, ?_⟩
    first | exact greatT_y (k := k) (by omega) hc1 | exact greatT_n hle (fun q hq' => hq q (by omega))

theorem C_drawkniferef03_Right (T : Tb) (lv : Value) (vs : List LnV) (w : World) (hlv : SlT encLn 3 w lv vs) (hls : LsAt w vs T.ls) (hmb : ∀ i, i < T.ls.length → (T.ls.getD i ln0).c.m < 256 ∧ (T.ls.getD i ln0).c.v < 256) :
    Fn Tryd.prog 10 #[.agg #[.int .i64 T.kind, .int .i64 T.ni, .int .i64 T.no, lv]] w fun v w' => v = .bool (rightT T) := by
  refine Fn_intro (n := 95) Tryd.func10 rfl rfl (Nat.le_of_ble_eq_true rfl) ?_
  have hB : Below w.heap.size w w := Below.refl _ _
  have hle := hls.len
  refine WC_seq (fun K1 hK2 => ?_)
  refine WC_region ?_
  refine WL_step (dd := some 1) rfl rfl rfl (Y_box (c := #[_, _, _, _]) rfl rfl (fun b0_0 W3 hb4 hE5 hm0_0 => ?_))
  have lo_b0_0 : w.heap.size ≤ b0_0 := hb4 ▸ (Below.size hB)
  clear hb4
  replace hB := below_ext hB hE5 (Nat.le_refl _)
  clear hE5
  refine WL_val (dd := some 2) rfl rfl rfl (r_assign (v := .bool false) rfl) ?_
  refine WL_nil ?_
  refine hK2 _ _ ?_
  clear hK2 K1
  refine WC_seq (fun K6 hK7 => ?_)
  refine WC_seq (fun K8 hK9 => ?_)
  refine WC_region ?_
  refine WL_val (dd := some 6) rfl rfl rfl (r_fieldAddr (b := _) (o := _) rfl tb_fo24_0) ?_
  refine WL_val (dd := some 7) rfl rfl rfl (r_load1 (v := .int .i64 _) rfl tb_sc3 (At.cell hm0_0 rfl)) ?_
  refine WL_val (dd := some 8) rfl rfl rfl (r_lss rfl rfl) ?_
  refine WL_split (dd := some 9) rfl rfl rfl (r_move (v := .bool _) rfl) (fun hs1_3 => ?_) (fun hs1_3 => ?_)
  ·
    try with_reducible replace hs1_3 := dec_t hs1_3
    refine WL_skip (dd := some 10) rfl rfl rfl ?_
    refine WL_skip (dd := some 11) rfl rfl rfl ?_
    refine WL_skip (dd := some 12) rfl rfl rfl ?_
    refine WL_val (dd := some 13) rfl rfl rfl (r_pick_t rfl (v := .bool true) rfl) ?_
    refine WL_val (dd := some 14) rfl rfl rfl (r_move (v := .bool true) rfl) ?_
    refine WL_skip (dd := some 15) rfl rfl rfl ?_
    refine WL_skip (dd := some 16) rfl rfl rfl ?_
    refine WL_skip (dd := some 17) rfl rfl rfl ?_
    refine WL_val (dd := some 18) rfl rfl rfl (r_pick_t rfl (v := .bool true) rfl) ?_
    refine WL_val (dd := some 19) rfl rfl rfl (r_move (v := .bool true) rfl) ?_
    refine WL_skip (dd := some 20) rfl rfl rfl ?_
    refine WL_skip (dd := some 21) rfl rfl rfl ?_
    refine WL_skip (dd := some 22) rfl rfl rfl ?_
    refine WL_val (dd := some 23) rfl rfl rfl (r_pick_t rfl (v := .bool true) rfl) ?_
    refine WL_val (dd := some 24) rfl rfl rfl (r_move (v := .bool true) rfl) ?_
    refine WL_skip (dd := some 25) rfl rfl rfl ?_
    refine WL_skip (dd := some 26) rfl rfl rfl ?_
    refine WL_skip (dd := some 27) rfl rfl rfl ?_
    refine WL_val (dd := some 28) rfl rfl rfl (r_pick_t rfl (v := .bool true) rfl) ?_
    refine WL_val (dd := some 29) rfl rfl rfl (r_move (v := .bool true) rfl) ?_
    refine WL_skip (dd := some 30) rfl rfl rfl ?_
    refine WL_skip (dd := some 31) rfl rfl rfl ?_
    refine WL_skip (dd := some 32) rfl rfl rfl ?_
    refine WL_val (dd := some 33) rfl rfl rfl (r_pick_t rfl (v := .bool true) rfl) ?_
    refine WL_val (dd := some 34) rfl rfl rfl (r_move (v := .bool true) rfl) ?_
    refine WL_skip (dd := some 35) rfl rfl rfl ?_
    refine WL_skip (dd := some 36) rfl rfl rfl ?_
    refine WL_skip (dd := some 37) rfl rfl rfl ?_
    refine WL_skip (dd := some 38) rfl rfl rfl ?_
    refine WL_val (dd := some 39) rfl rfl rfl (r_pick_t rfl (v := .bool true) rfl) ?_
    refine WL_nil ?_
    refine hK9 _ _ ?_
    clear hK9 K8
    refine WC_cond_true rfl ?_
    refine WC_seq (fun K10 hK11 => ?_)
    refine WC_region ?_
    refine WL_val (dd := some 2) rfl rfl rfl (r_assign (v := .bool false) rfl) ?_
    refine WL_nil ?_
    refine hK11 _ _ ?_
    clear hK11 K10
    refine WC_ret ?_
    repeat (first | refine thenQ_ret ?_ | refine blockQ_ret ?_)
    try clear hK7 K6
    refine ret_t (v := .bool false) rfl ?_
    refine ⟨hB, ?_⟩
    first | exact rightT_f (by omega) | exact rightT_k (k := k) (by omega) (ln_1 (by rw [← hck]; exact bool_t hs7_6)) | exact rightT_k (k := k) (by omega) (ln_2 hc2) | exact rightT_k (k := k) (by omega) (ln_3 (j := j) (by omega) (by have h1 : ¬ (T.ls.getD k ln0).os.getD j 0 = 0 := hs12_6; have h2 : ¬ (T.ls.getD k ln0).os.getD j 0 = 1 := hs12_14; have h3 : ¬ (T.ls.getD k ln0).os.getD j 0 = 2 := hc4; omega)) | exact rightT_t (by omega) (fun q hq' => hq q (by omega))
  ·
    try with_reducible replace hs1_3 := dec_f hs1_3
    refine WL_val (dd := some 10) rfl rfl rfl (r_fieldAddr (b := _) (o := _) rfl tb_fo24_0) ?_
    refine WL_val (dd := some 11) rfl rfl rfl (r_load1 (v := .int .i64 _) rfl tb_sc3 (At.cell hm0_0 rfl)) ?_
    refine WL_val (dd := some 12) rfl rfl rfl (r_gtr rfl rfl) ?_
    refine WL_val (dd := some 13) rfl rfl rfl (r_pick_f rfl (v := .bool _) rfl) ?_
    refine WL_split (dd := some 14) rfl rfl rfl (r_move (v := .bool _) rfl) (fun hs1_8 => ?_) (fun hs1_8 => ?_)
    ·
      try with_reducible replace hs1_8 := dec_t hs1_8
      refine WL_skip (dd := some 15) rfl rfl rfl ?_
      refine WL_skip (dd := some 16) rfl rfl rfl ?_
      refine WL_skip (dd := some 17) rfl rfl rfl ?_
      refine WL_val (dd := some 18) rfl rfl rfl (r_pick_t rfl (v := .bool true) rfl) ?_
      refine WL_val (dd := some 19) rfl rfl rfl (r_move (v := .bool true) rfl) ?_
      refine WL_skip (dd := some 20) rfl rfl rfl ?_
      refine WL_skip (dd := some 21) rfl rfl rfl ?_
      refine WL_skip (dd := some 22) rfl rfl rfl ?_
      refine WL_val (dd := some 23) rfl rfl rfl (r_pick_t rfl (v := .bool true) rfl) ?_
      refine WL_val (dd := some 24) rfl rfl rfl (r_move (v := .bool true) rfl) ?_
      refine WL_skip (dd := some 25) rfl rfl rfl ?_
      refine WL_skip (dd := some 26) rfl rfl rfl ?_
      refine WL_skip (dd := some 27) rfl rfl rfl ?_
      refine WL_val (dd := some 28) rfl rfl rfl (r_pick_t rfl (v := .bool true) rfl) ?_
      refine WL_val (dd := some 29) rfl rfl rfl (r_move (v := .bool true) rfl) ?_
      refine WL_skip (dd := some 30) rfl rfl rfl ?_
      refine WL_skip (dd := some 31) rfl rfl rfl ?_
      refine WL_skip (dd := some 32) rfl rfl rfl ?_
      refine WL_val (dd := some 33) rfl rfl rfl (r_pick_t rfl (v := .bool true) rfl) ?_
      refine WL_val (dd := some 34) rfl rfl rfl (r_move (v := .bool true) rfl) ?_
      refine WL_skip (dd := some 35) rfl rfl rfl ?_
      refine WL_skip (dd := some 36) rfl rfl rfl ?_
      refine WL_skip (dd := some 37) rfl rfl rfl ?_
      refine WL_skip (dd := some 38) rfl rfl rfl ?_
      refine WL_val (dd := some 39) rfl rfl rfl (r_pick_t rfl (v := .bool true) rfl) ?_
      refine WL_nil ?_
      refine hK9 _ _ ?_
      clear hK9 K8
      refine WC_cond_true rfl ?_
      refine WC_seq (fun K12 hK13 => ?_)
      refine WC_region ?_
      refine WL_val (dd := some 2) rfl rfl rfl (r_assign (v := .bool false) rfl) ?_
      refine WL_nil ?_
      refine hK13 _ _ ?_
      clear hK13 K12
      refine WC_ret ?_
      repeat (first | refine thenQ_ret ?_ | refine blockQ_ret ?_)
      try clear hK7 K6
      refine ret_t (v := .bool false) rfl ?_
      refine ⟨hB, ?_⟩
      first | exact rightT_f (by omega) | exact rightT_k (k := k) (by omega) (ln_1 (by rw [← hck]; exact bool_t hs7_6)) | exact rightT_k (k := k) (by omega) (ln_2 hc2) | exact rightT_k (k := k) (by omega) (ln_3 (j := j) (by omega) (by have h1 : ¬ (T.ls.getD k ln0).os.getD j 0 = 0 := hs12_6; have h2 : ¬ (T.ls.getD k ln0).os.getD j 0 = 1 := hs12_14; have h3 : ¬ (T.ls.getD k ln0).os.getD j 0 = 2 := hc4; omega)) | exact rightT_t (by omega) (fun q hq' => hq q (by omega))
    ·
      try with_reducible replace hs1_8 := dec_f hs1_8
      refine WL_val (dd := some 15) rfl rfl rfl (r_fieldAddr (b := _) (o := _) rfl tb_fo24_1) ?_
      refine WL_val (dd := some 16) rfl rfl rfl (r_load1 (v := .int .i64 _) rfl tb_sc3 (At.cell hm0_0 rfl)) ?_
      refine WL_val (dd := some 17) rfl rfl rfl (r_lss rfl rfl) ?_
      refine WL_val (dd := some 18) rfl rfl rfl (r_pick_f rfl (v := .bool _) rfl) ?_
      refine WL_split (dd := some 19) rfl rfl rfl (r_move (v := .bool _) rfl) (fun hs1_13 => ?_) (fun hs1_13 => ?_)
      ·
        try with_reducible replace hs1_13 := dec_t hs1_13
        refine WL_skip (dd := some 20) rfl rfl rfl ?_
        refine WL_skip (dd := some 21) rfl rfl rfl ?_
        refine WL_skip (dd := some 22) rfl rfl rfl ?_
        refine WL_val (dd := some 23) rfl rfl rfl (r_pick_t rfl (v := .bool true) rfl) ?_
        refine WL_val (dd := some 24) rfl rfl rfl (r_move (v := .bool true) rfl) ?_
        refine WL_skip (dd := some 25) rfl rfl rfl ?_
        refine WL_skip (dd := some 26) rfl rfl rfl ?_
        refine WL_skip (dd := some 27) rfl rfl rfl ?_
        refine WL_val (dd := some 28) rfl rfl rfl (r_pick_t rfl (v := .bool true) rfl) ?_
        refine WL_val (dd := some 29) rfl rfl rfl (r_move (v := .bool true) rfl) ?_
        refine WL_skip (dd := some 30) rfl rfl rfl ?_
        refine WL_skip (dd := some 31) rfl rfl rfl ?_
        refine WL_skip (dd := some 32) rfl rfl rfl ?_
        refine WL_val (dd := some 33) rfl rfl rfl (r_pick_t rfl (v := .bool true) rfl) ?_
        refine WL_val (dd := some 34) rfl rfl rfl (r_move (v := .bool true) rfl) ?_
        refine WL_skip (dd := some 35) rfl rfl rfl ?_
        refine WL_skip (dd := some 36) rfl rfl rfl ?_
        refine WL_skip (dd := some 37) rfl rfl rfl ?_
        refine WL_skip (dd := some 38) rfl rfl rfl ?_
        refine WL_val (dd := some 39) rfl rfl rfl (r_pick_t rfl (v := .bool true) rfl) ?_
        refine WL_nil ?_
        refine hK9 _ _ ?_
        clear hK9 K8
        refine WC_cond_true rfl ?_
        refine WC_seq (fun K14 hK15 => ?_)
        refine WC_region ?_
        refine WL_val (dd := some 2) rfl rfl rfl (r_assign (v := .bool false) rfl) ?_
        refine WL_nil ?_
        refine hK15 _ _ ?_
        clear hK15 K14
        refine WC_ret ?_
        repeat (first | refine thenQ_ret ?_ | refine blockQ_ret ?_)
        try clear hK7 K6
        refine ret_t (v := .bool false) rfl ?_
        refine ⟨hB, ?_⟩
        first | exact rightT_f (by omega) | exact rightT_k (k := k) (by omega) (ln_1 (by rw [← hck]; exact bool_t hs7_6)) | exact rightT_k (k := k) (by omega) (ln_2 hc2) | exact rightT_k (k := k) (by omega) (ln_3 (j := j) (by omega) (by have h1 : ¬ (T.ls.getD k ln0).os.getD j 0 = 0 := hs12_6; have h2 : ¬ (T.ls.getD k ln0).os.getD j 0 = 1 := hs12_14; have h3 : ¬ (T.ls.getD k ln0).os.getD j 0 = 2 := hc4; omega)) | exact rightT_t (by omega) (fun q hq' => hq q (by omega))
      ·
        try with_reducible replace hs1_13 := dec_f hs1_13
        refine WL_val (dd := some 20) rfl rfl rfl (r_fieldAddr (b := _) (o := _) rfl tb_fo24_1) ?_
        refine WL_val (dd := some 21) rfl rfl rfl (r_load1 (v := .int .i64 _) rfl tb_sc3 (At.cell hm0_0 rfl)) ?_
        refine WL_val (dd := some 22) rfl rfl rfl (r_gtr rfl rfl) ?_
        refine WL_val (dd := some 23) rfl rfl rfl (r_pick_f rfl (v := .bool _) rfl) ?_
        refine WL_split (dd := some 24) rfl rfl rfl (r_move (v := .bool _) rfl) (fun hs1_18 => ?_) (fun hs1_18 => ?_)
        ·
          try with_reducible replace hs1_18 := dec_t hs1_18
          refine WL_skip (dd := some 25) rfl rfl rfl ?_
          refine WL_skip (dd := some 26) rfl rfl rfl ?_
          refine WL_skip (dd := some 27) rfl rfl rfl ?_
          refine WL_val (dd := some 28) rfl rfl rfl (r_pick_t rfl (v := .bool true) rfl) ?_
          refine WL_val (dd := some 29) rfl rfl rfl (r_move (v := .bool true) rfl) ?_
          refine WL_skip (dd := some 30) rfl rfl rfl ?_
          refine WL_skip (dd := some 31) rfl rfl rfl ?_
          refine WL_skip (dd := some 32) rfl rfl rfl ?_
          refine WL_val (dd := some 33) rfl rfl rfl (r_pick_t rfl (v := .bool true) rfl) ?_
          refine WL_val (dd := some 34) rfl rfl rfl (r_move (v := .bool true) rfl) ?_
          refine WL_skip (dd := some 35) rfl rfl rfl ?_
          refine WL_skip (dd := some 36) rfl rfl rfl ?_
          refine WL_skip (dd := some 37) rfl rfl rfl ?_
          refine WL_skip (dd := some 38) rfl rfl rfl ?_
          refine WL_val (dd := some 39) rfl rfl rfl (r_pick_t rfl (v := .bool true) rfl) ?_
          refine WL_nil ?_
          refine hK9 _ _ ?_
          clear hK9 K8
          refine WC_cond_true rfl ?_
          refine WC_seq (fun K16 hK17 => ?_)
          refine WC_region ?_
          refine WL_val (dd := some 2) rfl rfl rfl (r_assign (v := .bool false) rfl) ?_
          refine WL_nil ?_
          refine hK17 _ _ ?_
          clear hK17 K16
          refine WC_ret ?_
          repeat (first | refine thenQ_ret ?_ | refine blockQ_ret ?_)
          try clear hK7 K6
          refine ret_t (v := .bool false) rfl ?_
          refine ⟨hB, ?_⟩
          first | exact rightT_f (by omega) | exact rightT_k (k := k) (by omega) (ln_1 (by rw [← hck]; exact bool_t hs7_6)) | exact rightT_k (k := k) (by omega) (ln_2 hc2) | exact rightT_k (k := k) (by omega) (ln_3 (j := j) (by omega) (by have h1 : ¬ (T.ls.getD k ln0).os.getD j 0 = 0 := hs12_6; have h2 : ¬ (T.ls.getD k ln0).os.getD j 0 = 1 := hs12_14; have h3 : ¬ (T.ls.getD k ln0).os.getD j 0 = 2 := hc4; omega)) | exact rightT_t (by omega) (fun q hq' => hq q (by omega))
        ·
          try with_reducible replace hs1_18 := dec_f hs1_18
          refine WL_val (dd := some 25) rfl rfl rfl (r_fieldAddr (b := _) (o := _) rfl tb_fo24_2) ?_
          refine WL_val (dd := some 26) rfl rfl rfl (r_load1 (v := .int .i64 _) rfl tb_sc3 (At.cell hm0_0 rfl)) ?_
          refine WL_val (dd := some 27) rfl rfl rfl (r_lss rfl rfl) ?_
          refine WL_val (dd := some 28) rfl rfl rfl (r_pick_f rfl (v := .bool _) rfl) ?_
          refine WL_split (dd := some 29) rfl rfl rfl (r_move (v := .bool _) rfl) (fun hs1_23 => ?_) (fun hs1_23 => ?_)
          ·
            try with_reducible replace hs1_23 := dec_t hs1_23
            refine WL_skip (dd := some 30) rfl rfl rfl ?_
            refine WL_skip (dd := some 31) rfl rfl rfl ?_
            refine WL_skip (dd := some 32) rfl rfl rfl ?_
            refine WL_val (dd := some 33) rfl rfl rfl (r_pick_t rfl (v := .bool true) rfl) ?_
            refine WL_val (dd := some 34) rfl rfl rfl (r_move (v := .bool true) rfl) ?_
            refine WL_skip (dd := some 35) rfl rfl rfl ?_
            refine WL_skip (dd := some 36) rfl rfl rfl ?_
            refine WL_skip (dd := some 37) rfl rfl rfl ?_
            refine WL_skip (dd := some 38) rfl rfl rfl ?_
            refine WL_val (dd := some 39) rfl rfl rfl (r_pick_t rfl (v := .bool true) rfl) ?_
            refine WL_nil ?_
            refine hK9 _ _ ?_
            clear hK9 K8
            refine WC_cond_true rfl ?_
            refine WC_seq (fun K18 hK19 => ?_)
            refine WC_region ?_
            refine WL_val (dd := some 2) rfl rfl rfl (r_assign (v := .bool false) rfl) ?_
            refine WL_nil ?_
            refine hK19 _ _ ?_
            clear hK19 K18
            refine WC_ret ?_
            repeat (first | refine thenQ_ret ?_ | refine blockQ_ret ?_)
            try clear hK7 K6
            refine ret_t (v := .bool false) rfl ?_
            refine ⟨hB, ?_⟩
            first | exact rightT_f (by omega) | exact rightT_k (k := k) (by omega) (ln_1 (by rw [← hck]; exact bool_t hs7_6)) | exact rightT_k (k := k) (by omega) (ln_2 hc2) | exact rightT_k (k := k) (by omega) (ln_3 (j := j) (by omega) (by have h1 : ¬ (T.ls.getD k ln0).os.getD j 0 = 0 := hs12_6; have h2 : ¬ (T.ls.getD k ln0).os.getD j 0 = 1 := hs12_14; have h3 : ¬ (T.ls.getD k ln0).os.getD j 0 = 2 := hc4; omega)) | exact rightT_t (by omega) (fun q hq' => hq q (by omega))
          ·
            try with_reducible replace hs1_23 := dec_f hs1_23
            refine WL_val (dd := some 30) rfl rfl rfl (r_fieldAddr (b := _) (o := _) rfl tb_fo24_2) ?_
            refine WL_val (dd := some 31) rfl rfl rfl (r_load1 (v := .int .i64 _) rfl tb_sc3 (At.cell hm0_0 rfl)) ?_
            refine WL_val (dd := some 32) rfl rfl rfl (r_gtr rfl rfl) ?_
            refine WL_val (dd := some 33) rfl rfl rfl (r_pick_f rfl (v := .bool _) rfl) ?_
            refine WL_split (dd := some 34) rfl rfl rfl (r_move (v := .bool _) rfl) (fun hs1_28 => ?_) (fun hs1_28 => ?_)
            ·
              try with_reducible replace hs1_28 := dec_t hs1_28
              refine WL_skip (dd := some 35) rfl rfl rfl ?_
              refine WL_skip (dd := some 36) rfl rfl rfl ?_
              refine WL_skip (dd := some 37) rfl rfl rfl ?_
              refine WL_skip (dd := some 38) rfl rfl rfl ?_
              refine WL_val (dd := some 39) rfl rfl rfl (r_pick_t rfl (v := .bool true) rfl) ?_
              refine WL_nil ?_
              refine hK9 _ _ ?_
              clear hK9 K8
              refine WC_cond_true rfl ?_
              refine WC_seq (fun K20 hK21 => ?_)
              refine WC_region ?_
              refine WL_val (dd := some 2) rfl rfl rfl (r_assign (v := .bool false) rfl) ?_
              refine WL_nil ?_
              refine hK21 _ _ ?_
              clear hK21 K20
              refine WC_ret ?_
              repeat (first | refine thenQ_ret ?_ | refine blockQ_ret ?_)
              try clear hK7 K6
              refine ret_t (v := .bool false) rfl ?_
              refine ⟨hB, ?_⟩
              first | exact rightT_f (by omega) | exact rightT_k (k := k) (by omega) (ln_1 (by rw [← hck]; exact bool_t hs7_6)) | exact rightT_k (k := k) (by omega) (ln_2 hc2) | exact rightT_k (k := k) (by omega) (ln_3 (j := j) (by omega) (by have h1 : ¬ (T.ls.getD k ln0).os.getD j 0 = 0 := hs12_6; have h2 : ¬ (T.ls.getD k ln0).os.getD j 0 = 1 := hs12_14; have h3 : ¬ (T.ls.getD k ln0).os.getD j 0 = 2 := hc4; omega)) | exact rightT_t (by omega) (fun q hq' => hq q (by omega))
            ·
              try with_reducible replace hs1_28 := dec_f hs1_28
              refine WL_val (dd := some 35) rfl rfl rfl (r_fieldAddr (b := _) (o := _) rfl tb_fo24_3) ?_
              refine WL_val (dd := some 36) rfl rfl rfl (r_load1 (v := lv) rfl tb_sc22 (At.cell hm0_0 rfl)) ?_
              refine WL_val (dd := some 37) rfl rfl rfl (r_lenS (v := lv) rfl (Below.slT hB hlv) tb_el22) ?_
              refine WL_val (dd := some 38) rfl rfl rfl (r_gtr rfl rfl) ?_
              refine WL_val (dd := some 39) rfl rfl rfl (r_pick_f rfl (v := .bool _) rfl) ?_
              refine WL_nil ?_
              refine hK9 _ _ ?_
              clear hK9 K8
              refine WC_cond (b := _) rfl (fun hc0 => ?_) (fun hc0 => ?_)
              ·
                try with_reducible replace hc0 := dec_t hc0
                refine WC_seq (fun K22 hK23 => ?_)
                refine WC_region ?_
                refine WL_val (dd := some 2) rfl rfl rfl (r_assign (v := .bool false) rfl) ?_
                refine WL_nil ?_
                refine hK23 _ _ ?_
                clear hK23 K22
                refine WC_ret ?_
                repeat (first | refine thenQ_ret ?_ | refine blockQ_ret ?_)
                try clear hK7 K6
                refine ret_t (v := .bool false) rfl ?_
                refine ⟨hB, ?_⟩
                first | exact rightT_f (by omega) | exact rightT_k (k := k) (by omega) (ln_1 (by rw [← hck]; exact bool_t hs7_6)) | exact rightT_k (k := k) (by omega) (ln_2 hc2) | exact rightT_k (k := k) (by omega) (ln_3 (j := j) (by omega) (by have h1 : ¬ (T.ls.getD k ln0).os.getD j 0 = 0 := hs12_6; have h2 : ¬ (T.ls.getD k ln0).os.getD j 0 = 1 := hs12_14; have h3 : ¬ (T.ls.getD k ln0).os.getD j 0 = 2 := hc4; omega)) | exact rightT_t (by omega) (fun q hq' => hq q (by omega))
              ·
                try with_reducible replace hc0 := dec_f hc0
                refine WC_skip ?_
                refine hK7 _ _ ?_
                clear hK7 K6
                refine WC_seq (fun K24 hK25 => ?_)
                refine WC_seq (fun K26 hK27 => ?_)
                refine WC_region ?_
                refine WL_val (dd := some 3) rfl rfl rfl (r_assign (v := .int .i64 0) rfl) ?_
                refine WL_nil ?_
                refine hK27 _ _ ?_
                clear hK27 K26
                refine WC_block ?_
                refine WC_loop (σ := (Nat)) [2, 3, 4, 5, 40, 41, 42, 43, 44, 45, 46, 47, 48, 49, 50, 51, 52, 53, 54, 55, 56, 57, 58, 59, 60, 61, 62, 63, 64, 65, 66, 67, 68, 69, 70, 71, 72, 73, 74, 75, 76, 77, 78, 79, 80, 81, 82, 83, 84, 85, 86, 87, 88, 89, 90, 91, 92, 93, 94] (fun k => [(3, .int .i64 (k : Int))]) (fun k W => (Below w.heap.size w W) ∧ (At W b0_0 _ 24) ∧ (k ≤ T.ls.length) ∧ (∀ q, q < k → lnOk T.ni T.no (T.ls.getD q ln0) = true) ∧ (True)) (fun k => T.ls.length - k) (0) ⟨rfl, trivial⟩ ⟨hB, hm0_0, (Nat.zero_le _), upTo_zero, trivial⟩ ?_
                clear hB hm0_0
                rintro k g29 W28 ⟨hB, hm0_0, hk, hq, _⟩ J30 hJ31
                refine WC_seq (fun K32 hK33 => ?_)
                refine WC_seq (fun K34 hK35 => ?_)
                refine WC_region ?_
                refine WL_val (dd := some 40) rfl rfl rfl (r_move (v := .int .i64 _) rfl) ?_
                refine WL_val (dd := some 41) rfl rfl rfl (r_fieldAddr (b := _) (o := _) rfl tb_fo24_3) ?_
                refine WL_val (dd := some 42) rfl rfl rfl (r_load1 (v := lv) rfl tb_sc22 (At.cell hm0_0 rfl)) ?_
                refine WL_val (dd := some 43) rfl rfl rfl (r_lenS (v := lv) rfl (Below.slT hB hlv) tb_el22) ?_
                refine WL_val (dd := some 44) rfl rfl rfl (r_lss rfl rfl) ?_
                refine WL_nil ?_
                refine hK35 _ _ ?_
                clear hK35 K34
                refine WC_cond (b := _) rfl (fun hc1 => ?_) (fun hc1 => ?_)
                ·
                  try with_reducible replace hc1 := dec_t hc1
                  refine WC_skip ?_
                  refine hK33 _ _ ?_
                  clear hK33 K32
                  refine WC_seq (fun K36 hK37 => ?_)
                  refine WC_block ?_
                  refine WC_seq (fun K38 hK39 => ?_)
                  have hck := hls.c k (by omega)
                  have hbk := hmb k (by omega)
                  have hb1 : (vs.getD k lv0).c.m < 256 ∧ (vs.getD k lv0).c.v < 256 := by rw [hck]; exact hbk
                  refine WC_region ?_
                  refine WL_val (dd := some 47) rfl rfl rfl (r_fieldAddr (b := _) (o := _) rfl tb_fo24_3) ?_
                  refine WL_val (dd := some 48) rfl rfl rfl (r_load1 (v := lv) rfl tb_sc22 (At.cell hm0_0 rfl)) ?_
                  refine WL_val (dd := some 49) rfl rfl rfl (r_move (v := .int .i64 _) rfl) ?_
                  refine WL_val (dd := some 50) rfl rfl rfl (r_idxS (v := lv) rfl (Below.slT hB hlv) rfl tb_el22 (by omega) (by omega)) ?_
                  refine WL_val (dd := some 51) rfl rfl rfl (r_load3 rfl tb_ag45 (SlT.cell (Below.slT hB hlv) encLn_len lv0 (by omega) (by omega) 0 rfl) (SlT.cell (Below.slT hB hlv) encLn_len lv0 (by omega) (by omega) 1 rfl) (SlT.cell (Below.slT hB hlv) encLn_len lv0 (by omega) (by omega) 2 rfl)) ?_
                  have hp6_4 : SlT encI 1 w ((vs.getD k lv0).o) ((T.ls.getD k ln0).os) := hls.o k (by omega)
                  refine WL_step (dd := some 4) rfl rfl rfl (Y_alloc tb_z45 rfl (fun b6_5 W40 hb41 hE42 hm6_5 => ?_))
                  have lo_b6_5 : w.heap.size ≤ b6_5 := hb41 ▸ (Below.size hB)
                  clear hb41
                  replace hB := below_ext hB hE42 (Nat.le_refl _)
                  replace hm0_0 := hE42.at hm0_0
                  clear hE42
                  refine WL_step (dd := none) rfl rfl rfl (Y_storeW rfl rfl tb_ag45 rfl hm6_5 rfl (by exact one_ln (SlT.one hp6_4)) (fun W43 hG44 hm45 => ?_))
                  replace hB := below_grown hB hG44 (Nat.le_refl _) (fun j hj => by cases hj; exact lo_b6_5)
                  replace hm0_0 := At.grownAt hm0_0 hm6_5 hG44 (by decide)
                  clear hG44 hm6_5
                  have hm6_5 := hm45
                  clear hm45
                  refine WL_nil ?_
                  refine hK39 _ _ ?_
                  clear hK39 K38
                  refine WC_seq (fun K46 hK47 => ?_)
                  refine WC_seq (fun K48 hK49 => ?_)
                  refine WC_region ?_
                  refine WL_val (dd := some 52) rfl rfl rfl (r_fieldAddr (b := _) (o := _) rfl tb_fo45_0) ?_
                  refine WL_val (dd := some 53) rfl rfl rfl (r_load2 rfl tb_ag42 (At.cell hm6_5 rfl) (At.cell hm6_5 rfl)) ?_
                  refine WL_val (dd := some 54) rfl rfl rfl (r_fieldAddr (b := _) (o := _) rfl tb_fo24_1) ?_
                  refine WL_val (dd := some 55) rfl rfl rfl (r_load1 (v := .int .i64 _) rfl tb_sc3 (At.cell hm0_0 rfl)) ?_
                  refine WL_call (dd := some 56) rfl rfl rfl (r_call2 tb_c20 (v0 := .agg #[_, _]) rfl (v1 := .int .i64 _) rfl) (C_drawkniferef02_Right (vs.getD k lv0).c.m (vs.getD k lv0).c.v _ _ hb1.1 hb1.2) (fun v7_4 W50 hE51 hP7_4 => ?_)
                  have hsz52 := (Below.size hB)
                  replace hB := below_ext hB hE51 (Nat.le_refl _)
                  replace hm0_0 := hE51.at hm0_0
                  replace hm6_5 := hE51.at hm6_5
                  clear hE51
                  clear hsz52
                  obtain rfl := hP7_4
                  refine WL_val (dd := some 57) rfl rfl rfl (r_not rfl) ?_
                  refine WL_split (dd := some 58) rfl rfl rfl (r_move (v := .bool _) rfl) (fun hs7_6 => ?_) (fun hs7_6 => ?_)
                  ·
                    try with_reducible replace hs7_6 := dec_t hs7_6
                    refine WL_skip (dd := some 59) rfl rfl rfl ?_
                    refine WL_skip (dd := some 60) rfl rfl rfl ?_
                    refine WL_skip (dd := some 61) rfl rfl rfl ?_
                    refine WL_skip (dd := some 62) rfl rfl rfl ?_
                    refine WL_skip (dd := some 63) rfl rfl rfl ?_
                    refine WL_skip (dd := some 64) rfl rfl rfl ?_
                    refine WL_val (dd := some 65) rfl rfl rfl (r_pick_t rfl (v := .bool true) rfl) ?_
                    refine WL_nil ?_
                    refine hK49 _ _ ?_
                    clear hK49 K48
                    refine WC_cond_true rfl ?_
                    refine WC_seq (fun K53 hK54 => ?_)
                    refine WC_region ?_
                    refine WL_val (dd := some 2) rfl rfl rfl (r_assign (v := .bool false) rfl) ?_
                    refine WL_nil ?_
                    refine hK54 _ _ ?_
                    clear hK54 K53
                    refine WC_ret ?_
                    repeat (first | refine thenQ_ret ?_ | refine blockQ_ret ?_)
                    try clear hK47 K46
                    try clear hK37 K36
                    try clear hJ31 J30
                    try clear hK25 K24
                    refine ret_t (v := .bool false) rfl ?_
                    refine ⟨hB, ?_⟩
                    first | exact rightT_f (by omega) | exact rightT_k (k := k) (by omega) (ln_1 (by rw [← hck]; exact bool_t hs7_6)) | exact rightT_k (k := k) (by omega) (ln_2 hc2) | exact rightT_k (k := k) (by omega) (ln_3 (j := j) (by omega) (by have h1 : ¬ (T.ls.getD k ln0).os.getD j 0 = 0 := hs12_6; have h2 : ¬ (T.ls.getD k ln0).os.getD j 0 = 1 := hs12_14; have h3 : ¬ (T.ls.getD k ln0).os.getD j 0 = 2 := hc4; omega)) | exact rightT_t (by omega) (fun q hq' => hq q (by omega))
                  ·
                    try with_reducible replace hs7_6 := dec_f hs7_6
                    refine WL_val (dd := some 59) rfl rfl rfl (r_fieldAddr (b := _) (o := _) rfl tb_fo45_1) ?_
                    refine WL_val (dd := some 60) rfl rfl rfl (r_load1 (v := (vs.getD k lv0).o) rfl tb_sc43 (At.cell hm6_5 rfl)) ?_
                    refine WL_val (dd := some 61) rfl rfl rfl (r_lenS (v := (vs.getD k lv0).o) rfl (Below.slT hB hp6_4) tb_el43) ?_
                    refine WL_val (dd := some 62) rfl rfl rfl (r_fieldAddr (b := _) (o := _) rfl tb_fo24_2) ?_
                    refine WL_val (dd := some 63) rfl rfl rfl (r_load1 (v := .int .i64 _) rfl tb_sc3 (At.cell hm0_0 rfl)) ?_
                    refine WL_val (dd := some 64) rfl rfl rfl (r_neq rfl rfl) ?_
                    refine WL_val (dd := some 65) rfl rfl rfl (r_pick_f rfl (v := .bool _) rfl) ?_
                    refine WL_nil ?_
                    refine hK49 _ _ ?_
                    clear hK49 K48
                    refine WC_cond (b := _) rfl (fun hc2 => ?_) (fun hc2 => ?_)
                    ·
                      try with_reducible replace hc2 := dec_t hc2
                      refine WC_seq (fun K55 hK56 => ?_)
                      refine WC_region ?_
                      refine WL_val (dd := some 2) rfl rfl rfl (r_assign (v := .bool false) rfl) ?_
                      refine WL_nil ?_
                      refine hK56 _ _ ?_
                      clear hK56 K55
                      refine WC_ret ?_
                      repeat (first | refine thenQ_ret ?_ | refine blockQ_ret ?_)
                      try clear hK47 K46
                      try clear hK37 K36
                      try clear hJ31 J30
                      try clear hK25 K24
                      refine ret_t (v := .bool false) rfl ?_
                      refine ⟨hB, ?_⟩
                      first | exact rightT_f (by omega) | exact rightT_k (k := k) (by omega) (ln_1 (by rw [← hck]; exact bool_t hs7_6)) | exact rightT_k (k := k) (by omega) (ln_2 hc2) | exact rightT_k (k := k) (by omega) (ln_3 (j := j) (by omega) (by have h1 : ¬ (T.ls.getD k ln0).os.getD j 0 = 0 := hs12_6; have h2 : ¬ (T.ls.getD k ln0).os.getD j 0 = 1 := hs12_14; have h3 : ¬ (T.ls.getD k ln0).os.getD j 0 = 2 := hc4; omega)) | exact rightT_t (by omega) (fun q hq' => hq q (by omega))
                    ·
                      try with_reducible replace hc2 := dec_f hc2
                      refine WC_skip ?_
                      refine hK47 _ _ ?_
                      clear hK47 K46
                      refine WC_seq (fun K57 hK58 => ?_)
                      refine WC_region ?_
                      refine WL_val (dd := some 5) rfl rfl rfl (r_assign (v := .int .i64 0) rfl) ?_
                      refine WL_nil ?_
                      refine hK58 _ _ ?_
                      clear hK58 K57
                      refine WC_block ?_
                      refine WC_loop (σ := (Nat)) [2, 5, 66, 67, 68, 69, 70, 71, 72, 73, 74, 75, 76, 77, 78, 79, 80, 81, 82, 83, 84, 85, 86, 87, 88, 89, 90, 91, 92, 93, 94] (fun j => [(5, .int .i64 (j : Int))]) (fun j W => (Below w.heap.size w W) ∧ (At W b0_0 _ 24) ∧ (At W b6_5 _ 45) ∧ (j ≤ (T.ls.getD k ln0).os.length) ∧ (∀ q, q < j → 0 ≤ (T.ls.getD k ln0).os.getD q 0 ∧ (T.ls.getD k ln0).os.getD q 0 < 3) ∧ (True)) (fun j => (T.ls.getD k ln0).os.length - j) (0) ⟨rfl, trivial⟩ ⟨hB, hm0_0, hm6_5, (Nat.zero_le _), upTo_zero, trivial⟩ ?_
                      clear hB hm0_0 hm6_5
                      rintro j g60 W59 ⟨hB, hm0_0, hm6_5, hj, hqj, _⟩ J61 hJ62
                      refine WC_seq (fun K63 hK64 => ?_)
                      refine WC_seq (fun K65 hK66 => ?_)
                      refine WC_region ?_
                      refine WL_val (dd := some 66) rfl rfl rfl (r_move (v := .int .i64 _) rfl) ?_
                      refine WL_val (dd := some 67) rfl rfl rfl (r_fieldAddr (b := _) (o := _) rfl tb_fo45_1) ?_
                      refine WL_val (dd := some 68) rfl rfl rfl (r_load1 (v := (vs.getD k lv0).o) rfl tb_sc43 (At.cell hm6_5 rfl)) ?_
                      refine WL_val (dd := some 69) rfl rfl rfl (r_lenS (v := (vs.getD k lv0).o) rfl (Below.slT hB hp6_4) tb_el43) ?_
                      refine WL_val (dd := some 70) rfl rfl rfl (r_lss rfl rfl) ?_
                      refine WL_nil ?_
                      refine hK66 _ _ ?_
                      clear hK66 K65
                      refine WC_cond (b := _) rfl (fun hc3 => ?_) (fun hc3 => ?_)
                      ·
                        try with_reducible replace hc3 := dec_t hc3
                        refine WC_skip ?_
                        refine hK64 _ _ ?_
                        clear hK64 K63
                        refine WC_seq (fun K67 hK68 => ?_)
                        refine WC_block ?_
                        refine WC_seq (fun K69 hK70 => ?_)
                        refine WC_region ?_
                        refine WL_val (dd := some 73) rfl rfl rfl (r_fieldAddr (b := _) (o := _) rfl tb_fo45_1) ?_
                        refine WL_val (dd := some 74) rfl rfl rfl (r_load1 (v := (vs.getD k lv0).o) rfl tb_sc43 (At.cell hm6_5 rfl)) ?_
                        refine WL_val (dd := some 75) rfl rfl rfl (r_move (v := .int .i64 _) rfl) ?_
                        refine WL_val (dd := some 76) rfl rfl rfl (r_idxS (v := (vs.getD k lv0).o) rfl (Below.slT hB hp6_4) rfl tb_el43 (by omega) (by omega)) ?_
                        refine WL_val (dd := some 77) rfl rfl rfl (r_load1 (v := .int .i64 _) rfl tb_sc3 (SlT.cell (Below.slT hB hp6_4) encI_len 0 (by omega) (by omega) 0 rfl)) ?_
                        refine WL_val (dd := some 78) rfl rfl rfl (r_neq rfl rfl) ?_
                        refine WL_split (dd := some 79) rfl rfl rfl (r_move (v := .bool _) rfl) (fun hs12_6 => ?_) (fun hs12_6 => ?_)
                        ·
                          try with_reducible replace hs12_6 := dec_t hs12_6
                          refine WL_val (dd := some 80) rfl rfl rfl (r_fieldAddr (b := _) (o := _) rfl tb_fo45_1) ?_
                          refine WL_val (dd := some 81) rfl rfl rfl (r_load1 (v := (vs.getD k lv0).o) rfl tb_sc43 (At.cell hm6_5 rfl)) ?_
                          refine WL_val (dd := some 82) rfl rfl rfl (r_move (v := .int .i64 _) rfl) ?_
                          refine WL_val (dd := some 83) rfl rfl rfl (r_idxS (v := (vs.getD k lv0).o) rfl (Below.slT hB hp6_4) rfl tb_el43 (by omega) (by omega)) ?_
                          refine WL_val (dd := some 84) rfl rfl rfl (r_load1 (v := .int .i64 _) rfl tb_sc3 (SlT.cell (Below.slT hB hp6_4) encI_len 0 (by omega) (by omega) 0 rfl)) ?_
                          refine WL_val (dd := some 85) rfl rfl rfl (r_neq rfl rfl) ?_
                          refine WL_val (dd := some 86) rfl rfl rfl (r_pick_t rfl (v := .bool _) rfl) ?_
                          refine WL_split (dd := some 87) rfl rfl rfl (r_move (v := .bool _) rfl) (fun hs12_14 => ?_) (fun hs12_14 => ?_)
                          ·
                            try with_reducible replace hs12_14 := dec_t hs12_14
                            refine WL_val (dd := some 88) rfl rfl rfl (r_fieldAddr (b := _) (o := _) rfl tb_fo45_1) ?_
                            refine WL_val (dd := some 89) rfl rfl rfl (r_load1 (v := (vs.getD k lv0).o) rfl tb_sc43 (At.cell hm6_5 rfl)) ?_
                            refine WL_val (dd := some 90) rfl rfl rfl (r_move (v := .int .i64 _) rfl) ?_
                            refine WL_val (dd := some 91) rfl rfl rfl (r_idxS (v := (vs.getD k lv0).o) rfl (Below.slT hB hp6_4) rfl tb_el43 (by omega) (by omega)) ?_
                            refine WL_val (dd := some 92) rfl rfl rfl (r_load1 (v := .int .i64 _) rfl tb_sc3 (SlT.cell (Below.slT hB hp6_4) encI_len 0 (by omega) (by omega) 0 rfl)) ?_
                            refine WL_val (dd := some 93) rfl rfl rfl (r_neq rfl rfl) ?_
                            refine WL_val (dd := some 94) rfl rfl rfl (r_pick_t rfl (v := .bool _) rfl) ?_
                            refine WL_nil ?_
                            refine hK70 _ _ ?_
                            clear hK70 K69
                            refine WC_cond (b := _) rfl (fun hc4 => ?_) (fun hc4 => ?_)
                            ·
                              try with_reducible replace hc4 := dec_t hc4
                              refine WC_seq (fun K71 hK72 => ?_)
                              refine WC_region ?_
                              refine WL_val (dd := some 2) rfl rfl rfl (r_assign (v := .bool false) rfl) ?_
                              refine WL_nil ?_
                              refine hK72 _ _ ?_
                              clear hK72 K71
                              refine WC_ret ?_
                              repeat (first | refine thenQ_ret ?_ | refine blockQ_ret ?_)
                              try clear hK68 K67
                              try clear hJ62 J61
                              try clear hK37 K36
                              try clear hJ31 J30
                              try clear hK25 K24
                              refine ret_t (v := .bool false) rfl ?_
                              refine ⟨hB, ?_⟩
                              first | exact rightT_f (by omega) | exact rightT_k (k := k) (by omega) (ln_1 (by rw [← hck]; exact bool_t hs7_6)) | exact rightT_k (k := k) (by omega) (ln_2 hc2) | exact rightT_k (k := k) (by omega) (ln_3 (j := j) (by omega) (by have h1 : ¬ (T.ls.getD k ln0).os.getD j 0 = 0 := hs12_6; have h2 : ¬ (T.ls.getD k ln0).os.getD j 0 = 1 := hs12_14; have h3 : ¬ (T.ls.getD k ln0).os.getD j 0 = 2 := hc4; omega)) | exact rightT_t (by omega) (fun q hq' => hq q (by omega))
                            ·
                              try with_reducible replace hc4 := dec_f hc4
                              refine WC_skip ?_
                              refine hK68 _ _ ?_
                              clear hK68 K67
                              have hsj : (T.ls.getD k ln0).os.getD j 0 = 2 := Decidable.of_not_not hc4
                              refine WC_region ?_
                              refine WL_val (dd := some 71) rfl rfl rfl (r_move (v := .int .i64 _) rfl) ?_
                              refine WL_val (dd := some 72) rfl rfl rfl (r_addI rfl rfl (by omega) (by omega)) ?_
                              refine WL_val (dd := some 5) rfl rfl rfl (r_assign (v := .int .i64 _) rfl) ?_
                              refine WL_nil ?_
                              refine hJ62 _ _ (j + 1) ?_ ?_ ?_ ?_
                              · repeat (first | exact agree.mask _ _ _ | refine agree.updo ?_ rfl _ | refine agree.updL ?_ _ rfl | refine agree.maskS rfl ?_)
                              · exact ⟨rfl, trivial⟩
                              · exact ⟨hB, hm0_0, hm6_5, (by omega), (upTo_succ hqj (by omega)), trivial⟩
                              · show (T.ls.getD k ln0).os.length - (j + 1) < (T.ls.getD k ln0).os.length - j; omega
                          ·
                            try with_reducible replace hs12_14 := dec_f hs12_14
                            refine WL_skip (dd := some 88) rfl rfl rfl ?_
                            refine WL_skip (dd := some 89) rfl rfl rfl ?_
                            refine WL_skip (dd := some 90) rfl rfl rfl ?_
                            refine WL_skip (dd := some 91) rfl rfl rfl ?_
                            refine WL_skip (dd := some 92) rfl rfl rfl ?_
                            refine WL_skip (dd := some 93) rfl rfl rfl ?_
                            refine WL_val (dd := some 94) rfl rfl rfl (r_pick_f rfl (v := .bool false) rfl) ?_
                            refine WL_nil ?_
                            refine hK70 _ _ ?_
                            clear hK70 K69
                            refine WC_cond_false rfl ?_
                            refine WC_skip ?_
                            refine hK68 _ _ ?_
                            clear hK68 K67
                            have hsj : (T.ls.getD k ln0).os.getD j 0 = 1 := Decidable.of_not_not hs12_14
                            refine WC_region ?_
                            refine WL_val (dd := some 71) rfl rfl rfl (r_move (v := .int .i64 _) rfl) ?_
                            refine WL_val (dd := some 72) rfl rfl rfl (r_addI rfl rfl (by omega) (by omega)) ?_
                            refine WL_val (dd := some 5) rfl rfl rfl (r_assign (v := .int .i64 _) rfl) ?_
                            refine WL_nil ?_
                            refine hJ62 _ _ (j + 1) ?_ ?_ ?_ ?_
                            · repeat (first | exact agree.mask _ _ _ | refine agree.updo ?_ rfl _ | refine agree.updL ?_ _ rfl | refine agree.maskS rfl ?_)
                            · exact ⟨rfl, trivial⟩
                            · exact ⟨hB, hm0_0, hm6_5, (by omega), (upTo_succ hqj (by omega)), trivial⟩
                            · show (T.ls.getD k ln0).os.length - (j + 1) < (T.ls.getD k ln0).os.length - j; omega
                        ·
                          try with_reducible replace hs12_6 := dec_f hs12_6
                          refine WL_skip (dd := some 80) rfl rfl rfl ?_
                          refine WL_skip (dd := some 81) rfl rfl rfl ?_
                          refine WL_skip (dd := some 82) rfl rfl rfl ?_
                          refine WL_skip (dd := some 83) rfl rfl rfl ?_
                          refine WL_skip (dd := some 84) rfl rfl rfl ?_
                          refine WL_skip (dd := some 85) rfl rfl rfl ?_
                          refine WL_val (dd := some 86) rfl rfl rfl (r_pick_f rfl (v := .bool false) rfl) ?_
                          refine WL_val (dd := some 87) rfl rfl rfl (r_move (v := .bool false) rfl) ?_
                          refine WL_skip (dd := some 88) rfl rfl rfl ?_
                          refine WL_skip (dd := some 89) rfl rfl rfl ?_
                          refine WL_skip (dd := some 90) rfl rfl rfl ?_
                          refine WL_skip (dd := some 91) rfl rfl rfl ?_
                          refine WL_skip (dd := some 92) rfl rfl rfl ?_
                          refine WL_skip (dd := some 93) rfl rfl rfl ?_
                          refine WL_val (dd := some 94) rfl rfl rfl (r_pick_f rfl (v := .bool false) rfl) ?_
                          refine WL_nil ?_
                          refine hK70 _ _ ?_
                          clear hK70 K69
                          refine WC_cond_false rfl ?_
                          refine WC_skip ?_
                          refine hK68 _ _ ?_
                          clear hK68 K67
                          have hsj : (T.ls.getD k ln0).os.getD j 0 = 0 := Decidable.of_not_not hs12_6
                          refine WC_region ?_
                          refine WL_val (dd := some 71) rfl rfl rfl (r_move (v := .int .i64 _) rfl) ?_
                          refine WL_val (dd := some 72) rfl rfl rfl (r_addI rfl rfl (by omega) (by omega)) ?_
                          refine WL_val (dd := some 5) rfl rfl rfl (r_assign (v := .int .i64 _) rfl) ?_
                          refine WL_nil ?_
                          refine hJ62 _ _ (j + 1) ?_ ?_ ?_ ?_
                          · repeat (first | exact agree.mask _ _ _ | refine agree.updo ?_ rfl _ | refine agree.updL ?_ _ rfl | refine agree.maskS rfl ?_)
                          · exact ⟨rfl, trivial⟩
                          · exact ⟨hB, hm0_0, hm6_5, (by omega), (upTo_succ hqj (by omega)), trivial⟩
                          · show (T.ls.getD k ln0).os.length - (j + 1) < (T.ls.getD k ln0).os.length - j; omega
                      ·
                        try with_reducible replace hc3 := dec_f hc3
                        refine WC_exit ?_
                        refine hK37 _ _ ?_
                        clear hK64 K63
                        clear hJ62 J61
                        clear hK37 K36
                        have hqj2 : ∀ q, q < (T.ls.getD k ln0).os.length → 0 ≤ (T.ls.getD k ln0).os.getD q 0 ∧ (T.ls.getD k ln0).os.getD q 0 < 3 := fun q hq' => hqj q (by omega)
                        refine WC_region ?_
                        refine WL_val (dd := some 45) rfl rfl rfl (r_move (v := .int .i64 _) rfl) ?_
                        refine WL_val (dd := some 46) rfl rfl rfl (r_addI rfl rfl (by omega) (by omega)) ?_
                        refine WL_val (dd := some 3) rfl rfl rfl (r_assign (v := .int .i64 _) rfl) ?_
                        refine WL_nil ?_
                        refine hJ31 _ _ (k + 1) ?_ ?_ ?_ ?_
                        · repeat (first | exact agree.mask _ _ _ | refine agree.updo ?_ rfl _ | refine agree.updL ?_ _ rfl | refine agree.maskS rfl ?_)
                        · exact ⟨rfl, trivial⟩
                        · exact ⟨hB, hm0_0, (by omega), (upTo_succ hq (ln_4 (by rw [← hck]; exact bool_f hs7_6) (Decidable.of_not_not hc2) hqj2)), trivial⟩
                        · first | omega | (dsimp only; omega)
                ·
                  try with_reducible replace hc1 := dec_f hc1
                  refine WC_exit ?_
                  refine hK25 _ _ ?_
                  clear hK33 K32
                  clear hJ31 J30
                  clear hK25 K24
                  refine WC_seq (fun K73 hK74 => ?_)
                  refine WC_region ?_
                  refine WL_val (dd := some 2) rfl rfl rfl (r_assign (v := .bool true) rfl) ?_
                  refine WL_nil ?_
                  refine hK74 _ _ ?_
                  clear hK74 K73
                  refine WC_ret ?_
                  repeat (first | refine thenQ_ret ?_ | refine blockQ_ret ?_)
                  refine ret_t (v := .bool true) rfl ?_
                  refine ⟨hB, ?_⟩
                  first | exact rightT_f (by omega) | exact rightT_k (k := k) (by omega) (ln_1 (by rw [← hck]; exact bool_t hs7_6)) | exact rightT_k (k := k) (by omega) (ln_2 hc2) | exact rightT_k (k := k) (by omega) (ln_3 (j := j) (by omega) (by have h1 : ¬ (T.ls.getD k ln0).os.getD j 0 = 0 := hs12_6; have h2 : ¬ (T.ls.getD k ln0).os.getD j 0 = 1 := hs12_14; have h3 : ¬ (T.ls.getD k ln0).os.getD j 0 = 2 := hc4; omega)) | exact rightT_t (by omega) (fun q hq' => hq q (by omega))

theorem C_pla_Same (T : Tb) (lv : Value) (vs : List LnV) (U : Tb) (lu : Value) (us : List LnV) (w : World) (hlv : SlT encLn 3 w lv vs) (hls : LsAt w vs T.ls) (hmb : ∀ i, i < T.ls.length → (T.ls.getD i ln0).c.m < 256 ∧ (T.ls.getD i ln0).c.v < 256) (hlv2 : SlT encLn 3 w lu us) (hls2 : LsAt w us U.ls) (hmb2 : ∀ i, i < U.ls.length → (U.ls.getD i ln0).c.m < 256 ∧ (U.ls.getD i ln0).c.v < 256) (hvl : T.ls.length ≤ 1000000) (hol : ∀ k, k < T.ls.length → (T.ls.getD k ln0).os.length ≤ 1000000) :
    Fn Tryd.prog 12 #[.agg #[.int .i64 T.kind, .int .i64 T.ni, .int .i64 T.no, lv], .agg #[.int .i64 U.kind, .int .i64 U.ni, .int .i64 U.no, lu]] w fun v w' => v = .bool (decide (T = U)) := by
  refine Fn_intro (n := 82) Tryd.func12 rfl rfl (Nat.le_of_ble_eq_true rfl) ?_
  have hB : Below w.heap.size w w := Below.refl _ _
  have hle := hls.len
  have hle2 := hls2.len
  refine WC_seq (fun K1 hK2 => ?_)
  refine WC_region ?_
  refine WL_step (dd := some 2) rfl rfl rfl (Y_box (c := #[_, _, _, _]) rfl rfl (fun b0_0 W3 hb4 hE5 hm0_0 => ?_))
  have lo_b0_0 : w.heap.size ≤ b0_0 := hb4 ▸ (Below.size hB)
  clear hb4
  replace hB := below_ext hB hE5 (Nat.le_refl _)
  clear hE5
  refine WL_step (dd := some 3) rfl rfl rfl (Y_box (c := #[_, _, _, _]) rfl rfl (fun b0_1 W6 hb7 hE8 hm0_1 => ?_))
  have lo_b0_1 : w.heap.size ≤ b0_1 := hb7 ▸ (Below.size hB)
  have ne_b0_0_b0_1 : b0_0 ≠ b0_1 := Nat.ne_of_lt (hb7 ▸ hm0_0.lt)
  clear hb7
  replace hB := below_ext hB hE8 (Nat.le_refl _)
  replace hm0_0 := hE8.at hm0_0
  clear hE8
  refine WL_val (dd := some 4) rfl rfl rfl (r_assign (v := .bool false) rfl) ?_
  refine WL_nil ?_
  refine hK2 _ _ ?_
  clear hK2 K1
  refine WC_seq (fun K9 hK10 => ?_)
  refine WC_seq (fun K11 hK12 => ?_)
  refine WC_region ?_
  refine WL_val (dd := some 10) rfl rfl rfl (r_fieldAddr (b := _) (o := _) rfl tb_fo24_0) ?_
  refine WL_val (dd := some 11) rfl rfl rfl (r_load1 (v := .int .i64 _) rfl tb_sc3 (At.cell hm0_0 rfl)) ?_
  refine WL_val (dd := some 12) rfl rfl rfl (r_fieldAddr (b := _) (o := _) rfl tb_fo24_0) ?_
  refine WL_val (dd := some 13) rfl rfl rfl (r_load1 (v := .int .i64 _) rfl tb_sc3 (At.cell hm0_1 rfl)) ?_
  refine WL_val (dd := some 14) rfl rfl rfl (r_neq rfl rfl) ?_
  refine WL_split (dd := some 15) rfl rfl rfl (r_move (v := .bool _) rfl) (fun hs1_5 => ?_) (fun hs1_5 => ?_)
  ·
    try with_reducible replace hs1_5 := dec_t hs1_5
    refine WL_skip (dd := some 16) rfl rfl rfl ?_
    refine WL_skip (dd := some 17) rfl rfl rfl ?_
    refine WL_skip (dd := some 18) rfl rfl rfl ?_
    refine WL_skip (dd := some 19) rfl rfl rfl ?_
    refine WL_skip (dd := some 20) rfl rfl rfl ?_
    refine WL_val (dd := some 21) rfl rfl rfl (r_pick_t rfl (v := .bool true) rfl) ?_
    refine WL_val (dd := some 22) rfl rfl rfl (r_move (v := .bool true) rfl) ?_
    refine WL_skip (dd := some 23) rfl rfl rfl ?_
    refine WL_skip (dd := some 24) rfl rfl rfl ?_
    refine WL_skip (dd := some 25) rfl rfl rfl ?_
    refine WL_skip (dd := some 26) rfl rfl rfl ?_
    refine WL_skip (dd := some 27) rfl rfl rfl ?_
    refine WL_val (dd := some 28) rfl rfl rfl (r_pick_t rfl (v := .bool true) rfl) ?_
    refine WL_val (dd := some 29) rfl rfl rfl (r_move (v := .bool true) rfl) ?_
    refine WL_skip (dd := some 30) rfl rfl rfl ?_
    refine WL_skip (dd := some 31) rfl rfl rfl ?_
    refine WL_skip (dd := some 32) rfl rfl rfl ?_
    refine WL_skip (dd := some 33) rfl rfl rfl ?_
    refine WL_skip (dd := some 34) rfl rfl rfl ?_
    refine WL_skip (dd := some 35) rfl rfl rfl ?_
    refine WL_skip (dd := some 36) rfl rfl rfl ?_
    refine WL_val (dd := some 37) rfl rfl rfl (r_pick_t rfl (v := .bool true) rfl) ?_
    refine WL_nil ?_
    refine hK12 _ _ ?_
    clear hK12 K11
    refine WC_cond_true rfl ?_
    refine WC_seq (fun K13 hK14 => ?_)
    refine WC_region ?_
    refine WL_val (dd := some 4) rfl rfl rfl (r_assign (v := .bool false) rfl) ?_
    refine WL_nil ?_
    refine hK14 _ _ ?_
    clear hK14 K13
    refine WC_ret ?_
    repeat (first | refine thenQ_ret ?_ | refine blockQ_ret ?_)
    try clear hK10 K9
    refine ret_t (v := .bool false) rfl ?_
    refine ⟨hB, ?_⟩
    first | exact tb_ne (tb_hd (by omega)) | exact tb_ne (tb_ln (ln_cube hck hck2 hs7_5)) | exact tb_ne (tb_ln (ln_outs hc2)) | exact tb_ne (tb_ln (k := k) (ln_out (j := j) hc4)) | exact tb_is (tb_ext (by omega) (fun q hq' => hq q (by omega)))
  ·
    try with_reducible replace hs1_5 := dec_f hs1_5
    refine WL_val (dd := some 16) rfl rfl rfl (r_fieldAddr (b := _) (o := _) rfl tb_fo24_1) ?_
    refine WL_val (dd := some 17) rfl rfl rfl (r_load1 (v := .int .i64 _) rfl tb_sc3 (At.cell hm0_0 rfl)) ?_
    refine WL_val (dd := some 18) rfl rfl rfl (r_fieldAddr (b := _) (o := _) rfl tb_fo24_1) ?_
    refine WL_val (dd := some 19) rfl rfl rfl (r_load1 (v := .int .i64 _) rfl tb_sc3 (At.cell hm0_1 rfl)) ?_
    refine WL_val (dd := some 20) rfl rfl rfl (r_neq rfl rfl) ?_
    refine WL_val (dd := some 21) rfl rfl rfl (r_pick_f rfl (v := .bool _) rfl) ?_
    refine WL_split (dd := some 22) rfl rfl rfl (r_move (v := .bool _) rfl) (fun hs1_12 => ?_) (fun hs1_12 => ?_)
    ·
      try with_reducible replace hs1_12 := dec_t hs1_12
      refine WL_skip (dd := some 23) rfl rfl rfl ?_
      refine WL_skip (dd := some 24) rfl rfl rfl ?_
      refine WL_skip (dd := some 25) rfl rfl rfl ?_
      refine WL_skip (dd := some 26) rfl rfl rfl ?_
      refine WL_skip (dd := some 27) rfl rfl rfl ?_
      refine WL_val (dd := some 28) rfl rfl rfl (r_pick_t rfl (v := .bool true) rfl) ?_
      refine WL_val (dd := some 29) rfl rfl rfl (r_move (v := .bool true) rfl) ?_
      refine WL_skip (dd := some 30) rfl rfl rfl ?_
      refine WL_skip (dd := some 31) rfl rfl rfl ?_
      refine WL_skip (dd := some 32) rfl rfl rfl ?_
      refine WL_skip (dd := some 33) rfl rfl rfl ?_
      refine WL_skip (dd := some 34) rfl rfl rfl ?_
      refine WL_skip (dd := some 35) rfl rfl rfl ?_
      refine WL_skip (dd := some 36) rfl rfl rfl ?_
      refine WL_val (dd := some 37) rfl rfl rfl (r_pick_t rfl (v := .bool true) rfl) ?_
      refine WL_nil ?_
      refine hK12 _ _ ?_
      clear hK12 K11
      refine WC_cond_true rfl ?_
      refine WC_seq (fun K15 hK16 => ?_)
      refine WC_region ?_
      refine WL_val (dd := some 4) rfl rfl rfl (r_assign (v := .bool false) rfl) ?_
      refine WL_nil ?_
      refine hK16 _ _ ?_
      clear hK16 K15
      refine WC_ret ?_
      repeat (first | refine thenQ_ret ?_ | refine blockQ_ret ?_)
      try clear hK10 K9
      refine ret_t (v := .bool false) rfl ?_
      refine ⟨hB, ?_⟩
      first | exact tb_ne (tb_hd (by omega)) | exact tb_ne (tb_ln (ln_cube hck hck2 hs7_5)) | exact tb_ne (tb_ln (ln_outs hc2)) | exact tb_ne (tb_ln (k := k) (ln_out (j := j) hc4)) | exact tb_is (tb_ext (by omega) (fun q hq' => hq q (by omega)))
    ·
      try with_reducible replace hs1_12 := dec_f hs1_12
      refine WL_val (dd := some 23) rfl rfl rfl (r_fieldAddr (b := _) (o := _) rfl tb_fo24_2) ?_
      refine WL_val (dd := some 24) rfl rfl rfl (r_load1 (v := .int .i64 _) rfl tb_sc3 (At.cell hm0_0 rfl)) ?_
      refine WL_val (dd := some 25) rfl rfl rfl (r_fieldAddr (b := _) (o := _) rfl tb_fo24_2) ?_
      refine WL_val (dd := some 26) rfl rfl rfl (r_load1 (v := .int .i64 _) rfl tb_sc3 (At.cell hm0_1 rfl)) ?_
      refine WL_val (dd := some 27) rfl rfl rfl (r_neq rfl rfl) ?_
      refine WL_val (dd := some 28) rfl rfl rfl (r_pick_f rfl (v := .bool _) rfl) ?_
      refine WL_split (dd := some 29) rfl rfl rfl (r_move (v := .bool _) rfl) (fun hs1_19 => ?_) (fun hs1_19 => ?_)
      ·
        try with_reducible replace hs1_19 := dec_t hs1_19
        refine WL_skip (dd := some 30) rfl rfl rfl ?_
        refine WL_skip (dd := some 31) rfl rfl rfl ?_
        refine WL_skip (dd := some 32) rfl rfl rfl ?_
        refine WL_skip (dd := some 33) rfl rfl rfl ?_
        refine WL_skip (dd := some 34) rfl rfl rfl ?_
        refine WL_skip (dd := some 35) rfl rfl rfl ?_
        refine WL_skip (dd := some 36) rfl rfl rfl ?_
        refine WL_val (dd := some 37) rfl rfl rfl (r_pick_t rfl (v := .bool true) rfl) ?_
        refine WL_nil ?_
        refine hK12 _ _ ?_
        clear hK12 K11
        refine WC_cond_true rfl ?_
        refine WC_seq (fun K17 hK18 => ?_)
        refine WC_region ?_
        refine WL_val (dd := some 4) rfl rfl rfl (r_assign (v := .bool false) rfl) ?_
        refine WL_nil ?_
        refine hK18 _ _ ?_
        clear hK18 K17
        refine WC_ret ?_
        repeat (first | refine thenQ_ret ?_ | refine blockQ_ret ?_)
        try clear hK10 K9
        refine ret_t (v := .bool false) rfl ?_
        refine ⟨hB, ?_⟩
        first | exact tb_ne (tb_hd (by omega)) | exact tb_ne (tb_ln (ln_cube hck hck2 hs7_5)) | exact tb_ne (tb_ln (ln_outs hc2)) | exact tb_ne (tb_ln (k := k) (ln_out (j := j) hc4)) | exact tb_is (tb_ext (by omega) (fun q hq' => hq q (by omega)))
      ·
        try with_reducible replace hs1_19 := dec_f hs1_19
        refine WL_val (dd := some 30) rfl rfl rfl (r_fieldAddr (b := _) (o := _) rfl tb_fo24_3) ?_
        refine WL_val (dd := some 31) rfl rfl rfl (r_load1 (v := lv) rfl tb_sc22 (At.cell hm0_0 rfl)) ?_
        refine WL_val (dd := some 32) rfl rfl rfl (r_lenS (v := lv) rfl (Below.slT hB hlv) tb_el22) ?_
        refine WL_val (dd := some 33) rfl rfl rfl (r_fieldAddr (b := _) (o := _) rfl tb_fo24_3) ?_
        refine WL_val (dd := some 34) rfl rfl rfl (r_load1 (v := lu) rfl tb_sc22 (At.cell hm0_1 rfl)) ?_
        refine WL_val (dd := some 35) rfl rfl rfl (r_lenS (v := lu) rfl (Below.slT hB hlv2) tb_el22) ?_
        refine WL_val (dd := some 36) rfl rfl rfl (r_neq rfl rfl) ?_
        refine WL_val (dd := some 37) rfl rfl rfl (r_pick_f rfl (v := .bool _) rfl) ?_
        refine WL_nil ?_
        refine hK12 _ _ ?_
        clear hK12 K11
        refine WC_cond (b := _) rfl (fun hc0 => ?_) (fun hc0 => ?_)
        ·
          try with_reducible replace hc0 := dec_t hc0
          refine WC_seq (fun K19 hK20 => ?_)
          refine WC_region ?_
          refine WL_val (dd := some 4) rfl rfl rfl (r_assign (v := .bool false) rfl) ?_
          refine WL_nil ?_
          refine hK20 _ _ ?_
          clear hK20 K19
          refine WC_ret ?_
          repeat (first | refine thenQ_ret ?_ | refine blockQ_ret ?_)
          try clear hK10 K9
          refine ret_t (v := .bool false) rfl ?_
          refine ⟨hB, ?_⟩
          first | exact tb_ne (tb_hd (by omega)) | exact tb_ne (tb_ln (ln_cube hck hck2 hs7_5)) | exact tb_ne (tb_ln (ln_outs hc2)) | exact tb_ne (tb_ln (k := k) (ln_out (j := j) hc4)) | exact tb_is (tb_ext (by omega) (fun q hq' => hq q (by omega)))
        ·
          try with_reducible replace hc0 := dec_f hc0
          refine WC_skip ?_
          refine hK10 _ _ ?_
          clear hK10 K9
          refine WC_seq (fun K21 hK22 => ?_)
          refine WC_seq (fun K23 hK24 => ?_)
          refine WC_region ?_
          refine WL_val (dd := some 38) rfl rfl rfl (r_fieldAddr (b := _) (o := _) rfl tb_fo24_3) ?_
          refine WL_val (dd := some 39) rfl rfl rfl (r_load1 (v := lv) rfl tb_sc22 (At.cell hm0_0 rfl)) ?_
          refine WL_val (dd := some 40) rfl rfl rfl (r_lenS (v := lv) rfl (Below.slT hB hlv) tb_el22) ?_
          refine WL_val (dd := some 41) rfl rfl rfl (r_move (v := .int .i64 0) rfl) ?_
          refine WL_nil ?_
          refine hK24 _ _ ?_
          clear hK24 K23
          refine WC_block ?_
          refine WC_loop (σ := (Nat)) [4, 5, 6, 7, 8, 9, 41, 42, 43, 44, 45, 46, 47, 48, 49, 50, 51, 52, 53, 54, 55, 56, 57, 58, 59, 60, 61, 62, 63, 64, 65, 66, 67, 68, 69, 70, 71, 72, 73, 74, 75, 76, 77, 78, 79, 80, 81] (fun k => [(41, .int .i64 (k : Int))]) (fun k W => (Below w.heap.size w W) ∧ (At W b0_0 _ 24) ∧ (At W b0_1 _ 24) ∧ (k ≤ T.ls.length) ∧ (∀ q, q < k → T.ls.getD q ln0 = U.ls.getD q ln0) ∧ (True)) (fun k => T.ls.length - k) (0) ⟨rfl, trivial⟩ ⟨hB, hm0_0, hm0_1, (Nat.zero_le _), upTo_zero, trivial⟩ ?_
          clear hB hm0_0 hm0_1
          rintro k g26 W25 ⟨hB, hm0_0, hm0_1, hk, hq, _⟩ J27 hJ28
          refine WC_seq (fun K29 hK30 => ?_)
          refine WC_region ?_
          refine WL_val (dd := some 42) rfl rfl rfl (r_lss rfl rfl) ?_
          refine WL_nil ?_
          refine hK30 _ _ ?_
          clear hK30 K29
          refine WC_seq (fun K31 hK32 => ?_)
          refine WC_cond (b := _) rfl (fun hc1 => ?_) (fun hc1 => ?_)
          ·
            try with_reducible replace hc1 := dec_t hc1
            refine WC_skip ?_
            refine hK32 _ _ ?_
            clear hK32 K31
            refine WC_seq (fun K33 hK34 => ?_)
            refine WC_block ?_
            refine WC_seq (fun K35 hK36 => ?_)
            have hck := hls.c k (by omega)
            have hck2 := hls2.c k (by omega)
            have hok := hol k (by omega)
            refine WC_region ?_
            refine WL_val (dd := some 43) rfl rfl rfl (r_move (v := .int .i64 _) rfl) ?_
            refine WL_val (dd := some 44) rfl rfl rfl (r_idxS (v := lv) rfl (Below.slT hB hlv) rfl tb_el22 (by omega) (by omega)) ?_
            refine WL_val (dd := some 45) rfl rfl rfl (r_load3 rfl tb_ag45 (SlT.cell (Below.slT hB hlv) encLn_len lv0 (by omega) (by omega) 0 rfl) (SlT.cell (Below.slT hB hlv) encLn_len lv0 (by omega) (by omega) 1 rfl) (SlT.cell (Below.slT hB hlv) encLn_len lv0 (by omega) (by omega) 2 rfl)) ?_
            have hp5_2 : SlT encI 1 w ((vs.getD k lv0).o) ((T.ls.getD k ln0).os) := hls.o k (by omega)
            refine WL_step (dd := some 6) rfl rfl rfl (Y_alloc tb_z45 rfl (fun b5_3 W37 hb38 hE39 hm5_3 => ?_))
            have lo_b5_3 : w.heap.size ≤ b5_3 := hb38 ▸ (Below.size hB)
            clear hb38
            replace hB := below_ext hB hE39 (Nat.le_refl _)
            replace hm0_0 := hE39.at hm0_0
            replace hm0_1 := hE39.at hm0_1
            clear hE39
            refine WL_val (dd := some 5) rfl rfl rfl (r_assign (v := .int .i64 _) rfl) ?_
            refine WL_step (dd := none) rfl rfl rfl (Y_storeW rfl rfl tb_ag45 rfl hm5_3 rfl (by exact one_ln (SlT.one hp5_2)) (fun W40 hG41 hm42 => ?_))
            replace hB := below_grown hB hG41 (Nat.le_refl _) (fun j hj => by cases hj; exact lo_b5_3)
            replace hm0_0 := At.grownAt hm0_0 hm5_3 hG41 (by decide)
            replace hm0_1 := At.grownAt hm0_1 hm5_3 hG41 (by decide)
            clear hG41 hm5_3
            have hm5_3 := hm42
            clear hm42
            refine WL_nil ?_
            refine hK36 _ _ ?_
            clear hK36 K35
            refine WC_seq (fun K43 hK44 => ?_)
            refine WC_region ?_
            refine WL_val (dd := some 46) rfl rfl rfl (r_fieldAddr (b := _) (o := _) rfl tb_fo24_3) ?_
            refine WL_val (dd := some 47) rfl rfl rfl (r_load1 (v := lu) rfl tb_sc22 (At.cell hm0_1 rfl)) ?_
            refine WL_val (dd := some 48) rfl rfl rfl (r_move (v := .int .i64 _) rfl) ?_
            refine WL_val (dd := some 49) rfl rfl rfl (r_idxS (v := lu) rfl (Below.slT hB hlv2) rfl tb_el22 (by omega) (by omega)) ?_
            refine WL_val (dd := some 50) rfl rfl rfl (r_load3 rfl tb_ag45 (SlT.cell (Below.slT hB hlv2) encLn_len lv0 (by omega) (by omega) 0 rfl) (SlT.cell (Below.slT hB hlv2) encLn_len lv0 (by omega) (by omega) 1 rfl) (SlT.cell (Below.slT hB hlv2) encLn_len lv0 (by omega) (by omega) 2 rfl)) ?_
            have hp6_4 : SlT encI 1 w ((us.getD k lv0).o) ((U.ls.getD k ln0).os) := hls2.o k (by omega)
            refine WL_step (dd := some 7) rfl rfl rfl (Y_alloc tb_z45 rfl (fun b6_5 W45 hb46 hE47 hm6_5 => ?_))
            have lo_b6_5 : w.heap.size ≤ b6_5 := hb46 ▸ (Below.size hB)
            have ne_b5_3_b6_5 : b5_3 ≠ b6_5 := Nat.ne_of_lt (hb46 ▸ hm5_3.lt)
            clear hb46
            replace hB := below_ext hB hE47 (Nat.le_refl _)
            replace hm0_0 := hE47.at hm0_0
            replace hm0_1 := hE47.at hm0_1
            replace hm5_3 := hE47.at hm5_3
            clear hE47
            refine WL_step (dd := none) rfl rfl rfl (Y_storeW rfl rfl tb_ag45 rfl hm6_5 rfl (by exact one_ln (SlT.one hp6_4)) (fun W48 hG49 hm50 => ?_))
            replace hB := below_grown hB hG49 (Nat.le_refl _) (fun j hj => by cases hj; exact lo_b6_5)
            replace hm0_0 := At.grownAt hm0_0 hm6_5 hG49 (by decide)
            replace hm0_1 := At.grownAt hm0_1 hm6_5 hG49 (by decide)
            replace hm5_3 := At.grownNe hm5_3 ne_b5_3_b6_5 hG49
            clear hG49 hm6_5
            have hm6_5 := hm50
            clear hm50
            refine WL_nil ?_
            refine hK44 _ _ ?_
            clear hK44 K43
            refine WC_seq (fun K51 hK52 => ?_)
            refine WC_seq (fun K53 hK54 => ?_)
            refine WC_region ?_
            refine WL_val (dd := some 51) rfl rfl rfl (r_fieldAddr (b := _) (o := _) rfl tb_fo45_0) ?_
            refine WL_val (dd := some 52) rfl rfl rfl (r_load2 rfl tb_ag42 (At.cell hm5_3 rfl) (At.cell hm5_3 rfl)) ?_
            refine WL_val (dd := some 53) rfl rfl rfl (r_fieldAddr (b := _) (o := _) rfl tb_fo45_0) ?_
            refine WL_val (dd := some 54) rfl rfl rfl (r_load2 rfl tb_ag42 (At.cell hm6_5 rfl) (At.cell hm6_5 rfl)) ?_
            refine WL_val (dd := some 55) rfl rfl rfl (tb_neq42 rfl rfl) ?_
            refine WL_split (dd := some 56) rfl rfl rfl (r_move (v := .bool _) rfl) (fun hs7_5 => ?_) (fun hs7_5 => ?_)
            ·
              try with_reducible replace hs7_5 := dec_t hs7_5
              refine WL_skip (dd := some 57) rfl rfl rfl ?_
              refine WL_skip (dd := some 58) rfl rfl rfl ?_
              refine WL_skip (dd := some 59) rfl rfl rfl ?_
              refine WL_skip (dd := some 60) rfl rfl rfl ?_
              refine WL_skip (dd := some 61) rfl rfl rfl ?_
              refine WL_skip (dd := some 62) rfl rfl rfl ?_
              refine WL_skip (dd := some 63) rfl rfl rfl ?_
              refine WL_val (dd := some 64) rfl rfl rfl (r_pick_t rfl (v := .bool true) rfl) ?_
              refine WL_nil ?_
              refine hK54 _ _ ?_
              clear hK54 K53
              refine WC_cond_true rfl ?_
              refine WC_seq (fun K55 hK56 => ?_)
              refine WC_region ?_
              refine WL_val (dd := some 4) rfl rfl rfl (r_assign (v := .bool false) rfl) ?_
              refine WL_nil ?_
              refine hK56 _ _ ?_
              clear hK56 K55
              refine WC_ret ?_
              repeat (first | refine thenQ_ret ?_ | refine blockQ_ret ?_)
              try clear hK52 K51
              try clear hK34 K33
              try clear hJ28 J27
              try clear hK22 K21
              refine ret_t (v := .bool false) rfl ?_
              refine ⟨hB, ?_⟩
              first | exact tb_ne (tb_hd (by omega)) | exact tb_ne (tb_ln (ln_cube hck hck2 hs7_5)) | exact tb_ne (tb_ln (ln_outs hc2)) | exact tb_ne (tb_ln (k := k) (ln_out (j := j) hc4)) | exact tb_is (tb_ext (by omega) (fun q hq' => hq q (by omega)))
            ·
              try with_reducible replace hs7_5 := dec_f hs7_5
              refine WL_val (dd := some 57) rfl rfl rfl (r_fieldAddr (b := _) (o := _) rfl tb_fo45_1) ?_
              refine WL_val (dd := some 58) rfl rfl rfl (r_load1 (v := (vs.getD k lv0).o) rfl tb_sc43 (At.cell hm5_3 rfl)) ?_
              refine WL_val (dd := some 59) rfl rfl rfl (r_lenS (v := (vs.getD k lv0).o) rfl (Below.slT hB hp5_2) tb_el43) ?_
              refine WL_val (dd := some 60) rfl rfl rfl (r_fieldAddr (b := _) (o := _) rfl tb_fo45_1) ?_
              refine WL_val (dd := some 61) rfl rfl rfl (r_load1 (v := (us.getD k lv0).o) rfl tb_sc43 (At.cell hm6_5 rfl)) ?_
              refine WL_val (dd := some 62) rfl rfl rfl (r_lenS (v := (us.getD k lv0).o) rfl (Below.slT hB hp6_4) tb_el43) ?_
              refine WL_val (dd := some 63) rfl rfl rfl (r_neq rfl rfl) ?_
              refine WL_val (dd := some 64) rfl rfl rfl (r_pick_f rfl (v := .bool _) rfl) ?_
              refine WL_nil ?_
              refine hK54 _ _ ?_
              clear hK54 K53
              refine WC_cond (b := _) rfl (fun hc2 => ?_) (fun hc2 => ?_)
              ·
                try with_reducible replace hc2 := dec_t hc2
                refine WC_seq (fun K57 hK58 => ?_)
                refine WC_region ?_
                refine WL_val (dd := some 4) rfl rfl rfl (r_assign (v := .bool false) rfl) ?_
                refine WL_nil ?_
                refine hK58 _ _ ?_
                clear hK58 K57
                refine WC_ret ?_
                repeat (first | refine thenQ_ret ?_ | refine blockQ_ret ?_)
                try clear hK52 K51
                try clear hK34 K33
                try clear hJ28 J27
                try clear hK22 K21
                refine ret_t (v := .bool false) rfl ?_
                refine ⟨hB, ?_⟩
                first | exact tb_ne (tb_hd (by omega)) | exact tb_ne (tb_ln (ln_cube hck hck2 hs7_5)) | exact tb_ne (tb_ln (ln_outs hc2)) | exact tb_ne (tb_ln (k := k) (ln_out (j := j) hc4)) | exact tb_is (tb_ext (by omega) (fun q hq' => hq q (by omega)))
              ·
                try with_reducible replace hc2 := dec_f hc2
                refine WC_skip ?_
                refine hK52 _ _ ?_
                clear hK52 K51
                refine WC_seq (fun K59 hK60 => ?_)
                refine WC_region ?_
                refine WL_val (dd := some 65) rfl rfl rfl (r_fieldAddr (b := _) (o := _) rfl tb_fo45_1) ?_
                refine WL_val (dd := some 66) rfl rfl rfl (r_load1 (v := (vs.getD k lv0).o) rfl tb_sc43 (At.cell hm5_3 rfl)) ?_
                refine WL_val (dd := some 67) rfl rfl rfl (r_lenS (v := (vs.getD k lv0).o) rfl (Below.slT hB hp5_2) tb_el43) ?_
                refine WL_val (dd := some 68) rfl rfl rfl (r_move (v := .int .i64 0) rfl) ?_
                refine WL_nil ?_
                refine hK60 _ _ ?_
                clear hK60 K59
                refine WC_block ?_
                refine WC_loop (σ := (Nat)) [4, 8, 9, 68, 69, 70, 71, 72, 73, 74, 75, 76, 77, 78, 79, 80] (fun j => [(68, .int .i64 (j : Int))]) (fun j W => (Below w.heap.size w W) ∧ (At W b0_0 _ 24) ∧ (At W b0_1 _ 24) ∧ (At W b5_3 _ 45) ∧ (At W b6_5 _ 45) ∧ (j ≤ (T.ls.getD k ln0).os.length) ∧ (∀ q, q < j → (T.ls.getD k ln0).os.getD q 0 = (U.ls.getD k ln0).os.getD q 0) ∧ (True)) (fun j => (T.ls.getD k ln0).os.length - j) (0) ⟨rfl, trivial⟩ ⟨hB, hm0_0, hm0_1, hm5_3, hm6_5, (Nat.zero_le _), upTo_zero, trivial⟩ ?_
                clear hB hm0_0 hm0_1 hm5_3 hm6_5
                rintro j g62 W61 ⟨hB, hm0_0, hm0_1, hm5_3, hm6_5, hj, hqj, _⟩ J63 hJ64
                refine WC_seq (fun K65 hK66 => ?_)
                refine WC_region ?_
                refine WL_val (dd := some 69) rfl rfl rfl (r_lss rfl rfl) ?_
                refine WL_nil ?_
                refine hK66 _ _ ?_
                clear hK66 K65
                refine WC_seq (fun K67 hK68 => ?_)
                refine WC_cond (b := _) rfl (fun hc3 => ?_) (fun hc3 => ?_)
                ·
                  try with_reducible replace hc3 := dec_t hc3
                  refine WC_skip ?_
                  refine hK68 _ _ ?_
                  clear hK68 K67
                  refine WC_seq (fun K69 hK70 => ?_)
                  refine WC_block ?_
                  refine WC_seq (fun K71 hK72 => ?_)
                  refine WC_region ?_
                  refine WL_val (dd := some 70) rfl rfl rfl (r_move (v := .int .i64 _) rfl) ?_
                  refine WL_val (dd := some 71) rfl rfl rfl (r_idxS (v := (vs.getD k lv0).o) rfl (Below.slT hB hp5_2) rfl tb_el43 (by omega) (by omega)) ?_
                  refine WL_val (dd := some 72) rfl rfl rfl (r_load1 (v := .int .i64 _) rfl tb_sc3 (SlT.cell (Below.slT hB hp5_2) encI_len 0 (by omega) (by omega) 0 rfl)) ?_
                  refine WL_val (dd := some 8) rfl rfl rfl (r_assign (v := .int .i64 _) rfl) ?_
                  refine WL_val (dd := some 9) rfl rfl rfl (r_assign (v := .int .i64 _) rfl) ?_
                  refine WL_nil ?_
                  refine hK72 _ _ ?_
                  clear hK72 K71
                  refine WC_seq (fun K73 hK74 => ?_)
                  refine WC_region ?_
                  refine WL_val (dd := some 73) rfl rfl rfl (r_move (v := .int .i64 _) rfl) ?_
                  refine WL_val (dd := some 74) rfl rfl rfl (r_fieldAddr (b := _) (o := _) rfl tb_fo45_1) ?_
                  refine WL_val (dd := some 75) rfl rfl rfl (r_load1 (v := (us.getD k lv0).o) rfl tb_sc43 (At.cell hm6_5 rfl)) ?_
                  refine WL_val (dd := some 76) rfl rfl rfl (r_move (v := .int .i64 _) rfl) ?_
                  refine WL_val (dd := some 77) rfl rfl rfl (r_idxS (v := (us.getD k lv0).o) rfl (Below.slT hB hp6_4) rfl tb_el43 (by omega) (by omega)) ?_
                  refine WL_val (dd := some 78) rfl rfl rfl (r_load1 (v := .int .i64 _) rfl tb_sc3 (SlT.cell (Below.slT hB hp6_4) encI_len 0 (by omega) (by omega) 0 rfl)) ?_
                  refine WL_val (dd := some 79) rfl rfl rfl (r_neq rfl rfl) ?_
                  refine WL_nil ?_
                  refine hK74 _ _ ?_
                  clear hK74 K73
                  refine WC_cond (b := _) rfl (fun hc4 => ?_) (fun hc4 => ?_)
                  ·
                    try with_reducible replace hc4 := dec_t hc4
                    refine WC_seq (fun K75 hK76 => ?_)
                    refine WC_region ?_
                    refine WL_val (dd := some 4) rfl rfl rfl (r_assign (v := .bool false) rfl) ?_
                    refine WL_nil ?_
                    refine hK76 _ _ ?_
                    clear hK76 K75
                    refine WC_ret ?_
                    repeat (first | refine thenQ_ret ?_ | refine blockQ_ret ?_)
                    try clear hK70 K69
                    try clear hJ64 J63
                    try clear hK34 K33
                    try clear hJ28 J27
                    try clear hK22 K21
                    refine ret_t (v := .bool false) rfl ?_
                    refine ⟨hB, ?_⟩
                    first | exact tb_ne (tb_hd (by omega)) | exact tb_ne (tb_ln (ln_cube hck hck2 hs7_5)) | exact tb_ne (tb_ln (ln_outs hc2)) | exact tb_ne (tb_ln (k := k) (ln_out (j := j) hc4)) | exact tb_is (tb_ext (by omega) (fun q hq' => hq q (by omega)))
                  ·
                    try with_reducible replace hc4 := dec_f hc4
                    refine WC_skip ?_
                    refine hK70 _ _ ?_
                    clear hK70 K69
                    have hsj : (T.ls.getD k ln0).os.getD j 0 = (U.ls.getD k ln0).os.getD j 0 := Decidable.of_not_not hc4
                    refine WC_region ?_
                    refine WL_val (dd := some 80) rfl rfl rfl (r_addI rfl rfl (by omega) (by omega)) ?_
                    refine WL_val (dd := some 68) rfl rfl rfl (r_move (v := .int .i64 _) rfl) ?_
                    refine WL_nil ?_
                    refine hJ64 _ _ (j + 1) ?_ ?_ ?_ ?_
                    · repeat (first | exact agree.mask _ _ _ | refine agree.updo ?_ rfl _ | refine agree.updL ?_ _ rfl | refine agree.maskS rfl ?_)
                    · exact ⟨rfl, trivial⟩
                    · exact ⟨hB, hm0_0, hm0_1, hm5_3, hm6_5, (by omega), (upTo_succ hqj hsj), trivial⟩
                    · show (T.ls.getD k ln0).os.length - (j + 1) < (T.ls.getD k ln0).os.length - j; omega
                ·
                  try with_reducible replace hc3 := dec_f hc3
                  refine WC_exit ?_
                  refine hK34 _ _ ?_
                  clear hK68 K67
                  clear hJ64 J63
                  clear hK34 K33
                  have hcc := cube_same hck hck2 hs7_5
                  have hqj2 : ∀ q, q < (T.ls.getD k ln0).os.length → (T.ls.getD k ln0).os.getD q 0 = (U.ls.getD k ln0).os.getD q 0 := fun q hq' => hqj q (by omega)
                  refine WC_region ?_
                  refine WL_val (dd := some 81) rfl rfl rfl (r_addI rfl rfl (by omega) (by omega)) ?_
                  refine WL_val (dd := some 41) rfl rfl rfl (r_move (v := .int .i64 _) rfl) ?_
                  refine WL_nil ?_
                  refine hJ28 _ _ (k + 1) ?_ ?_ ?_ ?_
                  · repeat (first | exact agree.mask _ _ _ | refine agree.updo ?_ rfl _ | refine agree.updL ?_ _ rfl | refine agree.maskS rfl ?_)
                  · exact ⟨rfl, trivial⟩
                  · exact ⟨hB, hm0_0, hm0_1, (by omega), (upTo_succ hq (ln_ext hcc (by omega) hqj2)), trivial⟩
                  · first | omega | (dsimp only; omega)
          ·
            try with_reducible replace hc1 := dec_f hc1
            refine WC_exit ?_
            refine hK22 _ _ ?_
            clear hK32 K31
            clear hJ28 J27
            clear hK22 K21
            refine WC_seq (fun K77 hK78 => ?_)
            refine WC_region ?_
            refine WL_val (dd := some 4) rfl rfl rfl (r_assign (v := .bool true) rfl) ?_
            refine WL_nil ?_
            refine hK78 _ _ ?_
            clear hK78 K77
            refine WC_ret ?_
            repeat (first | refine thenQ_ret ?_ | refine blockQ_ret ?_)
            refine ret_t (v := .bool true) rfl ?_
            refine ⟨hB, ?_⟩
            first | exact tb_ne (tb_hd (by omega)) | exact tb_ne (tb_ln (ln_cube hck hck2 hs7_5)) | exact tb_ne (tb_ln (ln_outs hc2)) | exact tb_ne (tb_ln (k := k) (ln_out (j := j) hc4)) | exact tb_is (tb_ext (by omega) (fun q hq' => hq q (by omega)))

theorem C_drawkniferef03_Same (T : Tb) (lv : Value) (vs : List LnV) (U : Tb) (lu : Value) (us : List LnV) (w : World) (hlv : SlT encLn 3 w lv vs) (hls : LsAt w vs T.ls) (hmb : ∀ i, i < T.ls.length → (T.ls.getD i ln0).c.m < 256 ∧ (T.ls.getD i ln0).c.v < 256) (hlv2 : SlT encLn 3 w lu us) (hls2 : LsAt w us U.ls) (hmb2 : ∀ i, i < U.ls.length → (U.ls.getD i ln0).c.m < 256 ∧ (U.ls.getD i ln0).c.v < 256) (hvl : T.ls.length ≤ 1000000) (hol : ∀ k, k < T.ls.length → (T.ls.getD k ln0).os.length ≤ 1000000) :
    Fn Tryd.prog 13 #[.agg #[.int .i64 T.kind, .int .i64 T.ni, .int .i64 T.no, lv], .agg #[.int .i64 U.kind, .int .i64 U.ni, .int .i64 U.no, lu]] w fun v w' => v = .bool (decide (T = U)) := by
  refine Fn_intro (n := 86) Tryd.func13 rfl rfl (Nat.le_of_ble_eq_true rfl) ?_
  have hB : Below w.heap.size w w := Below.refl _ _
  have hle := hls.len
  have hle2 := hls2.len
  refine WC_seq (fun K1 hK2 => ?_)
  refine WC_region ?_
  refine WL_step (dd := some 2) rfl rfl rfl (Y_box (c := #[_, _, _, _]) rfl rfl (fun b0_0 W3 hb4 hE5 hm0_0 => ?_))
  have lo_b0_0 : w.heap.size ≤ b0_0 := hb4 ▸ (Below.size hB)
  clear hb4
  replace hB := below_ext hB hE5 (Nat.le_refl _)
  clear hE5
  refine WL_step (dd := some 3) rfl rfl rfl (Y_box (c := #[_, _, _, _]) rfl rfl (fun b0_1 W6 hb7 hE8 hm0_1 => ?_))
  have lo_b0_1 : w.heap.size ≤ b0_1 := hb7 ▸ (Below.size hB)
  have ne_b0_0_b0_1 : b0_0 ≠ b0_1 := Nat.ne_of_lt (hb7 ▸ hm0_0.lt)
  clear hb7
  replace hB := below_ext hB hE8 (Nat.le_refl _)
  replace hm0_0 := hE8.at hm0_0
  clear hE8
  refine WL_val (dd := some 4) rfl rfl rfl (r_assign (v := .bool false) rfl) ?_
  refine WL_nil ?_
  refine hK2 _ _ ?_
  clear hK2 K1
  refine WC_seq (fun K9 hK10 => ?_)
  refine WC_seq (fun K11 hK12 => ?_)
  refine WC_region ?_
  refine WL_val (dd := some 9) rfl rfl rfl (r_fieldAddr (b := _) (o := _) rfl tb_fo24_0) ?_
  refine WL_val (dd := some 10) rfl rfl rfl (r_load1 (v := .int .i64 _) rfl tb_sc3 (At.cell hm0_0 rfl)) ?_
  refine WL_val (dd := some 11) rfl rfl rfl (r_fieldAddr (b := _) (o := _) rfl tb_fo24_0) ?_
  refine WL_val (dd := some 12) rfl rfl rfl (r_load1 (v := .int .i64 _) rfl tb_sc3 (At.cell hm0_1 rfl)) ?_
  refine WL_val (dd := some 13) rfl rfl rfl (r_neq rfl rfl) ?_
  refine WL_split (dd := some 14) rfl rfl rfl (r_move (v := .bool _) rfl) (fun hs1_5 => ?_) (fun hs1_5 => ?_)
  ·
    try with_reducible replace hs1_5 := dec_t hs1_5
    refine WL_skip (dd := some 15) rfl rfl rfl ?_
    refine WL_skip (dd := some 16) rfl rfl rfl ?_
    refine WL_skip (dd := some 17) rfl rfl rfl ?_
    refine WL_skip (dd := some 18) rfl rfl rfl ?_
    refine WL_skip (dd := some 19) rfl rfl rfl ?_
    refine WL_val (dd := some 20) rfl rfl rfl (r_pick_t rfl (v := .bool true) rfl) ?_
    refine WL_val (dd := some 21) rfl rfl rfl (r_move (v := .bool true) rfl) ?_
    refine WL_skip (dd := some 22) rfl rfl rfl ?_
    refine WL_skip (dd := some 23) rfl rfl rfl ?_
    refine WL_skip (dd := some 24) rfl rfl rfl ?_
    refine WL_skip (dd := some 25) rfl rfl rfl ?_
    refine WL_skip (dd := some 26) rfl rfl rfl ?_
    refine WL_val (dd := some 27) rfl rfl rfl (r_pick_t rfl (v := .bool true) rfl) ?_
    refine WL_val (dd := some 28) rfl rfl rfl (r_move (v := .bool true) rfl) ?_
    refine WL_skip (dd := some 29) rfl rfl rfl ?_
    refine WL_skip (dd := some 30) rfl rfl rfl ?_
    refine WL_skip (dd := some 31) rfl rfl rfl ?_
    refine WL_skip (dd := some 32) rfl rfl rfl ?_
    refine WL_skip (dd := some 33) rfl rfl rfl ?_
    refine WL_skip (dd := some 34) rfl rfl rfl ?_
    refine WL_skip (dd := some 35) rfl rfl rfl ?_
    refine WL_val (dd := some 36) rfl rfl rfl (r_pick_t rfl (v := .bool true) rfl) ?_
    refine WL_nil ?_
    refine hK12 _ _ ?_
    clear hK12 K11
    refine WC_cond_true rfl ?_
    refine WC_seq (fun K13 hK14 => ?_)
    refine WC_region ?_
    refine WL_val (dd := some 4) rfl rfl rfl (r_assign (v := .bool false) rfl) ?_
    refine WL_nil ?_
    refine hK14 _ _ ?_
    clear hK14 K13
    refine WC_ret ?_
    repeat (first | refine thenQ_ret ?_ | refine blockQ_ret ?_)
    try clear hK10 K9
    refine ret_t (v := .bool false) rfl ?_
    refine ⟨hB, ?_⟩
    first | exact tb_ne (tb_hd (by omega)) | exact tb_ne (tb_ln (ln_cube hck hck2 hs7_5)) | exact tb_ne (tb_ln (ln_outs hc2)) | exact tb_ne (tb_ln (k := k) (ln_out (j := j) hc4)) | exact tb_is (tb_ext (by omega) (fun q hq' => hq q (by omega)))
  ·
    try with_reducible replace hs1_5 := dec_f hs1_5
    refine WL_val (dd := some 15) rfl rfl rfl (r_fieldAddr (b := _) (o := _) rfl tb_fo24_1) ?_
    refine WL_val (dd := some 16) rfl rfl rfl (r_load1 (v := .int .i64 _) rfl tb_sc3 (At.cell hm0_0 rfl)) ?_
    refine WL_val (dd := some 17) rfl rfl rfl (r_fieldAddr (b := _) (o := _) rfl tb_fo24_1) ?_
    refine WL_val (dd := some 18) rfl rfl rfl (r_load1 (v := .int .i64 _) rfl tb_sc3 (At.cell hm0_1 rfl)) ?_
    refine WL_val (dd := some 19) rfl rfl rfl (r_neq rfl rfl) ?_
    refine WL_val (dd := some 20) rfl rfl rfl (r_pick_f rfl (v := .bool _) rfl) ?_
    refine WL_split (dd := some 21) rfl rfl rfl (r_move (v := .bool _) rfl) (fun hs1_12 => ?_) (fun hs1_12 => ?_)
    ·
      try with_reducible replace hs1_12 := dec_t hs1_12
      refine WL_skip (dd := some 22) rfl rfl rfl ?_
      refine WL_skip (dd := some 23) rfl rfl rfl ?_
      refine WL_skip (dd := some 24) rfl rfl rfl ?_
      refine WL_skip (dd := some 25) rfl rfl rfl ?_
      refine WL_skip (dd := some 26) rfl rfl rfl ?_
      refine WL_val (dd := some 27) rfl rfl rfl (r_pick_t rfl (v := .bool true) rfl) ?_
      refine WL_val (dd := some 28) rfl rfl rfl (r_move (v := .bool true) rfl) ?_
      refine WL_skip (dd := some 29) rfl rfl rfl ?_
      refine WL_skip (dd := some 30) rfl rfl rfl ?_
      refine WL_skip (dd := some 31) rfl rfl rfl ?_
      refine WL_skip (dd := some 32) rfl rfl rfl ?_
      refine WL_skip (dd := some 33) rfl rfl rfl ?_
      refine WL_skip (dd := some 34) rfl rfl rfl ?_
      refine WL_skip (dd := some 35) rfl rfl rfl ?_
      refine WL_val (dd := some 36) rfl rfl rfl (r_pick_t rfl (v := .bool true) rfl) ?_
      refine WL_nil ?_
      refine hK12 _ _ ?_
      clear hK12 K11
      refine WC_cond_true rfl ?_
      refine WC_seq (fun K15 hK16 => ?_)
      refine WC_region ?_
      refine WL_val (dd := some 4) rfl rfl rfl (r_assign (v := .bool false) rfl) ?_
      refine WL_nil ?_
      refine hK16 _ _ ?_
      clear hK16 K15
      refine WC_ret ?_
      repeat (first | refine thenQ_ret ?_ | refine blockQ_ret ?_)
      try clear hK10 K9
      refine ret_t (v := .bool false) rfl ?_
      refine ⟨hB, ?_⟩
      first | exact tb_ne (tb_hd (by omega)) | exact tb_ne (tb_ln (ln_cube hck hck2 hs7_5)) | exact tb_ne (tb_ln (ln_outs hc2)) | exact tb_ne (tb_ln (k := k) (ln_out (j := j) hc4)) | exact tb_is (tb_ext (by omega) (fun q hq' => hq q (by omega)))
    ·
      try with_reducible replace hs1_12 := dec_f hs1_12
      refine WL_val (dd := some 22) rfl rfl rfl (r_fieldAddr (b := _) (o := _) rfl tb_fo24_2) ?_
      refine WL_val (dd := some 23) rfl rfl rfl (r_load1 (v := .int .i64 _) rfl tb_sc3 (At.cell hm0_0 rfl)) ?_
      refine WL_val (dd := some 24) rfl rfl rfl (r_fieldAddr (b := _) (o := _) rfl tb_fo24_2) ?_
      refine WL_val (dd := some 25) rfl rfl rfl (r_load1 (v := .int .i64 _) rfl tb_sc3 (At.cell hm0_1 rfl)) ?_
      refine WL_val (dd := some 26) rfl rfl rfl (r_neq rfl rfl) ?_
      refine WL_val (dd := some 27) rfl rfl rfl (r_pick_f rfl (v := .bool _) rfl) ?_
      refine WL_split (dd := some 28) rfl rfl rfl (r_move (v := .bool _) rfl) (fun hs1_19 => ?_) (fun hs1_19 => ?_)
      ·
        try with_reducible replace hs1_19 := dec_t hs1_19
        refine WL_skip (dd := some 29) rfl rfl rfl ?_
        refine WL_skip (dd := some 30) rfl rfl rfl ?_
        refine WL_skip (dd := some 31) rfl rfl rfl ?_
        refine WL_skip (dd := some 32) rfl rfl rfl ?_
        refine WL_skip (dd := some 33) rfl rfl rfl ?_
        refine WL_skip (dd := some 34) rfl rfl rfl ?_
        refine WL_skip (dd := some 35) rfl rfl rfl ?_
        refine WL_val (dd := some 36) rfl rfl rfl (r_pick_t rfl (v := .bool true) rfl) ?_
        refine WL_nil ?_
        refine hK12 _ _ ?_
        clear hK12 K11
        refine WC_cond_true rfl ?_
        refine WC_seq (fun K17 hK18 => ?_)
        refine WC_region ?_
        refine WL_val (dd := some 4) rfl rfl rfl (r_assign (v := .bool false) rfl) ?_
        refine WL_nil ?_
        refine hK18 _ _ ?_
        clear hK18 K17
        refine WC_ret ?_
        repeat (first | refine thenQ_ret ?_ | refine blockQ_ret ?_)
        try clear hK10 K9
        refine ret_t (v := .bool false) rfl ?_
        refine ⟨hB, ?_⟩
        first | exact tb_ne (tb_hd (by omega)) | exact tb_ne (tb_ln (ln_cube hck hck2 hs7_5)) | exact tb_ne (tb_ln (ln_outs hc2)) | exact tb_ne (tb_ln (k := k) (ln_out (j := j) hc4)) | exact tb_is (tb_ext (by omega) (fun q hq' => hq q (by omega)))
      ·
        try with_reducible replace hs1_19 := dec_f hs1_19
        refine WL_val (dd := some 29) rfl rfl rfl (r_fieldAddr (b := _) (o := _) rfl tb_fo24_3) ?_
        refine WL_val (dd := some 30) rfl rfl rfl (r_load1 (v := lv) rfl tb_sc22 (At.cell hm0_0 rfl)) ?_
        refine WL_val (dd := some 31) rfl rfl rfl (r_lenS (v := lv) rfl (Below.slT hB hlv) tb_el22) ?_
        refine WL_val (dd := some 32) rfl rfl rfl (r_fieldAddr (b := _) (o := _) rfl tb_fo24_3) ?_
        refine WL_val (dd := some 33) rfl rfl rfl (r_load1 (v := lu) rfl tb_sc22 (At.cell hm0_1 rfl)) ?_
        refine WL_val (dd := some 34) rfl rfl rfl (r_lenS (v := lu) rfl (Below.slT hB hlv2) tb_el22) ?_
        refine WL_val (dd := some 35) rfl rfl rfl (r_neq rfl rfl) ?_
        refine WL_val (dd := some 36) rfl rfl rfl (r_pick_f rfl (v := .bool _) rfl) ?_
        refine WL_nil ?_
        refine hK12 _ _ ?_
        clear hK12 K11
        refine WC_cond (b := _) rfl (fun hc0 => ?_) (fun hc0 => ?_)
        ·
          try with_reducible replace hc0 := dec_t hc0
          refine WC_seq (fun K19 hK20 => ?_)
          refine WC_region ?_
          refine WL_val (dd := some 4) rfl rfl rfl (r_assign (v := .bool false) rfl) ?_
          refine WL_nil ?_
          refine hK20 _ _ ?_
          clear hK20 K19
          refine WC_ret ?_
          repeat (first | refine thenQ_ret ?_ | refine blockQ_ret ?_)
          try clear hK10 K9
          refine ret_t (v := .bool false) rfl ?_
          refine ⟨hB, ?_⟩
          first | exact tb_ne (tb_hd (by omega)) | exact tb_ne (tb_ln (ln_cube hck hck2 hs7_5)) | exact tb_ne (tb_ln (ln_outs hc2)) | exact tb_ne (tb_ln (k := k) (ln_out (j := j) hc4)) | exact tb_is (tb_ext (by omega) (fun q hq' => hq q (by omega)))
        ·
          try with_reducible replace hc0 := dec_f hc0
          refine WC_skip ?_
          refine hK10 _ _ ?_
          clear hK10 K9
          refine WC_seq (fun K21 hK22 => ?_)
          refine WC_seq (fun K23 hK24 => ?_)
          refine WC_region ?_
          refine WL_val (dd := some 5) rfl rfl rfl (r_assign (v := .int .i64 0) rfl) ?_
          refine WL_nil ?_
          refine hK24 _ _ ?_
          clear hK24 K23
          refine WC_block ?_
          refine WC_loop (σ := (Nat)) [4, 5, 6, 7, 8, 37, 38, 39, 40, 41, 42, 43, 44, 45, 46, 47, 48, 49, 50, 51, 52, 53, 54, 55, 56, 57, 58, 59, 60, 61, 62, 63, 64, 65, 66, 67, 68, 69, 70, 71, 72, 73, 74, 75, 76, 77, 78, 79, 80, 81, 82, 83, 84, 85] (fun k => [(5, .int .i64 (k : Int))]) (fun k W => (Below w.heap.size w W) ∧ (At W b0_0 _ 24) ∧ (At W b0_1 _ 24) ∧ (k ≤ T.ls.length) ∧ (∀ q, q < k → T.ls.getD q ln0 = U.ls.getD q ln0) ∧ (True)) (fun k => T.ls.length - k) (0) ⟨rfl, trivial⟩ ⟨hB, hm0_0, hm0_1, (Nat.zero_le _), upTo_zero, trivial⟩ ?_
          clear hB hm0_0 hm0_1
          rintro k g26 W25 ⟨hB, hm0_0, hm0_1, hk, hq, _⟩ J27 hJ28
          refine WC_seq (fun K29 hK30 => ?_)
          refine WC_seq (fun K31 hK32 => ?_)
          refine WC_region ?_
          refine WL_val (dd := some 37) rfl rfl rfl (r_move (v := .int .i64 _) rfl) ?_
          refine WL_val (dd := some 38) rfl rfl rfl (r_fieldAddr (b := _) (o := _) rfl tb_fo24_3) ?_
          refine WL_val (dd := some 39) rfl rfl rfl (r_load1 (v := lv) rfl tb_sc22 (At.cell hm0_0 rfl)) ?_
          refine WL_val (dd := some 40) rfl rfl rfl (r_lenS (v := lv) rfl (Below.slT hB hlv) tb_el22) ?_
          refine WL_val (dd := some 41) rfl rfl rfl (r_lss rfl rfl) ?_
          refine WL_nil ?_
          refine hK32 _ _ ?_
          clear hK32 K31
          refine WC_cond (b := _) rfl (fun hc1 => ?_) (fun hc1 => ?_)
          ·
            try with_reducible replace hc1 := dec_t hc1
            refine WC_skip ?_
            refine hK30 _ _ ?_
            clear hK30 K29
            refine WC_seq (fun K33 hK34 => ?_)
            refine WC_block ?_
            refine WC_seq (fun K35 hK36 => ?_)
            have hck := hls.c k (by omega)
            have hck2 := hls2.c k (by omega)
            have hok := hol k (by omega)
            refine WC_draw Ext tb_mix (fun W37 hE38 => ?_)
            replace hB := below_ext hB hE38 (Nat.le_refl _)
            replace hm0_0 := hE38.at hm0_0
            replace hm0_1 := hE38.at hm0_1
            have hS := Ext.refl W37
            refine WT_take (dd := some 44) 0 rfl (by kernel_rfl) (by kernel_rfl) (by kernel_rfl) rfl rfl rfl (fun _wq _hq => r_fieldAddr (b := _) (o := _) rfl tb_fo24_3) hS ?_
            refine WT_take (dd := some 45) 1 rfl (by kernel_rfl) (by kernel_rfl) (by kernel_rfl) rfl rfl rfl (fun _wq hq => r_load1 (v := lv) rfl tb_sc22 (At.cell (hq.at hm0_0) rfl)) hS ?_
            refine WT_take (dd := some 46) 2 rfl (by kernel_rfl) (by kernel_rfl) (by kernel_rfl) rfl rfl rfl (fun _wq _hq => r_move (v := .int .i64 _) rfl) hS ?_
            refine WT_take (dd := some 47) 3 rfl (by kernel_rfl) (by kernel_rfl) (by kernel_rfl) rfl rfl rfl (fun _wq hq => r_idxS (v := lv) rfl (hq.slT (Below.slT hB hlv)) rfl tb_el22 (by omega) (by omega)) hS ?_
            refine WT_take (dd := some 48) 4 rfl (by kernel_rfl) (by kernel_rfl) (by kernel_rfl) rfl rfl rfl (fun _wq hq => r_load3 rfl tb_ag45 (SlT.cell (hq.slT (Below.slT hB hlv)) encLn_len lv0 (by omega) (by omega) 0 rfl) (SlT.cell (hq.slT (Below.slT hB hlv)) encLn_len lv0 (by omega) (by omega) 1 rfl) (SlT.cell (hq.slT (Below.slT hB hlv)) encLn_len lv0 (by omega) (by omega) 2 rfl)) hS ?_
            have hp6_4 : SlT encI 1 w ((vs.getD k lv0).o) ((T.ls.getD k ln0).os) := hls.o k (by omega)
            refine WT_take (dd := some 49) 5 rfl (by kernel_rfl) (by kernel_rfl) (by kernel_rfl) rfl rfl rfl (fun _wq _hq => r_fieldAddr (b := _) (o := _) rfl tb_fo24_3) hS ?_
            refine WT_take (dd := some 50) 6 rfl (by kernel_rfl) (by kernel_rfl) (by kernel_rfl) rfl rfl rfl (fun _wq hq => r_load1 (v := lu) rfl tb_sc22 (At.cell (hq.at hm0_1) rfl)) hS ?_
            refine WT_take (dd := some 51) 7 rfl (by kernel_rfl) (by kernel_rfl) (by kernel_rfl) rfl rfl rfl (fun _wq _hq => r_move (v := .int .i64 _) rfl) hS ?_
            refine WT_take (dd := some 52) 8 rfl (by kernel_rfl) (by kernel_rfl) (by kernel_rfl) rfl rfl rfl (fun _wq hq => r_idxS (v := lu) rfl (hq.slT (Below.slT hB hlv2)) rfl tb_el22 (by omega) (by omega)) hS ?_
            refine WT_take (dd := some 53) 9 rfl (by kernel_rfl) (by kernel_rfl) (by kernel_rfl) rfl rfl rfl (fun _wq hq => r_load3 rfl tb_ag45 (SlT.cell (hq.slT (Below.slT hB hlv2)) encLn_len lv0 (by omega) (by omega) 0 rfl) (SlT.cell (hq.slT (Below.slT hB hlv2)) encLn_len lv0 (by omega) (by omega) 1 rfl) (SlT.cell (hq.slT (Below.slT hB hlv2)) encLn_len lv0 (by omega) (by omega) 2 rfl)) hS ?_
            have hp6_9 : SlT encI 1 w ((us.getD k lv0).o) ((U.ls.getD k ln0).os) := hls2.o k (by omega)
            refine WT_two 10 11 (by kernel_rfl) rfl rfl rfl rfl rfl rfl rfl rfl (Y_alloc tb_z45 rfl (fun b6_10 W39 hb40 hE41 hm6_10 => ⟨.inl (hS.trans hE41), ?_⟩)) (Y_alloc tb_z45 rfl (fun b6_11 W43 hb44 hE45 hm6_11 => ⟨.inl (hS.trans hE45), ?_⟩))
            ·
              have lo_b6_10 : w.heap.size ≤ b6_10 := hb40 ▸ (Below.size hB)
              have los_b6_10 := Nat.le_trans (Ext.size hS) (Nat.le_of_eq hb40.symm)
              clear hb40
              have sv42_hB := hB
              have sv42_hm0_0 := hm0_0
              have sv42_hm0_1 := hm0_1
              replace hB := below_ext hB hE41 (Nat.le_refl _)
              replace hm0_0 := hE41.at hm0_0
              replace hm0_1 := hE41.at hm0_1
              replace hS := hS.trans hE41
              clear hE41
              refine WT_one (dd := some 7) 11 (by kernel_rfl) rfl rfl rfl rfl (Y_alloc tb_z45 rfl (fun b6_11 W47 hb48 hE49 hm6_11 => ⟨.inl (hS.trans hE49), ?_⟩))
              have lo_b6_11 : w.heap.size ≤ b6_11 := hb48 ▸ (Below.size hB)
              have los_b6_11 := Nat.le_trans (Ext.size hS) (Nat.le_of_eq hb48.symm)
              have ne_b6_10_b6_11 : b6_10 ≠ b6_11 := Nat.ne_of_lt (hb48 ▸ hm6_10.lt)
              clear hb48
              replace hB := below_ext hB hE49 (Nat.le_refl _)
              replace hm0_0 := hE49.at hm0_0
              replace hm0_1 := hE49.at hm0_1
              replace hm6_10 := hE49.at hm6_10
              replace hS := hS.trans hE49
              clear hE49
              refine WT_one (dd := none) 12 (by kernel_rfl) rfl rfl rfl rfl (Y_storeW rfl rfl tb_ag45 rfl hm6_10 rfl (by exact one_ln (SlT.one hp6_4)) (fun W50 hG51 hm52 => ⟨.inl (below_grown hS hG51 (Nat.le_refl _) (fun j hj => by have e : b6_10 = j := Option.some.inj hj; rw [← e]; exact los_b6_10)), ?_⟩))
              replace hS : Ext _ _ := below_grown hS hG51 (Nat.le_refl _) (fun j hj => by have e : b6_10 = j := Option.some.inj hj; rw [← e]; exact los_b6_10)
              replace hB := below_grown hB hG51 (Nat.le_refl _) (fun j hj => by cases hj; exact lo_b6_10)
              replace hm0_0 := At.grownAt hm0_0 hm6_10 hG51 (by decide)
              replace hm0_1 := At.grownAt hm0_1 hm6_10 hG51 (by decide)
              replace hm6_11 := At.grownNe hm6_11 (Ne.symm ne_b6_10_b6_11) hG51
              clear hG51 hm6_10
              have hm6_10 := hm52
              clear hm52
              refine WT_one (dd := none) 13 (by kernel_rfl) rfl rfl rfl rfl (Y_storeW rfl rfl tb_ag45 rfl hm6_11 rfl (by exact one_ln (SlT.one hp6_9)) (fun W53 hG54 hm55 => ⟨.inr (by kernel_rfl), ?_⟩))
              replace hB := below_grown hB hG54 (Nat.le_refl _) (fun j hj => by cases hj; exact lo_b6_11)
              replace hm0_0 := At.grownAt hm0_0 hm6_11 hG54 (by decide)
              replace hm0_1 := At.grownAt hm0_1 hm6_11 hG54 (by decide)
              replace hm6_10 := At.grownNe hm6_10 ne_b6_10_b6_11 hG54
              clear hG54 hm6_11
              have hm6_11 := hm55
              clear hm55
              refine WT_done (by kernel_rfl) ?_
              try clear sv42_hB sv42_hm0_0 sv42_hm0_1
              refine hK36 _ _ ?_
              clear hK36 K35
              refine WC_seq (fun K56 hK57 => ?_)
              refine WC_seq (fun K58 hK59 => ?_)
              refine WC_region ?_
              refine WL_val (dd := some 54) rfl rfl rfl (r_fieldAddr (b := _) (o := _) rfl tb_fo45_0) ?_
              refine WL_val (dd := some 55) rfl rfl rfl (r_load2 rfl tb_ag42 (At.cell hm6_10 rfl) (At.cell hm6_10 rfl)) ?_
              refine WL_val (dd := some 56) rfl rfl rfl (r_fieldAddr (b := _) (o := _) rfl tb_fo45_0) ?_
              refine WL_val (dd := some 57) rfl rfl rfl (r_load2 rfl tb_ag42 (At.cell hm6_11 rfl) (At.cell hm6_11 rfl)) ?_
              refine WL_val (dd := some 58) rfl rfl rfl (tb_neq42 rfl rfl) ?_
              refine WL_split (dd := some 59) rfl rfl rfl (r_move (v := .bool _) rfl) (fun hs7_5 => ?_) (fun hs7_5 => ?_)
              ·
                try with_reducible replace hs7_5 := dec_t hs7_5
                refine WL_skip (dd := some 60) rfl rfl rfl ?_
                refine WL_skip (dd := some 61) rfl rfl rfl ?_
                refine WL_skip (dd := some 62) rfl rfl rfl ?_
                refine WL_skip (dd := some 63) rfl rfl rfl ?_
                refine WL_skip (dd := some 64) rfl rfl rfl ?_
                refine WL_skip (dd := some 65) rfl rfl rfl ?_
                refine WL_skip (dd := some 66) rfl rfl rfl ?_
                refine WL_val (dd := some 67) rfl rfl rfl (r_pick_t rfl (v := .bool true) rfl) ?_
                refine WL_nil ?_
                refine hK59 _ _ ?_
                clear hK59 K58
                refine WC_cond_true rfl ?_
                refine WC_seq (fun K60 hK61 => ?_)
                refine WC_region ?_
                refine WL_val (dd := some 4) rfl rfl rfl (r_assign (v := .bool false) rfl) ?_
                refine WL_nil ?_
                refine hK61 _ _ ?_
                clear hK61 K60
                refine WC_ret ?_
                repeat (first | refine thenQ_ret ?_ | refine blockQ_ret ?_)
                try clear hK57 K56
                try clear hK34 K33
                try clear hJ28 J27
                try clear hK22 K21
                refine ret_t (v := .bool false) rfl ?_
                refine ⟨hB, ?_⟩
                first | exact tb_ne (tb_hd (by omega)) | exact tb_ne (tb_ln (ln_cube hck hck2 hs7_5)) | exact tb_ne (tb_ln (ln_outs hc2)) | exact tb_ne (tb_ln (k := k) (ln_out (j := j) hc4)) | exact tb_is (tb_ext (by omega) (fun q hq' => hq q (by omega)))
              ·
                try with_reducible replace hs7_5 := dec_f hs7_5
                refine WL_val (dd := some 60) rfl rfl rfl (r_fieldAddr (b := _) (o := _) rfl tb_fo45_1) ?_
                refine WL_val (dd := some 61) rfl rfl rfl (r_load1 (v := (vs.getD k lv0).o) rfl tb_sc43 (At.cell hm6_10 rfl)) ?_
                refine WL_val (dd := some 62) rfl rfl rfl (r_lenS (v := (vs.getD k lv0).o) rfl (Below.slT hB hp6_4) tb_el43) ?_
                refine WL_val (dd := some 63) rfl rfl rfl (r_fieldAddr (b := _) (o := _) rfl tb_fo45_1) ?_
                refine WL_val (dd := some 64) rfl rfl rfl (r_load1 (v := (us.getD k lv0).o) rfl tb_sc43 (At.cell hm6_11 rfl)) ?_
                refine WL_val (dd := some 65) rfl rfl rfl (r_lenS (v := (us.getD k lv0).o) rfl (Below.slT hB hp6_9) tb_el43) ?_
                refine WL_val (dd := some 66) rfl rfl rfl (r_neq rfl rfl) ?_
                refine WL_val (dd := some 67) rfl rfl rfl (r_pick_f rfl (v := .bool _) rfl) ?_
                refine WL_nil ?_
                refine hK59 _ _ ?_
                clear hK59 K58
                refine WC_cond (b := _) rfl (fun hc2 => ?_) (fun hc2 => ?_)
                ·
                  try with_reducible replace hc2 := dec_t hc2
                  refine WC_seq (fun K62 hK63 => ?_)
                  refine WC_region ?_
                  refine WL_val (dd := some 4) rfl rfl rfl (r_assign (v := .bool false) rfl) ?_
                  refine WL_nil ?_
                  refine hK63 _ _ ?_
                  clear hK63 K62
                  refine WC_ret ?_
                  repeat (first | refine thenQ_ret ?_ | refine blockQ_ret ?_)
                  try clear hK57 K56
                  try clear hK34 K33
                  try clear hJ28 J27
                  try clear hK22 K21
                  refine ret_t (v := .bool false) rfl ?_
                  refine ⟨hB, ?_⟩
                  first | exact tb_ne (tb_hd (by omega)) | exact tb_ne (tb_ln (ln_cube hck hck2 hs7_5)) | exact tb_ne (tb_ln (ln_outs hc2)) | exact tb_ne (tb_ln (k := k) (ln_out (j := j) hc4)) | exact tb_is (tb_ext (by omega) (fun q hq' => hq q (by omega)))
                ·
                  try with_reducible replace hc2 := dec_f hc2
                  refine WC_skip ?_
                  refine hK57 _ _ ?_
                  clear hK57 K56
                  refine WC_seq (fun K64 hK65 => ?_)
                  refine WC_region ?_
                  refine WL_val (dd := some 8) rfl rfl rfl (r_assign (v := .int .i64 0) rfl) ?_
                  refine WL_nil ?_
                  refine hK65 _ _ ?_
                  clear hK65 K64
                  refine WC_block ?_
                  refine WC_loop (σ := (Nat)) [4, 8, 68, 69, 70, 71, 72, 73, 74, 75, 76, 77, 78, 79, 80, 81, 82, 83, 84, 85] (fun j => [(8, .int .i64 (j : Int))]) (fun j W => (Below w.heap.size w W) ∧ (At W b0_0 _ 24) ∧ (At W b0_1 _ 24) ∧ (At W b6_10 _ 45) ∧ (At W b6_11 _ 45) ∧ (j ≤ (T.ls.getD k ln0).os.length) ∧ (∀ q, q < j → (T.ls.getD k ln0).os.getD q 0 = (U.ls.getD k ln0).os.getD q 0) ∧ (True)) (fun j => (T.ls.getD k ln0).os.length - j) (0) ⟨rfl, trivial⟩ ⟨hB, hm0_0, hm0_1, hm6_10, hm6_11, (Nat.zero_le _), upTo_zero, trivial⟩ ?_
                  clear hB hm0_0 hm0_1 hm6_10 hm6_11
                  rintro j g67 W66 ⟨hB, hm0_0, hm0_1, hm6_10, hm6_11, hj, hqj, _⟩ J68 hJ69
                  refine WC_seq (fun K70 hK71 => ?_)
                  refine WC_seq (fun K72 hK73 => ?_)
                  refine WC_region ?_
                  refine WL_val (dd := some 68) rfl rfl rfl (r_move (v := .int .i64 _) rfl) ?_
                  refine WL_val (dd := some 69) rfl rfl rfl (r_fieldAddr (b := _) (o := _) rfl tb_fo45_1) ?_
                  refine WL_val (dd := some 70) rfl rfl rfl (r_load1 (v := (vs.getD k lv0).o) rfl tb_sc43 (At.cell hm6_10 rfl)) ?_
                  refine WL_val (dd := some 71) rfl rfl rfl (r_lenS (v := (vs.getD k lv0).o) rfl (Below.slT hB hp6_4) tb_el43) ?_
                  refine WL_val (dd := some 72) rfl rfl rfl (r_lss rfl rfl) ?_
                  refine WL_nil ?_
                  refine hK73 _ _ ?_
                  clear hK73 K72
                  refine WC_cond (b := _) rfl (fun hc3 => ?_) (fun hc3 => ?_)
                  ·
                    try with_reducible replace hc3 := dec_t hc3
                    refine WC_skip ?_
                    refine hK71 _ _ ?_
                    clear hK71 K70
                    refine WC_seq (fun K74 hK75 => ?_)
                    refine WC_block ?_
                    refine WC_seq (fun K76 hK77 => ?_)
                    refine WC_draw Ext tb_mix (fun W78 hE79 => ?_)
                    replace hB := below_ext hB hE79 (Nat.le_refl _)
                    replace hm0_0 := hE79.at hm0_0
                    replace hm0_1 := hE79.at hm0_1
                    replace hm6_10 := hE79.at hm6_10
                    replace hm6_11 := hE79.at hm6_11
                    have hS := Ext.refl W78
                    refine WT_take (dd := some 75) 0 rfl (by kernel_rfl) (by kernel_rfl) (by kernel_rfl) rfl rfl rfl (fun _wq _hq => r_fieldAddr (b := _) (o := _) rfl tb_fo45_1) hS ?_
                    refine WT_take (dd := some 76) 1 rfl (by kernel_rfl) (by kernel_rfl) (by kernel_rfl) rfl rfl rfl (fun _wq hq => r_load1 (v := (vs.getD k lv0).o) rfl tb_sc43 (At.cell (hq.at hm6_10) rfl)) hS ?_
                    refine WT_take (dd := some 77) 2 rfl (by kernel_rfl) (by kernel_rfl) (by kernel_rfl) rfl rfl rfl (fun _wq _hq => r_move (v := .int .i64 _) rfl) hS ?_
                    refine WT_take (dd := some 78) 3 rfl (by kernel_rfl) (by kernel_rfl) (by kernel_rfl) rfl rfl rfl (fun _wq hq => r_idxS (v := (vs.getD k lv0).o) rfl (hq.slT (Below.slT hB hp6_4)) rfl tb_el43 (by omega) (by omega)) hS ?_
                    refine WT_take (dd := some 79) 4 rfl (by kernel_rfl) (by kernel_rfl) (by kernel_rfl) rfl rfl rfl (fun _wq hq => r_load1 (v := .int .i64 _) rfl tb_sc3 (SlT.cell (hq.slT (Below.slT hB hp6_4)) encI_len 0 (by omega) (by omega) 0 rfl)) hS ?_
                    refine WT_take (dd := some 80) 5 rfl (by kernel_rfl) (by kernel_rfl) (by kernel_rfl) rfl rfl rfl (fun _wq _hq => r_fieldAddr (b := _) (o := _) rfl tb_fo45_1) hS ?_
                    refine WT_take (dd := some 81) 6 rfl (by kernel_rfl) (by kernel_rfl) (by kernel_rfl) rfl rfl rfl (fun _wq hq => r_load1 (v := (us.getD k lv0).o) rfl tb_sc43 (At.cell (hq.at hm6_11) rfl)) hS ?_
                    refine WT_take (dd := some 82) 7 rfl (by kernel_rfl) (by kernel_rfl) (by kernel_rfl) rfl rfl rfl (fun _wq _hq => r_move (v := .int .i64 _) rfl) hS ?_
                    refine WT_take (dd := some 83) 8 rfl (by kernel_rfl) (by kernel_rfl) (by kernel_rfl) rfl rfl rfl (fun _wq hq => r_idxS (v := (us.getD k lv0).o) rfl (hq.slT (Below.slT hB hp6_9)) rfl tb_el43 (by omega) (by omega)) hS ?_
                    refine WT_take (dd := some 84) 9 rfl (by kernel_rfl) (by kernel_rfl) (by kernel_rfl) rfl rfl rfl (fun _wq hq => r_load1 (v := .int .i64 _) rfl tb_sc3 (SlT.cell (hq.slT (Below.slT hB hp6_9)) encI_len 0 (by omega) (by omega) 0 rfl)) hS ?_
                    refine WT_take (dd := some 85) 10 rfl (by kernel_rfl) (by kernel_rfl) (by kernel_rfl) rfl rfl rfl (fun _wq _hq => r_neq rfl rfl) hS ?_
                    refine WT_done (by kernel_rfl) ?_
                    refine hK77 _ _ ?_
                    clear hK77 K76
                    refine WC_cond (b := _) rfl (fun hc4 => ?_) (fun hc4 => ?_)
                    ·
                      try with_reducible replace hc4 := dec_t hc4
                      refine WC_seq (fun K80 hK81 => ?_)
                      refine WC_region ?_
                      refine WL_val (dd := some 4) rfl rfl rfl (r_assign (v := .bool false) rfl) ?_
                      refine WL_nil ?_
                      refine hK81 _ _ ?_
                      clear hK81 K80
                      refine WC_ret ?_
                      repeat (first | refine thenQ_ret ?_ | refine blockQ_ret ?_)
                      try clear hK75 K74
                      try clear hJ69 J68
                      try clear hK34 K33
                      try clear hJ28 J27
                      try clear hK22 K21
                      refine ret_t (v := .bool false) rfl ?_
                      refine ⟨hB, ?_⟩
                      first | exact tb_ne (tb_hd (by omega)) | exact tb_ne (tb_ln (ln_cube hck hck2 hs7_5)) | exact tb_ne (tb_ln (ln_outs hc2)) | exact tb_ne (tb_ln (k := k) (ln_out (j := j) hc4)) | exact tb_is (tb_ext (by omega) (fun q hq' => hq q (by omega)))
                    ·
                      try with_reducible replace hc4 := dec_f hc4
                      refine WC_skip ?_
                      refine hK75 _ _ ?_
                      clear hK75 K74
                      have hsj : (T.ls.getD k ln0).os.getD j 0 = (U.ls.getD k ln0).os.getD j 0 := Decidable.of_not_not hc4
                      refine WC_region ?_
                      refine WL_val (dd := some 73) rfl rfl rfl (r_move (v := .int .i64 _) rfl) ?_
                      refine WL_val (dd := some 74) rfl rfl rfl (r_addI rfl rfl (by omega) (by omega)) ?_
                      refine WL_val (dd := some 8) rfl rfl rfl (r_assign (v := .int .i64 _) rfl) ?_
                      refine WL_nil ?_
                      refine hJ69 _ _ (j + 1) ?_ ?_ ?_ ?_
                      · repeat (first | exact agree.mask _ _ _ | refine agree.updo ?_ rfl _ | refine agree.updL ?_ _ rfl | refine agree.maskS rfl ?_)
                      · exact ⟨rfl, trivial⟩
                      · exact ⟨hB, hm0_0, hm0_1, hm6_10, hm6_11, (by omega), (upTo_succ hqj hsj), trivial⟩
                      · show (T.ls.getD k ln0).os.length - (j + 1) < (T.ls.getD k ln0).os.length - j; omega
                  ·
                    try with_reducible replace hc3 := dec_f hc3
                    refine WC_exit ?_
                    refine hK34 _ _ ?_
                    clear hK71 K70
                    clear hJ69 J68
                    clear hK34 K33
                    have hcc := cube_same hck hck2 hs7_5
                    have hqj2 : ∀ q, q < (T.ls.getD k ln0).os.length → (T.ls.getD k ln0).os.getD q 0 = (U.ls.getD k ln0).os.getD q 0 := fun q hq' => hqj q (by omega)
                    refine WC_region ?_
                    refine WL_val (dd := some 42) rfl rfl rfl (r_move (v := .int .i64 _) rfl) ?_
                    refine WL_val (dd := some 43) rfl rfl rfl (r_addI rfl rfl (by omega) (by omega)) ?_
                    refine WL_val (dd := some 5) rfl rfl rfl (r_assign (v := .int .i64 _) rfl) ?_
                    refine WL_nil ?_
                    refine hJ28 _ _ (k + 1) ?_ ?_ ?_ ?_
                    · repeat (first | exact agree.mask _ _ _ | refine agree.updo ?_ rfl _ | refine agree.updL ?_ _ rfl | refine agree.maskS rfl ?_)
                    · exact ⟨rfl, trivial⟩
                    · exact ⟨hB, hm0_0, hm0_1, (by omega), (upTo_succ hq (ln_ext hcc (by omega) hqj2)), trivial⟩
                    · first | omega | (dsimp only; omega)
            ·
              have lo_b6_11 : w.heap.size ≤ b6_11 := hb44 ▸ (Below.size hB)
              have los_b6_11 := Nat.le_trans (Ext.size hS) (Nat.le_of_eq hb44.symm)
              clear hb44
              have sv46_hB := hB
              have sv46_hm0_0 := hm0_0
              have sv46_hm0_1 := hm0_1
              replace hB := below_ext hB hE45 (Nat.le_refl _)
              replace hm0_0 := hE45.at hm0_0
              replace hm0_1 := hE45.at hm0_1
              replace hS := hS.trans hE45
              clear hE45
              refine WT_one (dd := some 6) 10 (by kernel_rfl) rfl rfl rfl rfl (Y_alloc tb_z45 rfl (fun b6_10 W82 hb83 hE84 hm6_10 => ⟨.inl (hS.trans hE84), ?_⟩))
              have lo_b6_10 : w.heap.size ≤ b6_10 := hb83 ▸ (Below.size hB)
              have los_b6_10 := Nat.le_trans (Ext.size hS) (Nat.le_of_eq hb83.symm)
              have ne_b6_11_b6_10 : b6_11 ≠ b6_10 := Nat.ne_of_lt (hb83 ▸ hm6_11.lt)
              clear hb83
              replace hB := below_ext hB hE84 (Nat.le_refl _)
              replace hm0_0 := hE84.at hm0_0
              replace hm0_1 := hE84.at hm0_1
              replace hm6_11 := hE84.at hm6_11
              replace hS := hS.trans hE84
              clear hE84
              refine WT_one (dd := none) 12 (by kernel_rfl) rfl rfl rfl rfl (Y_storeW rfl rfl tb_ag45 rfl hm6_10 rfl (by exact one_ln (SlT.one hp6_4)) (fun W85 hG86 hm87 => ⟨.inl (below_grown hS hG86 (Nat.le_refl _) (fun j hj => by have e : b6_10 = j := Option.some.inj hj; rw [← e]; exact los_b6_10)), ?_⟩))
              replace hS : Ext _ _ := below_grown hS hG86 (Nat.le_refl _) (fun j hj => by have e : b6_10 = j := Option.some.inj hj; rw [← e]; exact los_b6_10)
              replace hB := below_grown hB hG86 (Nat.le_refl _) (fun j hj => by cases hj; exact lo_b6_10)
              replace hm0_0 := At.grownAt hm0_0 hm6_10 hG86 (by decide)
              replace hm0_1 := At.grownAt hm0_1 hm6_10 hG86 (by decide)
              replace hm6_11 := At.grownNe hm6_11 ne_b6_11_b6_10 hG86
              clear hG86 hm6_10
              have hm6_10 := hm87
              clear hm87
              refine WT_one (dd := none) 13 (by kernel_rfl) rfl rfl rfl rfl (Y_storeW rfl rfl tb_ag45 rfl hm6_11 rfl (by exact one_ln (SlT.one hp6_9)) (fun W88 hG89 hm90 => ⟨.inr (by kernel_rfl), ?_⟩))
              replace hB := below_grown hB hG89 (Nat.le_refl _) (fun j hj => by cases hj; exact lo_b6_11)
              replace hm0_0 := At.grownAt hm0_0 hm6_11 hG89 (by decide)
              replace hm0_1 := At.grownAt hm0_1 hm6_11 hG89 (by decide)
              replace hm6_10 := At.grownNe hm6_10 (Ne.symm ne_b6_11_b6_10) hG89
              clear hG89 hm6_11
              have hm6_11 := hm90
              clear hm90
              refine WT_done (by kernel_rfl) ?_
              try clear sv46_hB sv46_hm0_0 sv46_hm0_1
              refine hK36 _ _ ?_
              clear hK36 K35
              refine WC_seq (fun K91 hK92 => ?_)
              refine WC_seq (fun K93 hK94 => ?_)
              refine WC_region ?_
              refine WL_val (dd := some 54) rfl rfl rfl (r_fieldAddr (b := _) (o := _) rfl tb_fo45_0) ?_
              refine WL_val (dd := some 55) rfl rfl rfl (r_load2 rfl tb_ag42 (At.cell hm6_10 rfl) (At.cell hm6_10 rfl)) ?_
              refine WL_val (dd := some 56) rfl rfl rfl (r_fieldAddr (b := _) (o := _) rfl tb_fo45_0) ?_
              refine WL_val (dd := some 57) rfl rfl rfl (r_load2 rfl tb_ag42 (At.cell hm6_11 rfl) (At.cell hm6_11 rfl)) ?_
              refine WL_val (dd := some 58) rfl rfl rfl (tb_neq42 rfl rfl) ?_
              refine WL_split (dd := some 59) rfl rfl rfl (r_move (v := .bool _) rfl) (fun hs7_5 => ?_) (fun hs7_5 => ?_)
              ·
                try with_reducible replace hs7_5 := dec_t hs7_5
                refine WL_skip (dd := some 60) rfl rfl rfl ?_
                refine WL_skip (dd := some 61) rfl rfl rfl ?_
                refine WL_skip (dd := some 62) rfl rfl rfl ?_
                refine WL_skip (dd := some 63) rfl rfl rfl ?_
                refine WL_skip (dd := some 64) rfl rfl rfl ?_
                refine WL_skip (dd := some 65) rfl rfl rfl ?_
                refine WL_skip (dd := some 66) rfl rfl rfl ?_
                refine WL_val (dd := some 67) rfl rfl rfl (r_pick_t rfl (v := .bool true) rfl) ?_
                refine WL_nil ?_
                refine hK94 _ _ ?_
                clear hK94 K93
                refine WC_cond_true rfl ?_
                refine WC_seq (fun K95 hK96 => ?_)
                refine WC_region ?_
                refine WL_val (dd := some 4) rfl rfl rfl (r_assign (v := .bool false) rfl) ?_
                refine WL_nil ?_
                refine hK96 _ _ ?_
                clear hK96 K95
                refine WC_ret ?_
                repeat (first | refine thenQ_ret ?_ | refine blockQ_ret ?_)
                try clear hK92 K91
                try clear hK34 K33
                try clear hJ28 J27
                try clear hK22 K21
                refine ret_t (v := .bool false) rfl ?_
                refine ⟨hB, ?_⟩
                first | exact tb_ne (tb_hd (by omega)) | exact tb_ne (tb_ln (ln_cube hck hck2 hs7_5)) | exact tb_ne (tb_ln (ln_outs hc2)) | exact tb_ne (tb_ln (k := k) (ln_out (j := j) hc4)) | exact tb_is (tb_ext (by omega) (fun q hq' => hq q (by omega)))
              ·
                try with_reducible replace hs7_5 := dec_f hs7_5
                refine WL_val (dd := some 60) rfl rfl rfl (r_fieldAddr (b := _) (o := _) rfl tb_fo45_1) ?_
                refine WL_val (dd := some 61) rfl rfl rfl (r_load1 (v := (vs.getD k lv0).o) rfl tb_sc43 (At.cell hm6_10 rfl)) ?_
                refine WL_val (dd := some 62) rfl rfl rfl (r_lenS (v := (vs.getD k lv0).o) rfl (Below.slT hB hp6_4) tb_el43) ?_
                refine WL_val (dd := some 63) rfl rfl rfl (r_fieldAddr (b := _) (o := _) rfl tb_fo45_1) ?_
                refine WL_val (dd := some 64) rfl rfl rfl (r_load1 (v := (us.getD k lv0).o) rfl tb_sc43 (At.cell hm6_11 rfl)) ?_
                refine WL_val (dd := some 65) rfl rfl rfl (r_lenS (v := (us.getD k lv0).o) rfl (Below.slT hB hp6_9) tb_el43) ?_
                refine WL_val (dd := some 66) rfl rfl rfl (r_neq rfl rfl) ?_
                refine WL_val (dd := some 67) rfl rfl rfl (r_pick_f rfl (v := .bool _) rfl) ?_
                refine WL_nil ?_
                refine hK94 _ _ ?_
                clear hK94 K93
                refine WC_cond (b := _) rfl (fun hc2 => ?_) (fun hc2 => ?_)
                ·
                  try with_reducible replace hc2 := dec_t hc2
                  refine WC_seq (fun K97 hK98 => ?_)
                  refine WC_region ?_
                  refine WL_val (dd := some 4) rfl rfl rfl (r_assign (v := .bool false) rfl) ?_
                  refine WL_nil ?_
                  refine hK98 _ _ ?_
                  clear hK98 K97
                  refine WC_ret ?_
                  repeat (first | refine thenQ_ret ?_ | refine blockQ_ret ?_)
                  try clear hK92 K91
                  try clear hK34 K33
                  try clear hJ28 J27
                  try clear hK22 K21
                  refine ret_t (v := .bool false) rfl ?_
                  refine ⟨hB, ?_⟩
                  first | exact tb_ne (tb_hd (by omega)) | exact tb_ne (tb_ln (ln_cube hck hck2 hs7_5)) | exact tb_ne (tb_ln (ln_outs hc2)) | exact tb_ne (tb_ln (k := k) (ln_out (j := j) hc4)) | exact tb_is (tb_ext (by omega) (fun q hq' => hq q (by omega)))
                ·
                  try with_reducible replace hc2 := dec_f hc2
                  refine WC_skip ?_
                  refine hK92 _ _ ?_
                  clear hK92 K91
                  refine WC_seq (fun K99 hK100 => ?_)
                  refine WC_region ?_
                  refine WL_val (dd := some 8) rfl rfl rfl (r_assign (v := .int .i64 0) rfl) ?_
                  refine WL_nil ?_
                  refine hK100 _ _ ?_
                  clear hK100 K99
                  refine WC_block ?_
                  refine WC_loop (σ := (Nat)) [4, 8, 68, 69, 70, 71, 72, 73, 74, 75, 76, 77, 78, 79, 80, 81, 82, 83, 84, 85] (fun j => [(8, .int .i64 (j : Int))]) (fun j W => (Below w.heap.size w W) ∧ (At W b0_0 _ 24) ∧ (At W b0_1 _ 24) ∧ (At W b6_11 _ 45) ∧ (At W b6_10 _ 45) ∧ (j ≤ (T.ls.getD k ln0).os.length) ∧ (∀ q, q < j → (T.ls.getD k ln0).os.getD q 0 = (U.ls.getD k ln0).os.getD q 0) ∧ (True)) (fun j => (T.ls.getD k ln0).os.length - j) (0) ⟨rfl, trivial⟩ ⟨hB, hm0_0, hm0_1, hm6_11, hm6_10, (Nat.zero_le _), upTo_zero, trivial⟩ ?_
                  clear hB hm0_0 hm0_1 hm6_11 hm6_10
                  rintro j g102 W101 ⟨hB, hm0_0, hm0_1, hm6_11, hm6_10, hj, hqj, _⟩ J103 hJ104
                  refine WC_seq (fun K105 hK106 => ?_)
                  refine WC_seq (fun K107 hK108 => ?_)
                  refine WC_region ?_
                  refine WL_val (dd := some 68) rfl rfl rfl (r_move (v := .int .i64 _) rfl) ?_
                  refine WL_val (dd := some 69) rfl rfl rfl (r_fieldAddr (b := _) (o := _) rfl tb_fo45_1) ?_
                  refine WL_val (dd := some 70) rfl rfl rfl (r_load1 (v := (vs.getD k lv0).o) rfl tb_sc43 (At.cell hm6_10 rfl)) ?_
                  refine WL_val (dd := some 71) rfl rfl rfl (r_lenS (v := (vs.getD k lv0).o) rfl (Below.slT hB hp6_4) tb_el43) ?_
                  refine WL_val (dd := some 72) rfl rfl rfl (r_lss rfl rfl) ?_
                  refine WL_nil ?_
                  refine hK108 _ _ ?_
                  clear hK108 K107
                  refine WC_cond (b := _) rfl (fun hc3 => ?_) (fun hc3 => ?_)
                  ·
                    try with_reducible replace hc3 := dec_t hc3
                    refine WC_skip ?_
                    refine hK106 _ _ ?_
                    clear hK106 K105
                    refine WC_seq (fun K109 hK110 => ?_)
                    refine WC_block ?_
                    refine WC_seq (fun K111 hK112 => ?_)
                    refine WC_draw Ext tb_mix (fun W113 hE114 => ?_)
                    replace hB := below_ext hB hE114 (Nat.le_refl _)
                    replace hm0_0 := hE114.at hm0_0
                    replace hm0_1 := hE114.at hm0_1
                    replace hm6_11 := hE114.at hm6_11
                    replace hm6_10 := hE114.at hm6_10
                    have hS := Ext.refl W113
                    refine WT_take (dd := some 75) 0 rfl (by kernel_rfl) (by kernel_rfl) (by kernel_rfl) rfl rfl rfl (fun _wq _hq => r_fieldAddr (b := _) (o := _) rfl tb_fo45_1) hS ?_
                    refine WT_take (dd := some 76) 1 rfl (by kernel_rfl) (by kernel_rfl) (by kernel_rfl) rfl rfl rfl (fun _wq hq => r_load1 (v := (vs.getD k lv0).o) rfl tb_sc43 (At.cell (hq.at hm6_10) rfl)) hS ?_
                    refine WT_take (dd := some 77) 2 rfl (by kernel_rfl) (by kernel_rfl) (by kernel_rfl) rfl rfl rfl (fun _wq _hq => r_move (v := .int .i64 _) rfl) hS ?_
                    refine WT_take (dd := some 78) 3 rfl (by kernel_rfl) (by kernel_rfl) (by kernel_rfl) rfl rfl rfl (fun _wq hq => r_idxS (v := (vs.getD k lv0).o) rfl (hq.slT (Below.slT hB hp6_4)) rfl tb_el43 (by omega) (by omega)) hS ?_
                    refine WT_take (dd := some 79) 4 rfl (by kernel_rfl) (by kernel_rfl) (by kernel_rfl) rfl rfl rfl (fun _wq hq => r_load1 (v := .int .i64 _) rfl tb_sc3 (SlT.cell (hq.slT (Below.slT hB hp6_4)) encI_len 0 (by omega) (by omega) 0 rfl)) hS ?_
                    refine WT_take (dd := some 80) 5 rfl (by kernel_rfl) (by kernel_rfl) (by kernel_rfl) rfl rfl rfl (fun _wq _hq => r_fieldAddr (b := _) (o := _) rfl tb_fo45_1) hS ?_
                    refine WT_take (dd := some 81) 6 rfl (by kernel_rfl) (by kernel_rfl) (by kernel_rfl) rfl rfl rfl (fun _wq hq => r_load1 (v := (us.getD k lv0).o) rfl tb_sc43 (At.cell (hq.at hm6_11) rfl)) hS ?_
                    refine WT_take (dd := some 82) 7 rfl (by kernel_rfl) (by kernel_rfl) (by kernel_rfl) rfl rfl rfl (fun _wq _hq => r_move (v := .int .i64 _) rfl) hS ?_
                    refine WT_take (dd := some 83) 8 rfl (by kernel_rfl) (by kernel_rfl) (by kernel_rfl) rfl rfl rfl (fun _wq hq => r_idxS (v := (us.getD k lv0).o) rfl (hq.slT (Below.slT hB hp6_9)) rfl tb_el43 (by omega) (by omega)) hS ?_
                    refine WT_take (dd := some 84) 9 rfl (by kernel_rfl) (by kernel_rfl) (by kernel_rfl) rfl rfl rfl (fun _wq hq => r_load1 (v := .int .i64 _) rfl tb_sc3 (SlT.cell (hq.slT (Below.slT hB hp6_9)) encI_len 0 (by omega) (by omega) 0 rfl)) hS ?_
                    refine WT_take (dd := some 85) 10 rfl (by kernel_rfl) (by kernel_rfl) (by kernel_rfl) rfl rfl rfl (fun _wq _hq => r_neq rfl rfl) hS ?_
                    refine WT_done (by kernel_rfl) ?_
                    refine hK112 _ _ ?_
                    clear hK112 K111
                    refine WC_cond (b := _) rfl (fun hc4 => ?_) (fun hc4 => ?_)
                    ·
                      try with_reducible replace hc4 := dec_t hc4
                      refine WC_seq (fun K115 hK116 => ?_)
                      refine WC_region ?_
                      refine WL_val (dd := some 4) rfl rfl rfl (r_assign (v := .bool false) rfl) ?_
                      refine WL_nil ?_
                      refine hK116 _ _ ?_
                      clear hK116 K115
                      refine WC_ret ?_
                      repeat (first | refine thenQ_ret ?_ | refine blockQ_ret ?_)
                      try clear hK110 K109
                      try clear hJ104 J103
                      try clear hK34 K33
                      try clear hJ28 J27
                      try clear hK22 K21
                      refine ret_t (v := .bool false) rfl ?_
                      refine ⟨hB, ?_⟩
                      first | exact tb_ne (tb_hd (by omega)) | exact tb_ne (tb_ln (ln_cube hck hck2 hs7_5)) | exact tb_ne (tb_ln (ln_outs hc2)) | exact tb_ne (tb_ln (k := k) (ln_out (j := j) hc4)) | exact tb_is (tb_ext (by omega) (fun q hq' => hq q (by omega)))
                    ·
                      try with_reducible replace hc4 := dec_f hc4
                      refine WC_skip ?_
                      refine hK110 _ _ ?_
                      clear hK110 K109
                      have hsj : (T.ls.getD k ln0).os.getD j 0 = (U.ls.getD k ln0).os.getD j 0 := Decidable.of_not_not hc4
                      refine WC_region ?_
                      refine WL_val (dd := some 73) rfl rfl rfl (r_move (v := .int .i64 _) rfl) ?_
                      refine WL_val (dd := some 74) rfl rfl rfl (r_addI rfl rfl (by omega) (by omega)) ?_
                      refine WL_val (dd := some 8) rfl rfl rfl (r_assign (v := .int .i64 _) rfl) ?_
                      refine WL_nil ?_
                      refine hJ104 _ _ (j + 1) ?_ ?_ ?_ ?_
                      · repeat (first | exact agree.mask _ _ _ | refine agree.updo ?_ rfl _ | refine agree.updL ?_ _ rfl | refine agree.maskS rfl ?_)
                      · exact ⟨rfl, trivial⟩
                      · exact ⟨hB, hm0_0, hm0_1, hm6_11, hm6_10, (by omega), (upTo_succ hqj hsj), trivial⟩
                      · show (T.ls.getD k ln0).os.length - (j + 1) < (T.ls.getD k ln0).os.length - j; omega
                  ·
                    try with_reducible replace hc3 := dec_f hc3
                    refine WC_exit ?_
                    refine hK34 _ _ ?_
                    clear hK106 K105
                    clear hJ104 J103
                    clear hK34 K33
                    have hcc := cube_same hck hck2 hs7_5
                    have hqj2 : ∀ q, q < (T.ls.getD k ln0).os.length → (T.ls.getD k ln0).os.getD q 0 = (U.ls.getD k ln0).os.getD q 0 := fun q hq' => hqj q (by omega)
                    refine WC_region ?_
                    refine WL_val (dd := some 42) rfl rfl rfl (r_move (v := .int .i64 _) rfl) ?_
                    refine WL_val (dd := some 43) rfl rfl rfl (r_addI rfl rfl (by omega) (by omega)) ?_
                    refine WL_val (dd := some 5) rfl rfl rfl (r_assign (v := .int .i64 _) rfl) ?_
                    refine WL_nil ?_
                    refine hJ28 _ _ (k + 1) ?_ ?_ ?_ ?_
                    · repeat (first | exact agree.mask _ _ _ | refine agree.updo ?_ rfl _ | refine agree.updL ?_ _ rfl | refine agree.maskS rfl ?_)
                    · exact ⟨rfl, trivial⟩
                    · exact ⟨hB, hm0_0, hm0_1, (by omega), (upTo_succ hq (ln_ext hcc (by omega) hqj2)), trivial⟩
                    · first | omega | (dsimp only; omega)
          ·
            try with_reducible replace hc1 := dec_f hc1
            refine WC_exit ?_
            refine hK22 _ _ ?_
            clear hK30 K29
            clear hJ28 J27
            clear hK22 K21
            refine WC_seq (fun K117 hK118 => ?_)
            refine WC_region ?_
            refine WL_val (dd := some 4) rfl rfl rfl (r_assign (v := .bool true) rfl) ?_
            refine WL_nil ?_
            refine hK118 _ _ ?_
            clear hK118 K117
            refine WC_ret ?_
            repeat (first | refine thenQ_ret ?_ | refine blockQ_ret ?_)
            refine ret_t (v := .bool true) rfl ?_
            refine ⟨hB, ?_⟩
            first | exact tb_ne (tb_hd (by omega)) | exact tb_ne (tb_ln (ln_cube hck hck2 hs7_5)) | exact tb_ne (tb_ln (ln_outs hc2)) | exact tb_ne (tb_ln (k := k) (ln_out (j := j) hc4)) | exact tb_is (tb_ext (by omega) (fun q hq' => hq q (by omega)))

end Go.Proofs.YtnkaebjaeaecmaaDoor
