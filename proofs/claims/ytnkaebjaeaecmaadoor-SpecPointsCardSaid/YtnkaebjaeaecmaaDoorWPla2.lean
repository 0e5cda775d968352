/-
  The walks of package pla: its tables.
-/
import Derived.Test.YtnkaebjaeaecmaaDoorProg
import Derived.Test.YtnkaebjaeaecmaaDoorWPla
import Derived.Test.YtnkaebjaeaecmaaDoorWCube
namespace Go.Proofs.YtnkaebjaeaecmaaDoor
set_option linter.unusedVariables false
set_option linter.unusedSimpArgs false
open Go Go.RowKit

theorem tb_fo24_0 : fieldO Tryd.prog 24 0 = some 0 := by kernel_rfl
theorem tb_fo24_1 : fieldO Tryd.prog 24 1 = some 1 := by kernel_rfl
theorem tb_fo24_2 : fieldO Tryd.prog 24 2 = some 2 := by kernel_rfl
theorem tb_fo24_3 : fieldO Tryd.prog 24 3 = some 3 := by kernel_rfl
theorem tb_sc22 : scalarB Tryd.prog 22 = true := by kernel_rfl
theorem tb_el22 : elemI Tryd.prog 22 = some (45, 3, 32) := by kernel_rfl
theorem tb_ag45 : aggN Tryd.prog 45 = some 3 := by kernel_rfl
theorem tb_z45 : zeroI Tryd.prog 45 = some (.agg #[.int .u8 0, .int .u8 0, .slice none 0 0]) := by kernel_rfl
theorem tb_fo45_0 : fieldO Tryd.prog 45 0 = some 0 := by kernel_rfl
theorem tb_fo45_1 : fieldO Tryd.prog 45 1 = some 2 := by kernel_rfl
theorem tb_sc43 : scalarB Tryd.prog 43 = true := by kernel_rfl
theorem tb_c20 : callB Tryd.prog 20 = true := by kernel_rfl
theorem C_pla_Right (T : Tb) (lv : Value) (vs : List LnV) (w : World) (hlv : SlT encLn 3 w lv vs) (hls : LsAt w vs T.ls) (hmb : ∀ i, i < T.ls.length → (T.ls.getD i ln0).c.m < 256 ∧ (T.ls.getD i ln0).c.v < 256) :
    Fn Tryd.prog 11 #[.agg #[.int .i64 T.kind, .int .i64 T.ni, .int .i64 T.no, lv]] w fun v w' => v = .bool (rightT T) := by
  refine Fn_intro (n := 77) Tryd.func11 rfl rfl (Nat.le_of_ble_eq_true rfl) ?_
  have hB : Below w.heap.size w w := Below.refl _ _
  have hle := hls.len
  refine WC_seq (fun K1 hK2 => ?_)
  refine WC_region ?_
  refine WL_step (dd := some 1) rfl rfl rfl (Y_box (c := #[_, _, _, _]) rfl rfl (fun b0_0 W3 hb4 hE5 hm0_0 => ?_))
  have lo_b0_0 : w.heap.size ≤ b0_0 := hb4 ▸ (Below.size hB)
  clear hb4
  replace hB := below_ext hB hE5 (Nat.le_refl _)
  clear hE5
  refine WL_val (dd := some 2) rfl rfl rfl (r_assign (v := .bool false) rfl) ?_
  refine WL_nil ?_
  refine hK2 _ _ ?_
  clear hK2 K1
  refine WC_seq (fun K6 hK7 => ?_)
  refine WC_seq (fun K8 hK9 => ?_)
  refine WC_region ?_
  refine WL_val (dd := some 7) rfl rfl rfl (r_fieldAddr (b := _) (o := _) rfl tb_fo24_0) ?_
  refine WL_val (dd := some 8) rfl rfl rfl (r_load1 (v := .int .i64 _) rfl tb_sc3 (At.cell hm0_0 rfl)) ?_
  refine WL_val (dd := some 9) rfl rfl rfl (r_lss rfl rfl) ?_
  refine WL_split (dd := some 10) rfl rfl rfl (r_move (v := .bool _) rfl) (fun hs1_3 => ?_) (fun hs1_3 => ?_)
  ·
    try with_reducible replace hs1_3 := dec_t hs1_3
    refine WL_skip (dd := some 11) rfl rfl rfl ?_
    refine WL_skip (dd := some 12) rfl rfl rfl ?_
    refine WL_skip (dd := some 13) rfl rfl rfl ?_
    refine WL_val (dd := some 14) rfl rfl rfl (r_pick_t rfl (v := .bool true) rfl) ?_
    refine WL_val (dd := some 15) rfl rfl rfl (r_move (v := .bool true) rfl) ?_
    refine WL_skip (dd := some 16) rfl rfl rfl ?_
    refine WL_skip (dd := some 17) rfl rfl rfl ?_
    refine WL_skip (dd := some 18) rfl rfl rfl ?_
    refine WL_val (dd := some 19) rfl rfl rfl (r_pick_t rfl (v := .bool true) rfl) ?_
    refine WL_val (dd := some 20) rfl rfl rfl (r_move (v := .bool true) rfl) ?_
    refine WL_skip (dd := some 21) rfl rfl rfl ?_
    refine WL_skip (dd := some 22) rfl rfl rfl ?_
    refine WL_skip (dd := some 23) rfl rfl rfl ?_
    refine WL_val (dd := some 24) rfl rfl rfl (r_pick_t rfl (v := .bool true) rfl) ?_
    refine WL_val (dd := some 25) rfl rfl rfl (r_move (v := .bool true) rfl) ?_
    refine WL_skip (dd := some 26) rfl rfl rfl ?_
    refine WL_skip (dd := some 27) rfl rfl rfl ?_
    refine WL_skip (dd := some 28) rfl rfl rfl ?_
    refine WL_val (dd := some 29) rfl rfl rfl (r_pick_t rfl (v := .bool true) rfl) ?_
    refine WL_val (dd := some 30) rfl rfl rfl (r_move (v := .bool true) rfl) ?_
    refine WL_skip (dd := some 31) rfl rfl rfl ?_
    refine WL_skip (dd := some 32) rfl rfl rfl ?_
    refine WL_skip (dd := some 33) rfl rfl rfl ?_
    refine WL_val (dd := some 34) rfl rfl rfl (r_pick_t rfl (v := .bool true) rfl) ?_
    refine WL_val (dd := some 35) rfl rfl rfl (r_move (v := .bool true) rfl) ?_
    refine WL_skip (dd := some 36) rfl rfl rfl ?_
    refine WL_skip (dd := some 37) rfl rfl rfl ?_
    refine WL_skip (dd := some 38) rfl rfl rfl ?_
    refine WL_skip (dd := some 39) rfl rfl rfl ?_
    refine WL_val (dd := some 40) rfl rfl rfl (r_pick_t rfl (v := .bool true) rfl) ?_
    refine WL_nil ?_
    refine hK9 _ _ ?_
    clear hK9 K8
    refine WC_cond_true rfl ?_
    refine WC_seq (fun K10 hK11 => ?_)
    refine WC_region ?_
    refine WL_val (dd := some 2) rfl rfl rfl (r_assign (v := .bool false) rfl) ?_
    refine WL_nil ?_
    refine hK11 _ _ ?_
    clear hK11 K10
    refine WC_ret ?_
    repeat (first | refine thenQ_ret ?_ | refine blockQ_ret ?_)
    try clear hK7 K6
    refine ret_t (v := .bool false) rfl ?_
    refine ⟨hB, ?_⟩
    first | exact rightT_f (by omega) | exact rightT_k (k := k) (by omega) (ln_1 (by rw [← hck]; exact bool_t hs6_6)) | exact rightT_k (k := k) (by omega) (ln_2 hc2) | exact rightT_k (k := k) (by omega) (ln_3 (j := j) (by omega) (by have h1 : (T.ls.getD k ln0).os.getD j 0 < 0 := hs11_2; omega)) | exact rightT_k (k := k) (by omega) (ln_3 (j := j) (by omega) (by have h1 : (T.ls.getD k ln0).os.getD j 0 ≥ 3 := hc4; omega)) | exact rightT_t (by omega) (fun q hq' => hq q (by omega))
  ·
    try with_reducible replace hs1_3 := dec_f hs1_3
    refine WL_val (dd := some 11) rfl rfl rfl (r_fieldAddr (b := _) (o := _) rfl tb_fo24_0) ?_
    refine WL_val (dd := some 12) rfl rfl rfl (r_load1 (v := .int .i64 _) rfl tb_sc3 (At.cell hm0_0 rfl)) ?_
    refine WL_val (dd := some 13) rfl rfl rfl (r_gtr rfl rfl) ?_
    refine WL_val (dd := some 14) rfl rfl rfl (r_pick_f rfl (v := .bool _) rfl) ?_
    refine WL_split (dd := some 15) rfl rfl rfl (r_move (v := .bool _) rfl) (fun hs1_8 => ?_) (fun hs1_8 => ?_)
    ·
      try with_reducible replace hs1_8 := dec_t hs1_8
      refine WL_skip (dd := some 16) rfl rfl rfl ?_
      refine WL_skip (dd := some 17) rfl rfl rfl ?_
      refine WL_skip (dd := some 18) rfl rfl rfl ?_
      refine WL_val (dd := some 19) rfl rfl rfl (r_pick_t rfl (v := .bool true) rfl) ?_
      refine WL_val (dd := some 20) rfl rfl rfl (r_move (v := .bool true) rfl) ?_
      refine WL_skip (dd := some 21) rfl rfl rfl ?_
      refine WL_skip (dd := some 22) rfl rfl rfl ?_
      refine WL_skip (dd := some 23) rfl rfl rfl ?_
      refine WL_val (dd := some 24) rfl rfl rfl (r_pick_t rfl (v := .bool true) rfl) ?_
      refine WL_val (dd := some 25) rfl rfl rfl (r_move (v := .bool true) rfl) ?_
      refine WL_skip (dd := some 26) rfl rfl rfl ?_
      refine WL_skip (dd := some 27) rfl rfl rfl ?_
      refine WL_skip (dd := some 28) rfl rfl rfl ?_
      refine WL_val (dd := some 29) rfl rfl rfl (r_pick_t rfl (v := .bool true) rfl) ?_
      refine WL_val (dd := some 30) rfl rfl rfl (r_move (v := .bool true) rfl) ?_
      refine WL_skip (dd := some 31) rfl rfl rfl ?_
      refine WL_skip (dd := some 32) rfl rfl rfl ?_
      refine WL_skip (dd := some 33) rfl rfl rfl ?_
      refine WL_val (dd := some 34) rfl rfl rfl (r_pick_t rfl (v := .bool true) rfl) ?_
      refine WL_val (dd := some 35) rfl rfl rfl (r_move (v := .bool true) rfl) ?_
      refine WL_skip (dd := some 36) rfl rfl rfl ?_
      refine WL_skip (dd := some 37) rfl rfl rfl ?_
      refine WL_skip (dd := some 38) rfl rfl rfl ?_
      refine WL_skip (dd := some 39) rfl rfl rfl ?_
      refine WL_val (dd := some 40) rfl rfl rfl (r_pick_t rfl (v := .bool true) rfl) ?_
      refine WL_nil ?_
      refine hK9 _ _ ?_
      clear hK9 K8
      refine WC_cond_true rfl ?_
      refine WC_seq (fun K12 hK13 => ?_)
      refine WC_region ?_
      refine WL_val (dd := some 2) rfl rfl rfl (r_assign (v := .bool false) rfl) ?_
      refine WL_nil ?_
      refine hK13 _ _ ?_
      clear hK13 K12
      refine WC_ret ?_
      repeat (first | refine thenQ_ret ?_ | refine blockQ_ret ?_)
      try clear hK7 K6
      refine ret_t (v := .bool false) rfl ?_
      refine ⟨hB, ?_⟩
      first | exact rightT_f (by omega) | exact rightT_k (k := k) (by omega) (ln_1 (by rw [← hck]; exact bool_t hs6_6)) | exact rightT_k (k := k) (by omega) (ln_2 hc2) | exact rightT_k (k := k) (by omega) (ln_3 (j := j) (by omega) (by have h1 : (T.ls.getD k ln0).os.getD j 0 < 0 := hs11_2; omega)) | exact rightT_k (k := k) (by omega) (ln_3 (j := j) (by omega) (by have h1 : (T.ls.getD k ln0).os.getD j 0 ≥ 3 := hc4; omega)) | exact rightT_t (by omega) (fun q hq' => hq q (by omega))
    ·
      try with_reducible replace hs1_8 := dec_f hs1_8
      refine WL_val (dd := some 16) rfl rfl rfl (r_fieldAddr (b := _) (o := _) rfl tb_fo24_1) ?_
      refine WL_val (dd := some 17) rfl rfl rfl (r_load1 (v := .int .i64 _) rfl tb_sc3 (At.cell hm0_0 rfl)) ?_
      refine WL_val (dd := some 18) rfl rfl rfl (r_lss rfl rfl) ?_
      refine WL_val (dd := some 19) rfl rfl rfl (r_pick_f rfl (v := .bool _) rfl) ?_
      refine WL_split (dd := some 20) rfl rfl rfl (r_move (v := .bool _) rfl) (fun hs1_13 => ?_) (fun hs1_13 => ?_)
      ·
        try with_reducible replace hs1_13 := dec_t hs1_13
        refine WL_skip (dd := some 21) rfl rfl rfl ?_
        refine WL_skip (dd := some 22) rfl rfl rfl ?_
        refine WL_skip (dd := some 23) rfl rfl rfl ?_
        refine WL_val (dd := some 24) rfl rfl rfl (r_pick_t rfl (v := .bool true) rfl) ?_
        refine WL_val (dd := some 25) rfl rfl rfl (r_move (v := .bool true) rfl) ?_
        refine WL_skip (dd := some 26) rfl rfl rfl ?_
        refine WL_skip (dd := some 27) rfl rfl rfl ?_
        refine WL_skip (dd := some 28) rfl rfl rfl ?_
        refine WL_val (dd := some 29) rfl rfl rfl (r_pick_t rfl (v := .bool true) rfl) ?_
        refine WL_val (dd := some 30) rfl rfl rfl (r_move (v := .bool true) rfl) ?_
        refine WL_skip (dd := some 31) rfl rfl rfl ?_
        refine WL_skip (dd := some 32) rfl rfl rfl ?_
        refine WL_skip (dd := some 33) rfl rfl rfl ?_
        refine WL_val (dd := some 34) rfl rfl rfl (r_pick_t rfl (v := .bool true) rfl) ?_
        refine WL_val (dd := some 35) rfl rfl rfl (r_move (v := .bool true) rfl) ?_
        refine WL_skip (dd := some 36) rfl rfl rfl ?_
        refine WL_skip (dd := some 37) rfl rfl rfl ?_
        refine WL_skip (dd := some 38) rfl rfl rfl ?_
        refine WL_skip (dd := some 39) rfl rfl rfl ?_
        refine WL_val (dd := some 40) rfl rfl rfl (r_pick_t rfl (v := .bool true) rfl) ?_
        refine WL_nil ?_
        refine hK9 _ _ ?_
        clear hK9 K8
        refine WC_cond_true rfl ?_
        refine WC_seq (fun K14 hK15 => ?_)
        refine WC_region ?_
        refine WL_val (dd := some 2) rfl rfl rfl (r_assign (v := .bool false) rfl) ?_
        refine WL_nil ?_
        refine hK15 _ _ ?_
        clear hK15 K14
        refine WC_ret ?_
        repeat (first | refine thenQ_ret ?_ | refine blockQ_ret ?_)
        try clear hK7 K6
        refine ret_t (v := .bool false) rfl ?_
        refine ⟨hB, ?_⟩
        first | exact rightT_f (by omega) | exact rightT_k (k := k) (by omega) (ln_1 (by rw [← hck]; exact bool_t hs6_6)) | exact rightT_k (k := k) (by omega) (ln_2 hc2) | exact rightT_k (k := k) (by omega) (ln_3 (j := j) (by omega) (by have h1 : (T.ls.getD k ln0).os.getD j 0 < 0 := hs11_2; omega)) | exact rightT_k (k := k) (by omega) (ln_3 (j := j) (by omega) (by have h1 : (T.ls.getD k ln0).os.getD j 0 ≥ 3 := hc4; omega)) | exact rightT_t (by omega) (fun q hq' => hq q (by omega))
      ·
        try with_reducible replace hs1_13 := dec_f hs1_13
        refine WL_val (dd := some 21) rfl rfl rfl (r_fieldAddr (b := _) (o := _) rfl tb_fo24_1) ?_
        refine WL_val (dd := some 22) rfl rfl rfl (r_load1 (v := .int .i64 _) rfl tb_sc3 (At.cell hm0_0 rfl)) ?_
        refine WL_val (dd := some 23) rfl rfl rfl (r_gtr rfl rfl) ?_
        refine WL_val (dd := some 24) rfl rfl rfl (r_pick_f rfl (v := .bool _) rfl) ?_
        refine WL_split (dd := some 25) rfl rfl rfl (r_move (v := .bool _) rfl) (fun hs1_18 => ?_) (fun hs1_18 => ?_)
        ·
          try with_reducible replace hs1_18 := dec_t hs1_18
          refine WL_skip (dd := some 26) rfl rfl rfl ?_
          refine WL_skip (dd := some 27) rfl rfl rfl ?_
          refine WL_skip (dd := some 28) rfl rfl rfl ?_
          refine WL_val (dd := some 29) rfl rfl rfl (r_pick_t rfl (v := .bool true) rfl) ?_
          refine WL_val (dd := some 30) rfl rfl rfl (r_move (v := .bool true) rfl) ?_
          refine WL_skip (dd := some 31) rfl rfl rfl ?_
          refine WL_skip (dd := some 32) rfl rfl rfl ?_
          refine WL_skip (dd := some 33) rfl rfl rfl ?_
          refine WL_val (dd := some 34) rfl rfl rfl (r_pick_t rfl (v := .bool true) rfl) ?_
          refine WL_val (dd := some 35) rfl rfl rfl (r_move (v := .bool true) rfl) ?_
          refine WL_skip (dd := some 36) rfl rfl rfl ?_
          refine WL_skip (dd := some 37) rfl rfl rfl ?_
          refine WL_skip (dd := some 38) rfl rfl rfl ?_
          refine WL_skip (dd := some 39) rfl rfl rfl ?_
          refine WL_val (dd := some 40) rfl rfl rfl (r_pick_t rfl (v := .bool true) rfl) ?_
          refine WL_nil ?_
          refine hK9 _ _ ?_
          clear hK9 K8
          refine WC_cond_true rfl ?_
          refine WC_seq (fun K16 hK17 => ?_)
          refine WC_region ?_
          refine WL_val (dd := some 2) rfl rfl rfl (r_assign (v := .bool false) rfl) ?_
          refine WL_nil ?_
          refine hK17 _ _ ?_
          clear hK17 K16
          refine WC_ret ?_
          repeat (first | refine thenQ_ret ?_ | refine blockQ_ret ?_)
          try clear hK7 K6
          refine ret_t (v := .bool false) rfl ?_
          refine ⟨hB, ?_⟩
          first | exact rightT_f (by omega) | exact rightT_k (k := k) (by omega) (ln_1 (by rw [← hck]; exact bool_t hs6_6)) | exact rightT_k (k := k) (by omega) (ln_2 hc2) | exact rightT_k (k := k) (by omega) (ln_3 (j := j) (by omega) (by have h1 : (T.ls.getD k ln0).os.getD j 0 < 0 := hs11_2; omega)) | exact rightT_k (k := k) (by omega) (ln_3 (j := j) (by omega) (by have h1 : (T.ls.getD k ln0).os.getD j 0 ≥ 3 := hc4; omega)) | exact rightT_t (by omega) (fun q hq' => hq q (by omega))
        ·
          try with_reducible replace hs1_18 := dec_f hs1_18
          refine WL_val (dd := some 26) rfl rfl rfl (r_fieldAddr (b := _) (o := _) rfl tb_fo24_2) ?_
          refine WL_val (dd := some 27) rfl rfl rfl (r_load1 (v := .int .i64 _) rfl tb_sc3 (At.cell hm0_0 rfl)) ?_
          refine WL_val (dd := some 28) rfl rfl rfl (r_lss rfl rfl) ?_
          refine WL_val (dd := some 29) rfl rfl rfl (r_pick_f rfl (v := .bool _) rfl) ?_
          refine WL_split (dd := some 30) rfl rfl rfl (r_move (v := .bool _) rfl) (fun hs1_23 => ?_) (fun hs1_23 => ?_)
          ·
            try with_reducible replace hs1_23 := dec_t hs1_23
            refine WL_skip (dd := some 31) rfl rfl rfl ?_
            refine WL_skip (dd := some 32) rfl rfl rfl ?_
            refine WL_skip (dd := some 33) rfl rfl rfl ?_
            refine WL_val (dd := some 34) rfl rfl rfl (r_pick_t rfl (v := .bool true) rfl) ?_
            refine WL_val (dd := some 35) rfl rfl rfl (r_move (v := .bool true) rfl) ?_
            refine WL_skip (dd := some 36) rfl rfl rfl ?_
            refine WL_skip (dd := some 37) rfl rfl rfl ?_
            refine WL_skip (dd := some 38) rfl rfl rfl ?_
            refine WL_skip (dd := some 39) rfl rfl rfl ?_
            refine WL_val (dd := some 40) rfl rfl rfl (r_pick_t rfl (v := .bool true) rfl) ?_
            refine WL_nil ?_
            refine hK9 _ _ ?_
            clear hK9 K8
            refine WC_cond_true rfl ?_
            refine WC_seq (fun K18 hK19 => ?_)
            refine WC_region ?_
            refine WL_val (dd := some 2) rfl rfl rfl (r_assign (v := .bool false) rfl) ?_
            refine WL_nil ?_
            refine hK19 _ _ ?_
            clear hK19 K18
            refine WC_ret ?_
            repeat (first | refine thenQ_ret ?_ | refine blockQ_ret ?_)
            try clear hK7 K6
            refine ret_t (v := .bool false) rfl ?_
            refine ⟨hB, ?_⟩
            first | exact rightT_f (by omega) | exact rightT_k (k := k) (by omega) (ln_1 (by rw [← hck]; exact bool_t hs6_6)) | exact rightT_k (k := k) (by omega) (ln_2 hc2) | exact rightT_k (k := k) (by omega) (ln_3 (j := j) (by omega) (by have h1 : (T.ls.getD k ln0).os.getD j 0 < 0 := hs11_2; omega)) | exact rightT_k (k := k) (by omega) (ln_3 (j := j) (by omega) (by have h1 : (T.ls.getD k ln0).os.getD j 0 ≥ 3 := hc4; omega)) | exact rightT_t (by omega) (fun q hq' => hq q (by omega))
          ·
            try with_reducible replace hs1_23 := dec_f hs1_23
            refine WL_val (dd := some 31) rfl rfl rfl (r_fieldAddr (b := _) (o := _) rfl tb_fo24_2) ?_
            refine WL_val (dd := some 32) rfl rfl rfl (r_load1 (v := .int .i64 _) rfl tb_sc3 (At.cell hm0_0 rfl)) ?_
            refine WL_val (dd := some 33) rfl rfl rfl (r_gtr rfl rfl) ?_
            refine WL_val (dd := some 34) rfl rfl rfl (r_pick_f rfl (v := .bool _) rfl) ?_
            refine WL_split (dd := some 35) rfl rfl rfl (r_move (v := .bool _) rfl) (fun hs1_28 => ?_) (fun hs1_28 => ?_)
            ·
              try with_reducible replace hs1_28 := dec_t hs1_28
              refine WL_skip (dd := some 36) rfl rfl rfl ?_
              refine WL_skip (dd := some 37) rfl rfl rfl ?_
              refine WL_skip (dd := some 38) rfl rfl rfl ?_
              refine WL_skip (dd := some 39) rfl rfl rfl ?_
              refine WL_val (dd := some 40) rfl rfl rfl (r_pick_t rfl (v := .bool true) rfl) ?_
              refine WL_nil ?_
              refine hK9 _ _ ?_
              clear hK9 K8
              refine WC_cond_true rfl ?_
              refine WC_seq (fun K20 hK21 => ?_)
              refine WC_region ?_
              refine WL_val (dd := some 2) rfl rfl rfl (r_assign (v := .bool false) rfl) ?_
              refine WL_nil ?_
              refine hK21 _ _ ?_
              clear hK21 K20
              refine WC_ret ?_
              repeat (first | refine thenQ_ret ?_ | refine blockQ_ret ?_)
              try clear hK7 K6
              refine ret_t (v := .bool false) rfl ?_
              refine ⟨hB, ?_⟩
              first | exact rightT_f (by omega) | exact rightT_k (k := k) (by omega) (ln_1 (by rw [← hck]; exact bool_t hs6_6)) | exact rightT_k (k := k) (by omega) (ln_2 hc2) | exact rightT_k (k := k) (by omega) (ln_3 (j := j) (by omega) (by have h1 : (T.ls.getD k ln0).os.getD j 0 < 0 := hs11_2; omega)) | exact rightT_k (k := k) (by omega) (ln_3 (j := j) (by omega) (by have h1 : (T.ls.getD k ln0).os.getD j 0 ≥ 3 := hc4; omega)) | exact rightT_t (by omega) (fun q hq' => hq q (by omega))
            ·
              try with_reducible replace hs1_28 := dec_f hs1_28
              refine WL_val (dd := some 36) rfl rfl rfl (r_fieldAddr (b := _) (o := _) rfl tb_fo24_3) ?_
              refine WL_val (dd := some 37) rfl rfl rfl (r_load1 (v := lv) rfl tb_sc22 (At.cell hm0_0 rfl)) ?_
              refine WL_val (dd := some 38) rfl rfl rfl (r_lenS (v := lv) rfl (Below.slT hB hlv) tb_el22) ?_
              refine WL_val (dd := some 39) rfl rfl rfl (r_gtr rfl rfl) ?_
              refine WL_val (dd := some 40) rfl rfl rfl (r_pick_f rfl (v := .bool _) rfl) ?_
              refine WL_nil ?_
              refine hK9 _ _ ?_
              clear hK9 K8
              refine WC_cond (b := _) rfl (fun hc0 => ?_) (fun hc0 => ?_)
              ·
                try with_reducible replace hc0 := dec_t hc0
                refine WC_seq (fun K22 hK23 => ?_)
                refine WC_region ?_
                refine WL_val (dd := some 2) rfl rfl rfl (r_assign (v := .bool false) rfl) ?_
                refine WL_nil ?_
                refine hK23 _ _ ?_
                clear hK23 K22
                refine WC_ret ?_
                repeat (first | refine thenQ_ret ?_ | refine blockQ_ret ?_)
                try clear hK7 K6
                refine ret_t (v := .bool false) rfl ?_
                refine ⟨hB, ?_⟩
                first | exact rightT_f (by omega) | exact rightT_k (k := k) (by omega) (ln_1 (by rw [← hck]; exact bool_t hs6_6)) | exact rightT_k (k := k) (by omega) (ln_2 hc2) | exact rightT_k (k := k) (by omega) (ln_3 (j := j) (by omega) (by have h1 : (T.ls.getD k ln0).os.getD j 0 < 0 := hs11_2; omega)) | exact rightT_k (k := k) (by omega) (ln_3 (j := j) (by omega) (by have h1 : (T.ls.getD k ln0).os.getD j 0 ≥ 3 := hc4; omega)) | exact rightT_t (by omega) (fun q hq' => hq q (by omega))
              ·
                try with_reducible replace hc0 := dec_f hc0
                refine WC_skip ?_
                refine hK7 _ _ ?_
                clear hK7 K6
                refine WC_seq (fun K24 hK25 => ?_)
                refine WC_seq (fun K26 hK27 => ?_)
                refine WC_region ?_
                refine WL_val (dd := some 41) rfl rfl rfl (r_fieldAddr (b := _) (o := _) rfl tb_fo24_3) ?_
                refine WL_val (dd := some 42) rfl rfl rfl (r_load1 (v := lv) rfl tb_sc22 (At.cell hm0_0 rfl)) ?_
                refine WL_val (dd := some 43) rfl rfl rfl (r_lenS (v := lv) rfl (Below.slT hB hlv) tb_el22) ?_
                refine WL_val (dd := some 44) rfl rfl rfl (r_move (v := .int .i64 0) rfl) ?_
                refine WL_nil ?_
                refine hK27 _ _ ?_
                clear hK27 K26
                refine WC_block ?_
                refine WC_loop (σ := (Nat)) [2, 4, 6, 44, 45, 46, 47, 48, 49, 50, 51, 52, 53, 54, 55, 56, 57, 58, 59, 60, 61, 62, 63, 64, 65, 66, 67, 68, 69, 70, 71, 72, 73, 74, 75, 76] (fun k => [(44, .int .i64 (k : Int))]) (fun k W => (Below w.heap.size w W) ∧ (At W b0_0 _ 24) ∧ (k ≤ T.ls.length) ∧ (∀ q, q < k → lnOk T.ni T.no (T.ls.getD q ln0) = true) ∧ (True)) (fun k => T.ls.length - k) (0) ⟨rfl, trivial⟩ ⟨hB, hm0_0, (Nat.zero_le _), upTo_zero, trivial⟩ ?_
                clear hB hm0_0
                rintro k g29 W28 ⟨hB, hm0_0, hk, hq, _⟩ J30 hJ31
                refine WC_seq (fun K32 hK33 => ?_)
                refine WC_region ?_
                refine WL_val (dd := some 45) rfl rfl rfl (r_lss rfl rfl) ?_
                refine WL_nil ?_
                refine hK33 _ _ ?_
                clear hK33 K32
                refine WC_seq (fun K34 hK35 => ?_)
                refine WC_cond (b := _) rfl (fun hc1 => ?_) (fun hc1 => ?_)
                ·
                  try with_reducible replace hc1 := dec_t hc1
                  refine WC_skip ?_
                  refine hK35 _ _ ?_
                  clear hK35 K34
                  refine WC_seq (fun K36 hK37 => ?_)
                  refine WC_block ?_
                  refine WC_seq (fun K38 hK39 => ?_)
                  have hck := hls.c k (by omega)
                  have hbk := hmb k (by omega)
                  have hb1 : (vs.getD k lv0).c.m < 256 ∧ (vs.getD k lv0).c.v < 256 := by rw [hck]; exact hbk
                  refine WC_region ?_
                  refine WL_val (dd := some 46) rfl rfl rfl (r_idxS (v := lv) rfl (Below.slT hB hlv) rfl tb_el22 (by omega) (by omega)) ?_
                  refine WL_val (dd := some 47) rfl rfl rfl (r_load3 rfl tb_ag45 (SlT.cell (Below.slT hB hlv) encLn_len lv0 (by omega) (by omega) 0 rfl) (SlT.cell (Below.slT hB hlv) encLn_len lv0 (by omega) (by omega) 1 rfl) (SlT.cell (Below.slT hB hlv) encLn_len lv0 (by omega) (by omega) 2 rfl)) ?_
                  have hp5_1 : SlT encI 1 w ((vs.getD k lv0).o) ((T.ls.getD k ln0).os) := hls.o k (by omega)
                  refine WL_step (dd := some 4) rfl rfl rfl (Y_alloc tb_z45 rfl (fun b5_2 W40 hb41 hE42 hm5_2 => ?_))
                  have lo_b5_2 : w.heap.size ≤ b5_2 := hb41 ▸ (Below.size hB)
                  clear hb41
                  replace hB := below_ext hB hE42 (Nat.le_refl _)
                  replace hm0_0 := hE42.at hm0_0
                  clear hE42
                  refine WL_step (dd := none) rfl rfl rfl (Y_storeW rfl rfl tb_ag45 rfl hm5_2 rfl (by exact one_ln (SlT.one hp5_1)) (fun W43 hG44 hm45 => ?_))
                  replace hB := below_grown hB hG44 (Nat.le_refl _) (fun j hj => by cases hj; exact lo_b5_2)
                  replace hm0_0 := At.grownAt hm0_0 hm5_2 hG44 (by decide)
                  clear hG44 hm5_2
                  have hm5_2 := hm45
                  clear hm45
                  refine WL_nil ?_
                  refine hK39 _ _ ?_
                  clear hK39 K38
                  refine WC_seq (fun K46 hK47 => ?_)
                  refine WC_seq (fun K48 hK49 => ?_)
                  refine WC_region ?_
                  refine WL_val (dd := some 48) rfl rfl rfl (r_fieldAddr (b := _) (o := _) rfl tb_fo45_0) ?_
                  refine WL_val (dd := some 49) rfl rfl rfl (r_load2 rfl tb_ag42 (At.cell hm5_2 rfl) (At.cell hm5_2 rfl)) ?_
                  refine WL_val (dd := some 50) rfl rfl rfl (r_fieldAddr (b := _) (o := _) rfl tb_fo24_1) ?_
                  refine WL_val (dd := some 51) rfl rfl rfl (r_load1 (v := .int .i64 _) rfl tb_sc3 (At.cell hm0_0 rfl)) ?_
                  refine WL_call (dd := some 52) rfl rfl rfl (r_call2 tb_c27 (v0 := .agg #[_, _]) rfl (v1 := .int .i64 _) rfl) (C_cube_Right (vs.getD k lv0).c.m (vs.getD k lv0).c.v _ _ hb1.1 hb1.2) (fun v6_4 W50 hE51 hP6_4 => ?_)
                  have hsz52 := (Below.size hB)
                  replace hB := below_ext hB hE51 (Nat.le_refl _)
                  replace hm0_0 := hE51.at hm0_0
                  replace hm5_2 := hE51.at hm5_2
                  clear hE51
                  clear hsz52
                  obtain rfl := hP6_4
                  refine WL_val (dd := some 53) rfl rfl rfl (r_not rfl) ?_
                  refine WL_split (dd := some 54) rfl rfl rfl (r_move (v := .bool _) rfl) (fun hs6_6 => ?_) (fun hs6_6 => ?_)
                  ·
                    try with_reducible replace hs6_6 := dec_t hs6_6
                    refine WL_skip (dd := some 55) rfl rfl rfl ?_
                    refine WL_skip (dd := some 56) rfl rfl rfl ?_
                    refine WL_skip (dd := some 57) rfl rfl rfl ?_
                    refine WL_skip (dd := some 58) rfl rfl rfl ?_
                    refine WL_skip (dd := some 59) rfl rfl rfl ?_
                    refine WL_skip (dd := some 60) rfl rfl rfl ?_
                    refine WL_val (dd := some 61) rfl rfl rfl (r_pick_t rfl (v := .bool true) rfl) ?_
                    refine WL_nil ?_
                    refine hK49 _ _ ?_
                    clear hK49 K48
                    refine WC_cond_true rfl ?_
                    refine WC_seq (fun K53 hK54 => ?_)
                    refine WC_region ?_
                    refine WL_val (dd := some 2) rfl rfl rfl (r_assign (v := .bool false) rfl) ?_
                    refine WL_nil ?_
                    refine hK54 _ _ ?_
                    clear hK54 K53
                    refine WC_ret ?_
                    repeat (first | refine thenQ_ret ?_ | refine blockQ_ret ?_)
                    try clear hK47 K46
                    try clear hK37 K36
                    try clear hJ31 J30
                    try clear hK25 K24
                    refine ret_t (v := .bool false) rfl ?_
                    refine ⟨hB, ?_⟩
                    first | exact rightT_f (by omega) | exact rightT_k (k := k) (by omega) (ln_1 (by rw [← hck]; exact bool_t hs6_6)) | exact rightT_k (k := k) (by omega) (ln_2 hc2) | exact rightT_k (k := k) (by omega) (ln_3 (j := j) (by omega) (by have h1 : (T.ls.getD k ln0).os.getD j 0 < 0 := hs11_2; omega)) | exact rightT_k (k := k) (by omega) (ln_3 (j := j) (by omega) (by have h1 : (T.ls.getD k ln0).os.getD j 0 ≥ 3 := hc4; omega)) | exact rightT_t (by omega) (fun q hq' => hq q (by omega))
                  ·
                    try with_reducible replace hs6_6 := dec_f hs6_6
                    refine WL_val (dd := some 55) rfl rfl rfl (r_fieldAddr (b := _) (o := _) rfl tb_fo45_1) ?_
                    refine WL_val (dd := some 56) rfl rfl rfl (r_load1 (v := (vs.getD k lv0).o) rfl tb_sc43 (At.cell hm5_2 rfl)) ?_
                    refine WL_val (dd := some 57) rfl rfl rfl (r_lenS (v := (vs.getD k lv0).o) rfl (Below.slT hB hp5_1) tb_el43) ?_
                    refine WL_val (dd := some 58) rfl rfl rfl (r_fieldAddr (b := _) (o := _) rfl tb_fo24_2) ?_
                    refine WL_val (dd := some 59) rfl rfl rfl (r_load1 (v := .int .i64 _) rfl tb_sc3 (At.cell hm0_0 rfl)) ?_
                    refine WL_val (dd := some 60) rfl rfl rfl (r_neq rfl rfl) ?_
                    refine WL_val (dd := some 61) rfl rfl rfl (r_pick_f rfl (v := .bool _) rfl) ?_
                    refine WL_nil ?_
                    refine hK49 _ _ ?_
                    clear hK49 K48
                    refine WC_cond (b := _) rfl (fun hc2 => ?_) (fun hc2 => ?_)
                    ·
                      try with_reducible replace hc2 := dec_t hc2
                      refine WC_seq (fun K55 hK56 => ?_)
                      refine WC_region ?_
                      refine WL_val (dd := some 2) rfl rfl rfl (r_assign (v := .bool false) rfl) ?_
                      refine WL_nil ?_
                      refine hK56 _ _ ?_
                      clear hK56 K55
                      refine WC_ret ?_
                      repeat (first | refine thenQ_ret ?_ | refine blockQ_ret ?_)
                      try clear hK47 K46
                      try clear hK37 K36
                      try clear hJ31 J30
                      try clear hK25 K24
                      refine ret_t (v := .bool false) rfl ?_
                      refine ⟨hB, ?_⟩
                      first | exact rightT_f (by omega) | exact rightT_k (k := k) (by omega) (ln_1 (by rw [← hck]; exact bool_t hs6_6)) | exact rightT_k (k := k) (by omega) (ln_2 hc2) | exact rightT_k (k := k) (by omega) (ln_3 (j := j) (by omega) (by have h1 : (T.ls.getD k ln0).os.getD j 0 < 0 := hs11_2; omega)) | exact rightT_k (k := k) (by omega) (ln_3 (j := j) (by omega) (by have h1 : (T.ls.getD k ln0).os.getD j 0 ≥ 3 := hc4; omega)) | exact rightT_t (by omega) (fun q hq' => hq q (by omega))
                    ·
                      try with_reducible replace hc2 := dec_f hc2
                      refine WC_skip ?_
                      refine hK47 _ _ ?_
                      clear hK47 K46
                      refine WC_seq (fun K57 hK58 => ?_)
                      refine WC_region ?_
                      refine WL_val (dd := some 62) rfl rfl rfl (r_fieldAddr (b := _) (o := _) rfl tb_fo45_1) ?_
                      refine WL_val (dd := some 63) rfl rfl rfl (r_load1 (v := (vs.getD k lv0).o) rfl tb_sc43 (At.cell hm5_2 rfl)) ?_
                      refine WL_val (dd := some 64) rfl rfl rfl (r_lenS (v := (vs.getD k lv0).o) rfl (Below.slT hB hp5_1) tb_el43) ?_
                      refine WL_val (dd := some 65) rfl rfl rfl (r_move (v := .int .i64 0) rfl) ?_
                      refine WL_nil ?_
                      refine hK58 _ _ ?_
                      clear hK58 K57
                      refine WC_block ?_
                      refine WC_loop (σ := (Nat)) [2, 6, 65, 66, 67, 68, 69, 70, 71, 72, 73, 74, 75] (fun j => [(65, .int .i64 (j : Int))]) (fun j W => (Below w.heap.size w W) ∧ (At W b0_0 _ 24) ∧ (At W b5_2 _ 45) ∧ (j ≤ (T.ls.getD k ln0).os.length) ∧ (∀ q, q < j → 0 ≤ (T.ls.getD k ln0).os.getD q 0 ∧ (T.ls.getD k ln0).os.getD q 0 < 3) ∧ (True)) (fun j => (T.ls.getD k ln0).os.length - j) (0) ⟨rfl, trivial⟩ ⟨hB, hm0_0, hm5_2, (Nat.zero_le _), upTo_zero, trivial⟩ ?_
                      clear hB hm0_0 hm5_2
                      rintro j g60 W59 ⟨hB, hm0_0, hm5_2, hj, hqj, _⟩ J61 hJ62
                      refine WC_seq (fun K63 hK64 => ?_)
                      refine WC_region ?_
                      refine WL_val (dd := some 66) rfl rfl rfl (r_lss rfl rfl) ?_
                      refine WL_nil ?_
                      refine hK64 _ _ ?_
                      clear hK64 K63
                      refine WC_seq (fun K65 hK66 => ?_)
                      refine WC_cond (b := _) rfl (fun hc3 => ?_) (fun hc3 => ?_)
                      ·
                        try with_reducible replace hc3 := dec_t hc3
                        refine WC_skip ?_
                        refine hK66 _ _ ?_
                        clear hK66 K65
                        refine WC_seq (fun K67 hK68 => ?_)
                        refine WC_block ?_
                        refine WC_seq (fun K69 hK70 => ?_)
                        refine WC_region ?_
                        refine WL_val (dd := some 67) rfl rfl rfl (r_idxS (v := (vs.getD k lv0).o) rfl (Below.slT hB hp5_1) rfl tb_el43 (by omega) (by omega)) ?_
                        refine WL_val (dd := some 68) rfl rfl rfl (r_load1 (v := .int .i64 _) rfl tb_sc3 (SlT.cell (Below.slT hB hp5_1) encI_len 0 (by omega) (by omega) 0 rfl)) ?_
                        refine WL_val (dd := some 6) rfl rfl rfl (r_assign (v := .int .i64 _) rfl) ?_
                        refine WL_nil ?_
                        refine hK70 _ _ ?_
                        clear hK70 K69
                        refine WC_seq (fun K71 hK72 => ?_)
                        refine WC_region ?_
                        refine WL_val (dd := some 69) rfl rfl rfl (r_move (v := .int .i64 _) rfl) ?_
                        refine WL_val (dd := some 70) rfl rfl rfl (r_lss rfl rfl) ?_
                        refine WL_split (dd := some 71) rfl rfl rfl (r_move (v := .bool _) rfl) (fun hs11_2 => ?_) (fun hs11_2 => ?_)
                        ·
                          try with_reducible replace hs11_2 := dec_t hs11_2
                          refine WL_skip (dd := some 72) rfl rfl rfl ?_
                          refine WL_skip (dd := some 73) rfl rfl rfl ?_
                          refine WL_val (dd := some 74) rfl rfl rfl (r_pick_t rfl (v := .bool true) rfl) ?_
                          refine WL_nil ?_
                          refine hK72 _ _ ?_
                          clear hK72 K71
                          refine WC_cond_true rfl ?_
                          refine WC_seq (fun K73 hK74 => ?_)
                          refine WC_region ?_
                          refine WL_val (dd := some 2) rfl rfl rfl (r_assign (v := .bool false) rfl) ?_
                          refine WL_nil ?_
                          refine hK74 _ _ ?_
                          clear hK74 K73
                          refine WC_ret ?_
                          repeat (first | refine thenQ_ret ?_ | refine blockQ_ret ?_)
                          try clear hK68 K67
                          try clear hJ62 J61
                          try clear hK37 K36
                          try clear hJ31 J30
                          try clear hK25 K24
                          refine ret_t (v := .bool false) rfl ?_
                          refine ⟨hB, ?_⟩
                          first | exact rightT_f (by omega) | exact rightT_k (k := k) (by omega) (ln_1 (by rw [← hck]; exact bool_t hs6_6)) | exact rightT_k (k := k) (by omega) (ln_2 hc2) | exact rightT_k (k := k) (by omega) (ln_3 (j := j) (by omega) (by have h1 : (T.ls.getD k ln0).os.getD j 0 < 0 := hs11_2; omega)) | exact rightT_k (k := k) (by omega) (ln_3 (j := j) (by omega) (by have h1 : (T.ls.getD k ln0).os.getD j 0 ≥ 3 := hc4; omega)) | exact rightT_t (by omega) (fun q hq' => hq q (by omega))
                        ·
                          try with_reducible replace hs11_2 := dec_f hs11_2
                          refine WL_val (dd := some 72) rfl rfl rfl (r_move (v := .int .i64 _) rfl) ?_
                          refine WL_val (dd := some 73) rfl rfl rfl (r_geq rfl rfl) ?_
                          refine WL_val (dd := some 74) rfl rfl rfl (r_pick_f rfl (v := .bool _) rfl) ?_
                          refine WL_nil ?_
                          refine hK72 _ _ ?_
                          clear hK72 K71
                          refine WC_cond (b := _) rfl (fun hc4 => ?_) (fun hc4 => ?_)
                          ·
                            try with_reducible replace hc4 := dec_t hc4
                            refine WC_seq (fun K75 hK76 => ?_)
                            refine WC_region ?_
                            refine WL_val (dd := some 2) rfl rfl rfl (r_assign (v := .bool false) rfl) ?_
                            refine WL_nil ?_
                            refine hK76 _ _ ?_
                            clear hK76 K75
                            refine WC_ret ?_
                            repeat (first | refine thenQ_ret ?_ | refine blockQ_ret ?_)
                            try clear hK68 K67
                            try clear hJ62 J61
                            try clear hK37 K36
                            try clear hJ31 J30
                            try clear hK25 K24
                            refine ret_t (v := .bool false) rfl ?_
                            refine ⟨hB, ?_⟩
                            first | exact rightT_f (by omega) | exact rightT_k (k := k) (by omega) (ln_1 (by rw [← hck]; exact bool_t hs6_6)) | exact rightT_k (k := k) (by omega) (ln_2 hc2) | exact rightT_k (k := k) (by omega) (ln_3 (j := j) (by omega) (by have h1 : (T.ls.getD k ln0).os.getD j 0 < 0 := hs11_2; omega)) | exact rightT_k (k := k) (by omega) (ln_3 (j := j) (by omega) (by have h1 : (T.ls.getD k ln0).os.getD j 0 ≥ 3 := hc4; omega)) | exact rightT_t (by omega) (fun q hq' => hq q (by omega))
                          ·
                            try with_reducible replace hc4 := dec_f hc4
                            refine WC_skip ?_
                            refine hK68 _ _ ?_
                            clear hK68 K67
                            have hs1 : ¬ (T.ls.getD k ln0).os.getD j 0 < 0 := hs11_2
                            have hs2 : ¬ (T.ls.getD k ln0).os.getD j 0 ≥ 3 := hc4
                            refine WC_region ?_
                            refine WL_val (dd := some 75) rfl rfl rfl (r_addI rfl rfl (by omega) (by omega)) ?_
                            refine WL_val (dd := some 65) rfl rfl rfl (r_move (v := .int .i64 _) rfl) ?_
                            refine WL_nil ?_
                            refine hJ62 _ _ (j + 1) ?_ ?_ ?_ ?_
                            · repeat (first | exact agree.mask _ _ _ | refine agree.updo ?_ rfl _ | refine agree.updL ?_ _ rfl | refine agree.maskS rfl ?_)
                            · exact ⟨rfl, trivial⟩
                            · exact ⟨hB, hm0_0, hm5_2, (by omega), (upTo_succ hqj (by omega)), trivial⟩
                            · show (T.ls.getD k ln0).os.length - (j + 1) < (T.ls.getD k ln0).os.length - j; omega
                      ·
                        try with_reducible replace hc3 := dec_f hc3
                        refine WC_exit ?_
                        refine hK37 _ _ ?_
                        clear hK66 K65
                        clear hJ62 J61
                        clear hK37 K36
                        have hqj2 : ∀ q, q < (T.ls.getD k ln0).os.length → 0 ≤ (T.ls.getD k ln0).os.getD q 0 ∧ (T.ls.getD k ln0).os.getD q 0 < 3 := fun q hq' => hqj q (by omega)
                        refine WC_region ?_
                        refine WL_val (dd := some 76) rfl rfl rfl (r_addI rfl rfl (by omega) (by omega)) ?_
                        refine WL_val (dd := some 44) rfl rfl rfl (r_move (v := .int .i64 _) rfl) ?_
                        refine WL_nil ?_
                        refine hJ31 _ _ (k + 1) ?_ ?_ ?_ ?_
                        · repeat (first | exact agree.mask _ _ _ | refine agree.updo ?_ rfl _ | refine agree.updL ?_ _ rfl | refine agree.maskS rfl ?_)
                        · exact ⟨rfl, trivial⟩
                        · exact ⟨hB, hm0_0, (by omega), (upTo_succ hq (ln_4 (by rw [← hck]; exact bool_f hs6_6) (Decidable.of_not_not hc2) hqj2)), trivial⟩
                        · first | omega | (dsimp only; omega)
                ·
                  try with_reducible replace hc1 := dec_f hc1
                  refine WC_exit ?_
                  refine hK25 _ _ ?_
                  clear hK35 K34
                  clear hJ31 J30
                  clear hK25 K24
                  refine WC_seq (fun K77 hK78 => ?_)
                  refine WC_region ?_
                  refine WL_val (dd := some 2) rfl rfl rfl (r_assign (v := .bool true) rfl) ?_
                  refine WL_nil ?_
                  refine hK78 _ _ ?_
                  clear hK78 K77
                  refine WC_ret ?_
                  repeat (first | refine thenQ_ret ?_ | refine blockQ_ret ?_)
                  refine ret_t (v := .bool true) rfl ?_
                  refine ⟨hB, ?_⟩
                  first | exact rightT_f (by omega) | exact rightT_k (k := k) (by omega) (ln_1 (by rw [← hck]; exact bool_t hs6_6)) | exact rightT_k (k := k) (by omega) (ln_2 hc2) | exact rightT_k (k := k) (by omega) (ln_3 (j := j) (by omega) (by have h1 : (T.ls.getD k ln0).os.getD j 0 < 0 := hs11_2; omega)) | exact rightT_k (k := k) (by omega) (ln_3 (j := j) (by omega) (by have h1 : (T.ls.getD k ln0).os.getD j 0 ≥ 3 := hc4; omega)) | exact rightT_t (by omega) (fun q hq' => hq q (by omega))

theorem C_drawknifelaw03_Great (T : Tb) (lv : Value) (vs : List LnV) (w : World) (hlv : SlT encLn 3 w lv vs) (hls : LsAt w vs T.ls) (hmb : ∀ i, i < T.ls.length → (T.ls.getD i ln0).c.m < 256 ∧ (T.ls.getD i ln0).c.v < 256) (hvl : vs.length ≤ 9223372036854775807) :
    Fn Tryd.prog 7 #[.agg #[.int .i64 T.kind, .int .i64 T.ni, .int .i64 T.no, lv]] w fun v w' => v = .bool (greatT T) := by
  refine Fn_intro (n := 23) Tryd.func7 rfl rfl (Nat.le_of_ble_eq_true rfl) ?_
  have hB : Below w.heap.size w w := Below.refl _ _
  have hle := hls.len
  refine WC_seq (fun K1 hK2 => ?_)
  refine WC_region ?_
  refine WL_step (dd := some 1) rfl rfl rfl (Y_box (c := #[_, _, _, _]) rfl rfl (fun b0_0 W3 hb4 hE5 hm0_0 => ?_))
  have lo_b0_0 : w.heap.size ≤ b0_0 := hb4 ▸ (Below.size hB)
  clear hb4
  replace hB := below_ext hB hE5 (Nat.le_refl _)
  clear hE5
  refine WL_val (dd := some 2) rfl rfl rfl (r_assign (v := .bool false) rfl) ?_
  refine WL_nil ?_
  refine hK2 _ _ ?_
  clear hK2 K1
  refine WC_seq (fun K6 hK7 => ?_)
  refine WC_seq (fun K8 hK9 => ?_)
  refine WC_region ?_
  refine WL_val (dd := some 3) rfl rfl rfl (r_assign (v := .int .i64 0) rfl) ?_
  refine WL_nil ?_
  refine hK9 _ _ ?_
  clear hK9 K8
  refine WC_block ?_
  refine WC_loop (σ := (Nat)) [2, 3, 4, 5, 6, 7, 8, 9, 10, 11, 12, 13, 14, 15, 16, 17, 18] (fun k => [(3, .int .i64 (k : Int))]) (fun k W => (Below w.heap.size w W) ∧ (At W b0_0 _ 24) ∧ (k ≤ T.ls.length) ∧ (∀ q, q < k → ¬ ((T.ls.getD q ln0).os.length : Int) > 20) ∧ (True)) (fun k => T.ls.length - k) (0) ⟨rfl, trivial⟩ ⟨hB, hm0_0, (Nat.zero_le _), upTo_zero, trivial⟩ ?_
  clear hB hm0_0
  rintro k g11 W10 ⟨hB, hm0_0, hk, hq, _⟩ J12 hJ13
  refine WC_seq (fun K14 hK15 => ?_)
  refine WC_seq (fun K16 hK17 => ?_)
  refine WC_region ?_
  refine WL_val (dd := some 4) rfl rfl rfl (r_move (v := .int .i64 _) rfl) ?_
  refine WL_val (dd := some 5) rfl rfl rfl (r_fieldAddr (b := _) (o := _) rfl tb_fo24_3) ?_
  refine WL_val (dd := some 6) rfl rfl rfl (r_load1 (v := lv) rfl tb_sc22 (At.cell hm0_0 rfl)) ?_
  refine WL_val (dd := some 7) rfl rfl rfl (r_lenS (v := lv) rfl (Below.slT hB hlv) tb_el22) ?_
  refine WL_val (dd := some 8) rfl rfl rfl (r_lss rfl rfl) ?_
  refine WL_nil ?_
  refine hK17 _ _ ?_
  clear hK17 K16
  refine WC_cond (b := _) rfl (fun hc0 => ?_) (fun hc0 => ?_)
  ·
    try with_reducible replace hc0 := dec_t hc0
    refine WC_skip ?_
    refine hK15 _ _ ?_
    clear hK15 K14
    refine WC_seq (fun K18 hK19 => ?_)
    refine WC_block ?_
    refine WC_seq (fun K20 hK21 => ?_)
    refine WC_region ?_
    refine WL_val (dd := some 11) rfl rfl rfl (r_fieldAddr (b := _) (o := _) rfl tb_fo24_3) ?_
    refine WL_val (dd := some 12) rfl rfl rfl (r_load1 (v := lv) rfl tb_sc22 (At.cell hm0_0 rfl)) ?_
    refine WL_val (dd := some 13) rfl rfl rfl (r_move (v := .int .i64 _) rfl) ?_
    refine WL_val (dd := some 14) rfl rfl rfl (r_idxS (v := lv) rfl (Below.slT hB hlv) rfl tb_el22 (by omega) (by omega)) ?_
    refine WL_val (dd := some 15) rfl rfl rfl (r_fieldAddr (b := _) (o := _) rfl tb_fo45_1) ?_
    refine WL_val (dd := some 16) rfl rfl rfl (r_load1 (v := (vs.getD k lv0).o) rfl tb_sc43 (SlT.cell (Below.slT hB hlv) encLn_len lv0 (by omega) (by omega) 2 rfl)) ?_
    have hp4_5 : SlT encI 1 w ((vs.getD k lv0).o) ((T.ls.getD k ln0).os) := hls.o k (by omega)
    refine WL_val (dd := some 17) rfl rfl rfl (r_lenS (v := (vs.getD k lv0).o) rfl (Below.slT hB hp4_5) tb_el43) ?_
    refine WL_val (dd := some 18) rfl rfl rfl (r_gtr rfl rfl) ?_
    refine WL_nil ?_
    refine hK21 _ _ ?_
    clear hK21 K20
    refine WC_cond (b := _) rfl (fun hc1 => ?_) (fun hc1 => ?_)
    ·
      try with_reducible replace hc1 := dec_t hc1
      refine WC_seq (fun K22 hK23 => ?_)
      refine WC_region ?_
      refine WL_val (dd := some 2) rfl rfl rfl (r_assign (v := .bool true) rfl) ?_
      refine WL_nil ?_
      refine hK23 _ _ ?_
      clear hK23 K22
      refine WC_ret ?_
      repeat (first | refine thenQ_ret ?_ | refine blockQ_ret ?_)
      try clear hK19 K18
      try clear hJ13 J12
      try clear hK7 K6
      refine ret_t (v := .bool true) rfl ?_
      refine ⟨hB, ?_⟩
      first | exact greatT_y (k := k) (by omega) hc1 | exact greatT_n hle (fun q hq' => hq q (by omega))
    ·
      try with_reducible replace hc1 := dec_f hc1
      refine WC_skip ?_
      refine hK19 _ _ ?_
      clear hK19 K18
      refine WC_region ?_
      refine WL_val (dd := some 9) rfl rfl rfl (r_move (v := .int .i64 _) rfl) ?_
      refine WL_val (dd := some 10) rfl rfl rfl (r_addI rfl rfl (by omega) (by omega)) ?_
      refine WL_val (dd := some 3) rfl rfl rfl (r_assign (v := .int .i64 _) rfl) ?_
      refine WL_nil ?_
      refine hJ13 _ _ (k + 1) ?_ ?_ ?_ ?_
      · repeat (first | exact agree.mask _ _ _ | refine agree.updo ?_ rfl _ | refine agree.updL ?_ _ rfl | refine agree.maskS rfl ?_)
      · exact ⟨rfl, trivial⟩
      · exact ⟨hB, hm0_0, (by omega), (upTo_succ hq hc1), trivial⟩
      · first | omega | (dsimp only; omega)
  ·
    try with_reducible replace hc0 := dec_f hc0
    refine WC_exit ?_
    refine hK7 _ _ ?_
    clear hK15 K14
    clear hJ13 J12
    clear hK7 K6
    refine WC_seq (fun K24 hK25 => ?_)
    refine WC_region ?_
    refine WL_val (dd := some 19) rfl rfl rfl (r_fieldAddr (b := _) (o := _) rfl tb_fo24_3) ?_
    refine WL_val (dd := some 20) rfl rfl rfl (r_load1 (v := lv) rfl tb_sc22 (At.cell hm0_0 rfl)) ?_
    refine WL_val (dd := some 21) rfl rfl rfl (r_lenS (v := lv) rfl (Below.slT hB hlv) tb_el22) ?_
    refine WL_val (dd := some 22) rfl rfl rfl (r_gtr rfl rfl) ?_
    refine WL_val (dd := some 2) rfl rfl rfl (r_assign (v := .bool _) rfl) ?_
    refine WL_nil ?_
    refine hK25 _ _ ?_
    clear hK25 K24
    refine WC_ret ?_
    repeat (first | refine thenQ_ret ?_ | refine blockQ_ret ?_)
    refine ret_t (v := .bool _) rfl ?_
    refine ⟨hB, ?_⟩
    first | exact greatT_y (k := k) (by omega) hc1 | exact greatT_n hle (fun q hq' => hq q (by omega))

theorem C_drawkniferef03_Right (T : Tb) (lv : Value) (vs : List LnV) (w : World) (hlv : SlT encLn 3 w lv vs) (hls : LsAt w vs T.ls) (hmb : ∀ i, i < T.ls.length → (T.ls.getD i ln0).c.m < 256 ∧ (T.ls.getD i ln0).c.v < 256) :
    Fn Tryd.prog 10 #[.agg #[.int .i64 T.kind, .int .i64 T.ni, .int .i64 T.no, lv]] w fun v w' => v = .bool (rightT T) := by
  refine Fn_intro (n := 95) Tryd.func10 rfl rfl (Nat.le_of_ble_eq_true rfl) ?_
  have hB : Below w.heap.size w w := Below.refl _ _
  have hle := hls.len
  refine WC_seq (fun K1 hK2 => ?_)
  refine WC_region ?_
  refine WL_step (dd := some 1) rfl rfl rfl (Y_box (c := #[_, _, _, _]) rfl rfl (fun b0_0 W3 hb4 hE5 hm0_0 => ?_))
  have lo_b0_0 : w.heap.size ≤ b0_0 := hb4 ▸ (Below.size hB)
  clear hb4
  replace hB := below_ext hB hE5 (Nat.le_refl _)
  clear hE5
  refine WL_val (dd := some 2) rfl rfl rfl (r_assign (v := .bool false) rfl) ?_
  refine WL_nil ?_
  refine hK2 _ _ ?_
  clear hK2 K1
  refine WC_seq (fun K6 hK7 => ?_)
  refine WC_seq (fun K8 hK9 => ?_)
  refine WC_region ?_
  refine WL_val (dd := some 6) rfl rfl rfl (r_fieldAddr (b := _) (o := _) rfl tb_fo24_0) ?_
  refine WL_val (dd := some 7) rfl rfl rfl (r_load1 (v := .int .i64 _) rfl tb_sc3 (At.cell hm0_0 rfl)) ?_
  refine WL_val (dd := some 8) rfl rfl rfl (r_lss rfl rfl) ?_
  refine WL_split (dd := some 9) rfl rfl rfl (r_move (v := .bool _) rfl) (fun hs1_3 => ?_) (fun hs1_3 => ?_)
  ·
    try with_reducible replace hs1_3 := dec_t hs1_3
    refine WL_skip (dd := some 10) rfl rfl rfl ?_
    refine WL_skip (dd := some 11) rfl rfl rfl ?_
    refine WL_skip (dd := some 12) rfl rfl rfl ?_
    refine WL_val (dd := some 13) rfl rfl rfl (r_pick_t rfl (v := .bool true) rfl) ?_
    refine WL_val (dd := some 14) rfl rfl rfl (r_move (v := .bool true) rfl) ?_
    refine WL_skip (dd := some 15) rfl rfl rfl ?_
    refine WL_skip (dd := some 16) rfl rfl rfl ?_
    refine WL_skip (dd := some 17) rfl rfl rfl ?_
    refine WL_val (dd := some 18) rfl rfl rfl (r_pick_t rfl (v := .bool true) rfl) ?_
    refine WL_val (dd := some 19) rfl rfl rfl (r_move (v := .bool true) rfl) ?_
    refine WL_skip (dd := some 20) rfl rfl rfl ?_
    refine WL_skip (dd := some 21) rfl rfl rfl ?_
    refine WL_skip (dd := some 22) rfl rfl rfl ?_
    refine WL_val (dd := some 23) rfl rfl rfl (r_pick_t rfl (v := .bool true) rfl) ?_
    refine WL_val (dd := some 24) rfl rfl rfl (r_move (v := .bool true) rfl) ?_
    refine WL_skip (dd := some 25) rfl rfl rfl ?_
    refine WL_skip (dd := some 26) rfl rfl rfl ?_
    refine WL_skip (dd := some 27) rfl rfl rfl ?_
    refine WL_val (dd := some 28) rfl rfl rfl (r_pick_t rfl (v := .bool true) rfl) ?_
    refine WL_val (dd := some 29) rfl rfl rfl (r_move (v := .bool true) rfl) ?_
    refine WL_skip (dd := some 30) rfl rfl rfl ?_
    refine WL_skip (dd := some 31) rfl rfl rfl ?_
    refine WL_skip (dd := some 32) rfl rfl rfl ?_
    refine WL_val (dd := some 33) rfl rfl rfl (r_pick_t rfl (v := .bool true) rfl) ?_
    refine WL_val (dd := some 34) rfl rfl rfl (r_move (v := .bool true) rfl) ?_
    refine WL_skip (dd := some 35) rfl rfl rfl ?_
    refine WL_skip (dd := some 36) rfl rfl rfl ?_
    refine WL_skip (dd := some 37) rfl rfl rfl ?_
    refine WL_skip (dd := some 38) rfl rfl rfl ?_
    refine WL_val (dd := some 39) rfl rfl rfl (r_pick_t rfl (v := .bool true) rfl) ?_
    refine WL_nil ?_
    refine hK9 _ _ ?_
    clear hK9 K8
    refine WC_cond_true rfl ?_
    refine WC_seq (fun K10 hK11 => ?_)
    refine WC_region ?_
    refine WL_val (dd := some 2) rfl rfl rfl (r_assign (v := .bool false) rfl) ?_
    refine WL_nil ?_
    refine hK11 _ _ ?_
    clear hK11 K10
    refine WC_ret ?_
    repeat (first | refine thenQ_ret ?_ | refine blockQ_ret ?_)
    try clear hK7 K6
    refine ret_t (v := .bool false) rfl ?_
    refine ⟨hB, ?_⟩
    first | exact rightT_f (by omega) | exact rightT_k (k := k) (by omega) (ln_1 (by rw [← hck]; exact bool_t hs7_6)) | exact rightT_k (k := k) (by omega) (ln_2 hc2) | exact rightT_k (k := k) (by omega) (ln_3 (j := j) (by omega) (by have h1 : ¬ (T.ls.getD k ln0).os.getD j 0 = 0 := hs12_6; have h2 : ¬ (T.ls.getD k ln0).os.getD j 0 = 1 := hs12_14; have h3 : ¬ (T.ls.getD k ln0).os.getD j 0 = 2 := hc4; omega)) | exact rightT_t (by omega) (fun q hq' => hq q (by omega))
  ·
    try with_reducible replace hs1_3 := dec_f hs1_3
    refine WL_val (dd := some 10) rfl rfl rfl (r_fieldAddr (b := _) (o := _) rfl tb_fo24_0) ?_
    refine WL_val (dd := some 11) rfl rfl rfl (r_load1 (v := .int .i64 _) rfl tb_sc3 (At.cell hm0_0 rfl)) ?_
    refine WL_val (dd := some 12) rfl rfl rfl (r_gtr rfl rfl) ?_
    refine WL_val (dd := some 13) rfl rfl rfl (r_pick_f rfl (v := .bool _) rfl) ?_
    refine WL_split (dd := some 14) rfl rfl rfl (r_move (v := .bool _) rfl) (fun hs1_8 => ?_) (fun hs1_8 => ?_)
    ·
      try with_reducible replace hs1_8 := dec_t hs1_8
      refine WL_skip (dd := some 15) rfl rfl rfl ?_
      refine WL_skip (dd := some 16) rfl rfl rfl ?_
      refine WL_skip (dd := some 17) rfl rfl rfl ?_
      refine WL_val (dd := some 18) rfl rfl rfl (r_pick_t rfl (v := .bool true) rfl) ?_
      refine WL_val (dd := some 19) rfl rfl rfl (r_move (v := .bool true) rfl) ?_
      refine WL_skip (dd := some 20) rfl rfl rfl ?_
      refine WL_skip (dd := some 21) rfl rfl rfl ?_
      refine WL_skip (dd := some 22) rfl rfl rfl ?_
      refine WL_val (dd := some 23) rfl rfl rfl (r_pick_t rfl (v := .bool true) rfl) ?_
      refine WL_val (dd := some 24) rfl rfl rfl (r_move (v := .bool true) rfl) ?_
      refine WL_skip (dd := some 25) rfl rfl rfl ?_
      refine WL_skip (dd := some 26) rfl rfl rfl ?_
      refine WL_skip (dd := some 27) rfl rfl rfl ?_
      refine WL_val (dd := some 28) rfl rfl rfl (r_pick_t rfl (v := .bool true) rfl) ?_
      refine WL_val (dd := some 29) rfl rfl rfl (r_move (v := .bool true) rfl) ?_
      refine WL_skip (dd := some 30) rfl rfl rfl ?_
      refine WL_skip (dd := some 31) rfl rfl rfl ?_
      refine WL_skip (dd := some 32) rfl rfl rfl ?_
      refine WL_val (dd := some 33) rfl rfl rfl (r_pick_t rfl (v := .bool true) rfl) ?_
      refine WL_val (dd := some 34) rfl rfl rfl (r_move (v := .bool true) rfl) ?_
      refine WL_skip (dd := some 35) rfl rfl rfl ?_
      refine WL_skip (dd := some 36) rfl rfl rfl ?_
      refine WL_skip (dd := some 37) rfl rfl rfl ?_
      refine WL_skip (dd := some 38) rfl rfl rfl ?_
      refine WL_val (dd := some 39) rfl rfl rfl (r_pick_t rfl (v := .bool true) rfl) ?_
      refine WL_nil ?_
      refine hK9 _ _ ?_
      clear hK9 K8
      refine WC_cond_true rfl ?_
      refine WC_seq (fun K12 hK13 => ?_)
      refine WC_region ?_
      refine WL_val (dd := some 2) rfl rfl rfl (r_assign (v := .bool false) rfl) ?_
      refine WL_nil ?_
      refine hK13 _ _ ?_
      clear hK13 K12
      refine WC_ret ?_
      repeat (first | refine thenQ_ret ?_ | refine blockQ_ret ?_)
      try clear hK7 K6
      refine ret_t (v := .bool false) rfl ?_
      refine ⟨hB, ?_⟩
      first | exact rightT_f (by omega) | exact rightT_k (k := k) (by omega) (ln_1 (by rw [← hck]; exact bool_t hs7_6)) | exact rightT_k (k := k) (by omega) (ln_2 hc2) | exact rightT_k (k := k) (by omega) (ln_3 (j := j) (by omega) (by have h1 : ¬ (T.ls.getD k ln0).os.getD j 0 = 0 := hs12_6; have h2 : ¬ (T.ls.getD k ln0).os.getD j 0 = 1 := hs12_14; have h3 : ¬ (T.ls.getD k ln0).os.getD j 0 = 2 := hc4; omega)) | exact rightT_t (by omega) (fun q hq' => hq q (by omega))
    ·
      try with_reducible replace hs1_8 := dec_f hs1_8
      refine WL_val (dd := some 15) rfl rfl rfl (r_fieldAddr (b := _) (o := _) rfl tb_fo24_1) ?_
      refine WL_val (dd := some 16) rfl rfl rfl (r_load1 (v := .int .i64 _) rfl tb_sc3 (At.cell hm0_0 rfl)) ?_
      refine WL_val (dd := some 17) rfl rfl rfl (r_lss rfl rfl) ?_
      refine WL_val (dd := some 18) rfl rfl rfl (r_pick_f rfl (v := .bool _) rfl) ?_
      refine WL_split (dd := some 19) rfl rfl rfl (r_move (v := .bool _) rfl) (fun hs1_13 => ?_) (fun hs1_13 => ?_)
      ·
        try with_reducible replace hs1_13 := dec_t hs1_13
        refine WL_skip (dd := some 20) rfl rfl rfl ?_
        refine WL_skip (dd := some 21) rfl rfl rfl ?_
        refine WL_skip (dd := some 22) rfl rfl rfl ?_
        refine WL_val (dd := some 23) rfl rfl rfl (r_pick_t rfl (v := .bool true) rfl) ?_
        refine WL_val (dd := some 24) rfl rfl rfl (r_move (v := .bool true) rfl) ?_
        refine WL_skip (dd := some 25) rfl rfl rfl ?_
        refine WL_skip (dd := some 26) rfl rfl rfl ?_
        refine WL_skip (dd := some 27) rfl rfl rfl ?_
        refine WL_val (dd := some 28) rfl rfl rfl (r_pick_t rfl (v := .bool true) rfl) ?_
        refine WL_val (dd := some 29) rfl rfl rfl (r_move (v := .bool true) rfl) ?_
        refine WL_skip (dd := some 30) rfl rfl rfl ?_
        refine WL_skip (dd := some 31) rfl rfl rfl ?_
        refine WL_skip (dd := some 32) rfl rfl rfl ?_
        refine WL_val (dd := some 33) rfl rfl rfl (r_pick_t rfl (v := .bool true) rfl) ?_
        refine WL_val (dd := some 34) rfl rfl rfl (r_move (v := .bool true) rfl) ?_
        refine WL_skip (dd := some 35) rfl rfl rfl ?_
        refine WL_skip (dd := some 36) rfl rfl rfl ?_
        refine WL_skip (dd := some 37) rfl rfl rfl ?_
        refine WL_skip (dd := some 38) rfl rfl rfl ?_
        refine WL_val (dd := some 39) rfl rfl rfl (r_pick_t rfl (v := .bool true) rfl) ?_
        refine WL_nil ?_
        refine hK9 _ _ ?_
        clear hK9 K8
        refine WC_cond_true rfl ?_
        refine WC_seq (fun K14 hK15 => ?_)
        refine WC_region ?_
        refine WL_val (dd := some 2) rfl rfl rfl (r_assign (v := .bool false) rfl) ?_
        refine WL_nil ?_
        refine hK15 _ _ ?_
        clear hK15 K14
        refine WC_ret ?_
        repeat (first | refine thenQ_ret ?_ | refine blockQ_ret ?_)
        try clear hK7 K6
        refine ret_t (v := .bool false) rfl ?_
        refine ⟨hB, ?_⟩
        first | exact rightT_f (by omega) | exact rightT_k (k := k) (by omega) (ln_1 (by rw [← hck]; exact bool_t hs7_6)) | exact rightT_k (k := k) (by omega) (ln_2 hc2) | exact rightT_k (k := k) (by omega) (ln_3 (j := j) (by omega) (by have h1 : ¬ (T.ls.getD k ln0).os.getD j 0 = 0 := hs12_6; have h2 : ¬ (T.ls.getD k ln0).os.getD j 0 = 1 := hs12_14; have h3 : ¬ (T.ls.getD k ln0).os.getD j 0 = 2 := hc4; omega)) | exact rightT_t (by omega) (fun q hq' => hq q (by omega))
      ·
        try with_reducible replace hs1_13 := dec_f hs1_13
        refine WL_val (dd := some 20) rfl rfl rfl (r_fieldAddr (b := _) (o := _) rfl tb_fo24_1) ?_
        refine WL_val (dd := some 21) rfl rfl rfl (r_load1 (v := .int .i64 _) rfl tb_sc3 (At.cell hm0_0 rfl)) ?_
        refine WL_val (dd := some 22) rfl rfl rfl (r_gtr rfl rfl) ?_
        refine WL_val (dd := some 23) rfl rfl rfl (r_pick_f rfl (v := .bool _) rfl) ?_
        refine WL_split (dd := some 24) rfl rfl rfl (r_move (v := .bool _) rfl) (fun hs1_18 => ?_) (fun hs1_18 => ?_)
        ·
          try with_reducible replace hs1_18 := dec_t hs1_18
          refine WL_skip (dd := some 25) rfl rfl rfl ?_
          refine WL_skip (dd := some 26) rfl rfl rfl ?_
          refine WL_skip (dd := some 27) rfl rfl rfl ?_
          refine WL_val (dd := some 28) rfl rfl rfl (r_pick_t rfl (v := .bool true) rfl) ?_
          refine WL_val (dd := some 29) rfl rfl rfl (r_move (v := .bool true) rfl) ?_
          refine WL_skip (dd := some 30) rfl rfl rfl ?_
          refine WL_skip (dd := some 31) rfl rfl rfl ?_
          refine WL_skip (dd := some 32) rfl rfl rfl ?_
          refine WL_val (dd := some 33) rfl rfl rfl (r_pick_t rfl (v := .bool true) rfl) ?_
          refine WL_val (dd := some 34) rfl rfl rfl (r_move (v := .bool true) rfl) ?_
          refine WL_skip (dd := some 35) rfl rfl rfl ?_
          refine WL_skip (dd := some 36) rfl rfl rfl ?_
          refine WL_skip (dd := some 37) rfl rfl rfl ?_
          refine WL_skip (dd := some 38) rfl rfl rfl ?_
          refine WL_val (dd := some 39) rfl rfl rfl (r_pick_t rfl (v := .bool true) rfl) ?_
          refine WL_nil ?_
          refine hK9 _ _ ?_
          clear hK9 K8
          refine WC_cond_true rfl ?_
          refine WC_seq (fun K16 hK17 => ?_)
          refine WC_region ?_
          refine WL_val (dd := some 2) rfl rfl rfl (r_assign (v := .bool false) rfl) ?_
          refine WL_nil ?_
          refine hK17 _ _ ?_
          clear hK17 K16
          refine WC_ret ?_
          repeat (first | refine thenQ_ret ?_ | refine blockQ_ret ?_)
          try clear hK7 K6
          refine ret_t (v := .bool false) rfl ?_
          refine ⟨hB, ?_⟩
          first | exact rightT_f (by omega) | exact rightT_k (k := k) (by omega) (ln_1 (by rw [← hck]; exact bool_t hs7_6)) | exact rightT_k (k := k) (by omega) (ln_2 hc2) | exact rightT_k (k := k) (by omega) (ln_3 (j := j) (by omega) (by have h1 : ¬ (T.ls.getD k ln0).os.getD j 0 = 0 := hs12_6; have h2 : ¬ (T.ls.getD k ln0).os.getD j 0 = 1 := hs12_14; have h3 : ¬ (T.ls.getD k ln0).os.getD j 0 = 2 := hc4; omega)) | exact rightT_t (by omega) (fun q hq' => hq q (by omega))
        ·
          try with_reducible replace hs1_18 := dec_f hs1_18
          refine WL_val (dd := some 25) rfl rfl rfl (r_fieldAddr (b := _) (o := _) rfl tb_fo24_2) ?_
          refine WL_val (dd := some 26) rfl rfl rfl (r_load1 (v := .int .i64 _) rfl tb_sc3 (At.cell hm0_0 rfl)) ?_
          refine WL_val (dd := some 27) rfl rfl rfl (r_lss rfl rfl) ?_
          refine WL_val (dd := some 28) rfl rfl rfl (r_pick_f rfl (v := .bool _) rfl) ?_
          refine WL_split (dd := some 29) rfl rfl rfl (r_move (v := .bool _) rfl) (fun hs1_23 => ?_) (fun hs1_23 => ?_)
          ·
            try with_reducible replace hs1_23 := dec_t hs1_23
            refine WL_skip (dd := some 30) rfl rfl rfl ?_
            refine WL_skip (dd := some 31) rfl rfl rfl ?_
            refine WL_skip (dd := some 32) rfl rfl rfl ?_
            refine WL_val (dd := some 33) rfl rfl rfl (r_pick_t rfl (v := .bool true) rfl) ?_
            refine WL_val (dd := some 34) rfl rfl rfl (r_move (v := .bool true) rfl) ?_
            refine WL_skip (dd := some 35) rfl rfl rfl ?_
            refine WL_skip (dd := some 36) rfl rfl rfl ?_
            refine WL_skip (dd := some 37) rfl rfl rfl ?_
            refine WL_skip (dd := some 38) rfl rfl rfl ?_
            refine WL_val (dd := some 39) rfl rfl rfl (r_pick_t rfl (v := .bool true) rfl) ?_
            refine WL_nil ?_
            refine hK9 _ _ ?_
            clear hK9 K8
            refine WC_cond_true rfl ?_
            refine WC_seq (fun K18 hK19 => ?_)
            refine WC_region ?_
            refine WL_val (dd := some 2) rfl rfl rfl (r_assign (v := .bool false) rfl) ?_
            refine WL_nil ?_
            refine hK19 _ _ ?_
            clear hK19 K18
            refine WC_ret ?_
            repeat (first | refine thenQ_ret ?_ | refine blockQ_ret ?_)
            try clear hK7 K6
            refine ret_t (v := .bool false) rfl ?_
            refine ⟨hB, ?_⟩
            first | exact rightT_f (by omega) | exact rightT_k (k := k) (by omega) (ln_1 (by rw [← hck]; exact bool_t hs7_6)) | exact rightT_k (k := k) (by omega) (ln_2 hc2) | exact rightT_k (k := k) (by omega) (ln_3 (j := j) (by omega) (by have h1 : ¬ (T.ls.getD k ln0).os.getD j 0 = 0 := hs12_6; have h2 : ¬ (T.ls.getD k ln0).os.getD j 0 = 1 := hs12_14; have h3 : ¬ (T.ls.getD k ln0).os.getD j 0 = 2 := hc4; omega)) | exact rightT_t (by omega) (fun q hq' => hq q (by omega))
          ·
            try with_reducible replace hs1_23 := dec_f hs1_23
            refine WL_val (dd := some 30) rfl rfl rfl (r_fieldAddr (b := _) (o := _) rfl tb_fo24_2) ?_
            refine WL_val (dd := some 31) rfl rfl rfl (r_load1 (v := .int .i64 _) rfl tb_sc3 (At.cell hm0_0 rfl)) ?_
            refine WL_val (dd := some 32) rfl rfl rfl (r_gtr rfl rfl) ?_
            refine WL_val (dd := some 33) rfl rfl rfl (r_pick_f rfl (v := .bool _) rfl) ?_
            refine WL_split (dd := some 34) rfl rfl rfl (r_move (v := .bool _) rfl) (fun hs1_28 => ?_) (fun hs1_28 => ?_)
            ·
              try with_reducible replace hs1_28 := dec_t hs1_28
              refine WL_skip (dd := some 35) rfl rfl rfl ?_
              refine WL_skip (dd := some 36) rfl rfl rfl ?_
              refine WL_skip (dd := some 37) rfl rfl rfl ?_
              refine WL_skip (dd := some 38) rfl rfl rfl ?_
              refine WL_val (dd := some 39) rfl rfl rfl (r_pick_t rfl (v := .bool true) rfl) ?_
              refine WL_nil ?_
              refine hK9 _ _ ?_
              clear hK9 K8
              refine WC_cond_true rfl ?_
              refine WC_seq (fun K20 hK21 => ?_)
              refine WC_region ?_
              refine WL_val (dd := some 2) rfl rfl rfl (r_assign (v := .bool false) rfl) ?_
              refine WL_nil ?_
              refine hK21 _ _ ?_
              clear hK21 K20
              refine WC_ret ?_
              repeat (first | refine thenQ_ret ?_ | refine blockQ_ret ?_)
              try clear hK7 K6
              refine ret_t (v := .bool false) rfl ?_
              refine ⟨hB, ?_⟩
              first | exact rightT_f (by omega) | exact rightT_k (k := k) (by omega) (ln_1 (by rw [← hck]; exact bool_t hs7_6)) | exact rightT_k (k := k) (by omega) (ln_2 hc2) | exact rightT_k (k := k) (by omega) (ln_3 (j := j) (by omega) (by have h1 : ¬ (T.ls.getD k ln0).os.getD j 0 = 0 := hs12_6; have h2 : ¬ (T.ls.getD k ln0).os.getD j 0 = 1 := hs12_14; have h3 : ¬ (T.ls.getD k ln0).os.getD j 0 = 2 := hc4; omega)) | exact rightT_t (by omega) (fun q hq' => hq q (by omega))
            ·
              try with_reducible replace hs1_28 := dec_f hs1_28
              refine WL_val (dd := some 35) rfl rfl rfl (r_fieldAddr (b := _) (o := _) rfl tb_fo24_3) ?_
              refine WL_val (dd := some 36) rfl rfl rfl (r_load1 (v := lv) rfl tb_sc22 (At.cell hm0_0 rfl)) ?_
              refine WL_val (dd := some 37) rfl rfl rfl (r_lenS (v := lv) rfl (Below.slT hB hlv) tb_el22) ?_
              refine WL_val (dd := some 38) rfl rfl rfl (r_gtr rfl rfl) ?_
              refine WL_val (dd := some 39) rfl rfl rfl (r_pick_f rfl (v := .bool _) rfl) ?_
              refine WL_nil ?_
              refine hK9 _ _ ?_
              clear hK9 K8
              refine WC_cond (b := _) rfl (fun hc0 => ?_) (fun hc0 => ?_)
              ·
                try with_reducible replace hc0 := dec_t hc0
                refine WC_seq (fun K22 hK23 => ?_)
                refine WC_region ?_
                refine WL_val (dd := some 2) rfl rfl rfl (r_assign (v := .bool false) rfl) ?_
                refine WL_nil ?_
                refine hK23 _ _ ?_
                clear hK23 K22
                refine WC_ret ?_
                repeat (first | refine thenQ_ret ?_ | refine blockQ_ret ?_)
                try clear hK7 K6
                refine ret_t (v := .bool false) rfl ?_
                refine ⟨hB, ?_⟩
                first | exact rightT_f (by omega) | exact rightT_k (k := k) (by omega) (ln_1 (by rw [← hck]; exact bool_t hs7_6)) | exact rightT_k (k := k) (by omega) (ln_2 hc2) | exact rightT_k (k := k) (by omega) (ln_3 (j := j) (by omega) (by have h1 : ¬ (T.ls.getD k ln0).os.getD j 0 = 0 := hs12_6; have h2 : ¬ (T.ls.getD k ln0).os.getD j 0 = 1 := hs12_14; have h3 : ¬ (T.ls.getD k ln0).os.getD j 0 = 2 := hc4; omega)) | exact rightT_t (by omega) (fun q hq' => hq q (by omega))
              ·
                try with_reducible replace hc0 := dec_f hc0
                refine WC_skip ?_
                refine hK7 _ _ ?_
                clear hK7 K6
                refine WC_seq (fun K24 hK25 => ?_)
                refine WC_seq (fun K26 hK27 => ?_)
                refine WC_region ?_
                refine WL_val (dd := some 3) rfl rfl rfl (r_assign (v := .int .i64 0) rfl) ?_
                refine WL_nil ?_
                refine hK27 _ _ ?_
                clear hK27 K26
                refine WC_block ?_
                refine WC_loop (σ := (Nat)) [2, 3, 4, 5, 40, 41, 42, 43, 44, 45, 46, 47, 48, 49, 50, 51, 52, 53, 54, 55, 56, 57, 58, 59, 60, 61, 62, 63, 64, 65, 66, 67, 68, 69, 70, 71, 72, 73, 74, 75, 76, 77, 78, 79, 80, 81, 82, 83, 84, 85, 86, 87, 88, 89, 90, 91, 92, 93, 94] (fun k => [(3, .int .i64 (k : Int))]) (fun k W => (Below w.heap.size w W) ∧ (At W b0_0 _ 24) ∧ (k ≤ T.ls.length) ∧ (∀ q, q < k → lnOk T.ni T.no (T.ls.getD q ln0) = true) ∧ (True)) (fun k => T.ls.length - k) (0) ⟨rfl, trivial⟩ ⟨hB, hm0_0, (Nat.zero_le _), upTo_zero, trivial⟩ ?_
                clear hB hm0_0
                rintro k g29 W28 ⟨hB, hm0_0, hk, hq, _⟩ J30 hJ31
                refine WC_seq (fun K32 hK33 => ?_)
                refine WC_seq (fun K34 hK35 => ?_)
                refine WC_region ?_
                refine WL_val (dd := some 40) rfl rfl rfl (r_move (v := .int .i64 _) rfl) ?_
                refine WL_val (dd := some 41) rfl rfl rfl (r_fieldAddr (b := _) (o := _) rfl tb_fo24_3) ?_
                refine WL_val (dd := some 42) rfl rfl rfl (r_load1 (v := lv) rfl tb_sc22 (At.cell hm0_0 rfl)) ?_
                refine WL_val (dd := some 43) rfl rfl rfl (r_lenS (v := lv) rfl (Below.slT hB hlv) tb_el22) ?_
                refine WL_val (dd := some 44) rfl rfl rfl (r_lss rfl rfl) ?_
                refine WL_nil ?_
                refine hK35 _ _ ?_
                clear hK35 K34
                refine WC_cond (b := _) rfl (fun hc1 => ?_) (fun hc1 => ?_)
                ·
                  try with_reducible replace hc1 := dec_t hc1
                  refine WC_skip ?_
                  refine hK33 _ _ ?_
                  clear hK33 K32
                  refine WC_seq (fun K36 hK37 => ?_)
                  refine WC_block ?_
                  refine WC_seq (fun K38 hK39 => ?_)
                  have hck := hls.c k (by omega)
                  have hbk := hmb k (by omega)
                  have hb1 : (vs.getD k lv0).c.m < 256 ∧ (vs.getD k lv0).c.v < 256 := by rw [hck]; exact hbk
                  refine WC_region ?_
                  refine WL_val (dd := some 47) rfl rfl rfl (r_fieldAddr (b := _) (o := _) rfl tb_fo24_3) ?_
                  refine WL_val (dd := some 48) rfl rfl rfl (r_load1 (v := lv) rfl tb_sc22 (At.cell hm0_0 rfl)) ?_
                  refine WL_val (dd := some 49) rfl rfl rfl (r_move (v := .int .i64 _) rfl) ?_
                  refine WL_val (dd := some 50) rfl rfl rfl (r_idxS (v := lv) rfl (Below.slT hB hlv) rfl tb_el22 (by omega) (by omega)) ?_
                  refine WL_val (dd := some 51) rfl rfl rfl (r_load3 rfl tb_ag45 (SlT.cell (Below.slT hB hlv) encLn_len lv0 (by omega) (by omega) 0 rfl) (SlT.cell (Below.slT hB hlv) encLn_len lv0 (by omega) (by omega) 1 rfl) (SlT.cell (Below.slT hB hlv) encLn_len lv0 (by omega) (by omega) 2 rfl)) ?_
                  have hp6_4 : SlT encI 1 w ((vs.getD k lv0).o) ((T.ls.getD k ln0).os) := hls.o k (by omega)
                  refine WL_step (dd := some 4) rfl rfl rfl (Y_alloc tb_z45 rfl (fun b6_5 W40 hb41 hE42 hm6_5 => ?_))
                  have lo_b6_5 : w.heap.size ≤ b6_5 := hb41 ▸ (Below.size hB)
                  clear hb41
                  replace hB := below_ext hB hE42 (Nat.le_refl _)
                  replace hm0_0 := hE42.at hm0_0
                  clear hE42
                  refine WL_step (dd := none) rfl rfl rfl (Y_storeW rfl rfl tb_ag45 rfl hm6_5 rfl (by exact one_ln (SlT.one hp6_4)) (fun W43 hG44 hm45 => ?_))
                  replace hB := below_grown hB hG44 (Nat.le_refl _) (fun j hj => by cases hj; exact lo_b6_5)
                  replace hm0_0 := At.grownAt hm0_0 hm6_5 hG44 (by decide)
                  clear hG44 hm6_5
                  have hm6_5 := hm45
                  clear hm45
                  refine WL_nil ?_
                  refine hK39 _ _ ?_
                  clear hK39 K38
                  refine WC_seq (fun K46 hK47 => ?_)
                  refine WC_seq (fun K48 hK49 => ?_)
                  refine WC_region ?_
                  refine WL_val (dd := some 52) rfl rfl rfl (r_fieldAddr (b := _) (o := _) rfl tb_fo45_0) ?_
                  refine WL_val (dd := some 53) rfl rfl rfl (r_load2 rfl tb_ag42 (At.cell hm6_5 rfl) (At.cell hm6_5 rfl)) ?_
                  refine WL_val (dd := some 54) rfl rfl rfl (r_fieldAddr (b := _) (o := _) rfl tb_fo24_1) ?_
                  refine WL_val (dd := some 55) rfl rfl rfl (r_load1 (v := .int .i64 _) rfl tb_sc3 (At.cell hm0_0 rfl)) ?_
                  refine WL_call (dd := some 56) rfl rfl rfl (r_call2 tb_c20 (v0 := .agg #[_, _]) rfl (v1 := .int .i64 _) rfl) (C_drawkniferef02_Right (vs.getD k lv0).c.m (vs.getD k lv0).c.v _ _ hb1.1 hb1.2) (fun v7_4 W50 hE51 hP7_4 => ?_)
                  have hsz52 := (Below.size hB)
                  replace hB := below_ext hB hE51 (Nat.le_refl _)
                  replace hm0_0 := hE51.at hm0_0
                  replace hm6_5 := hE51.at hm6_5
                  clear hE51
                  clear hsz52
                  obtain rfl := hP7_4
                  refine WL_val (dd := some 57) rfl rfl rfl (r_not rfl) ?_
                  refine WL_split (dd := some 58) rfl rfl rfl (r_move (v := .bool _) rfl) (fun hs7_6 => ?_) (fun hs7_6 => ?_)
                  ·
                    try with_reducible replace hs7_6 := dec_t hs7_6
                    refine WL_skip (dd := some 59) rfl rfl rfl ?_
                    refine WL_skip (dd := some 60) rfl rfl rfl ?_
                    refine WL_skip (dd := some 61) rfl rfl rfl ?_
                    refine WL_skip (dd := some 62) rfl rfl rfl ?_
                    refine WL_skip (dd := some 63) rfl rfl rfl ?_
                    refine WL_skip (dd := some 64) rfl rfl rfl ?_
                    refine WL_val (dd := some 65) rfl rfl rfl (r_pick_t rfl (v := .bool true) rfl) ?_
                    refine WL_nil ?_
                    refine hK49 _ _ ?_
                    clear hK49 K48
                    refine WC_cond_true rfl ?_
                    refine WC_seq (fun K53 hK54 => ?_)
                    refine WC_region ?_
                    refine WL_val (dd := some 2) rfl rfl rfl (r_assign (v := .bool false) rfl) ?_
                    refine WL_nil ?_
                    refine hK54 _ _ ?_
                    clear hK54 K53
                    refine WC_ret ?_
                    repeat (first | refine thenQ_ret ?_ | refine blockQ_ret ?_)
                    try clear hK47 K46
                    try clear hK37 K36
                    try clear hJ31 J30
                    try clear hK25 K24
                    refine ret_t (v := .bool false) rfl ?_
                    refine ⟨hB, ?_⟩
                    first | exact rightT_f (by omega) | exact rightT_k (k := k) (by omega) (ln_1 (by rw [← hck]; exact bool_t hs7_6)) | exact rightT_k (k := k) (by omega) (ln_2 hc2) | exact rightT_k (k := k) (by omega) (ln_3 (j := j) (by omega) (by have h1 : ¬ (T.ls.getD k ln0).os.getD j 0 = 0 := hs12_6; have h2 : ¬ (T.ls.getD k ln0).os.getD j 0 = 1 := hs12_14; have h3 : ¬ (T.ls.getD k ln0).os.getD j 0 = 2 := hc4; omega)) | exact rightT_t (by omega) (fun q hq' => hq q (by omega))
                  ·
                    try with_reducible replace hs7_6 := dec_f hs7_6
                    refine WL_val (dd := some 59) rfl rfl rfl (r_fieldAddr (b := _) (o := _) rfl tb_fo45_1) ?_
                    refine WL_val (dd := some 60) rfl rfl rfl (r_load1 (v := (vs.getD k lv0).o) rfl tb_sc43 (At.cell hm6_5 rfl)) ?_
                    refine WL_val (dd := some 61) rfl rfl rfl (r_lenS (v := (vs.getD k lv0).o) rfl (Below.slT hB hp6_4) tb_el43) ?_
                    refine WL_val (dd := some 62) rfl rfl rfl (r_fieldAddr (b := _) (o := _) rfl tb_fo24_2) ?_
                    refine WL_val (dd := some 63) rfl rfl rfl (r_load1 (v := .int .i64 _) rfl tb_sc3 (At.cell hm0_0 rfl)) ?_
                    refine WL_val (dd := some 64) rfl rfl rfl (r_neq rfl rfl) ?_
                    refine WL_val (dd := some 65) rfl rfl rfl (r_pick_f rfl (v := .bool _) rfl) ?_
                    refine WL_nil ?_
                    refine hK49 _ _ ?_
                    clear hK49 K48
                    refine WC_cond (b := _) rfl (fun hc2 => ?_) (fun hc2 => ?_)
                    ·
                      try with_reducible replace hc2 := dec_t hc2
                      refine WC_seq (fun K55 hK56 => ?_)
                      refine WC_region ?_
                      refine WL_val (dd := some 2) rfl rfl rfl (r_assign (v := .bool false) rfl) ?_
                      refine WL_nil ?_
                      refine hK56 _ _ ?_
                      clear hK56 K55
                      refine WC_ret ?_
                      repeat (first | refine thenQ_ret ?_ | refine blockQ_ret ?_)
                      try clear hK47 K46
                      try clear hK37 K36
                      try clear hJ31 J30
                      try clear hK25 K24
                      refine ret_t (v := .bool false) rfl ?_
                      refine ⟨hB, ?_⟩
                      first | exact rightT_f (by omega) | exact rightT_k (k := k) (by omega) (ln_1 (by rw [← hck]; exact bool_t hs7_6)) | exact rightT_k (k := k) (by omega) (ln_2 hc2) | exact rightT_k (k := k) (by omega) (ln_3 (j := j) (by omega) (by have h1 : ¬ (T.ls.getD k ln0).os.getD j 0 = 0 := hs12_6; have h2 : ¬ (T.ls.getD k ln0).os.getD j 0 = 1 := hs12_14; have h3 : ¬ (T.ls.getD k ln0).os.getD j 0 = 2 := hc4; omega)) | exact rightT_t (by omega) (fun q hq' => hq q (by omega))
                    ·
                      try with_reducible replace hc2 := dec_f hc2
                      refine WC_skip ?_
                      refine hK47 _ _ ?_
                      clear hK47 K46
                      refine WC_seq (fun K57 hK58 => ?_)
                      refine WC_region ?_
                      refine WL_val (dd := some 5) rfl rfl rfl (r_assign (v := .int .i64 0) rfl) ?_
                      refine WL_nil ?_
                      refine hK58 _ _ ?_
                      clear hK58 K57
                      refine WC_block ?_
                      refine WC_loop (σ := (Nat)) [2, 5, 66, 67, 68, 69, 70, 71, 72, 73, 74, 75, 76, 77, 78, 79, 80, 81, 82, 83, 84, 85, 86, 87, 88, 89, 90, 91, 92, 93, 94] (fun j => [(5, .int .i64 (j : Int))]) (fun j W => (Below w.heap.size w W) ∧ (At W b0_0 _ 24) ∧ (At W b6_5 _ 45) ∧ (j ≤ (T.ls.getD k ln0).os.length) ∧ (∀ q, q < j → 0 ≤ (T.ls.getD k ln0).os.getD q 0 ∧ (T.ls.getD k ln0).os.getD q 0 < 3) ∧ (True)) (fun j => (T.ls.getD k ln0).os.length - j) (0) ⟨rfl, trivial⟩ ⟨hB, hm0_0, hm6_5, (Nat.zero_le _), upTo_zero, trivial⟩ ?_
                      clear hB hm0_0 hm6_5
                      rintro j g60 W59 ⟨hB, hm0_0, hm6_5, hj, hqj, _⟩ J61 hJ62
                      refine WC_seq (fun K63 hK64 => ?_)
                      refine WC_seq (fun K65 hK66 => ?_)
                      refine WC_region ?_
                      refine WL_val (dd := some 66) rfl rfl rfl (r_move (v := .int .i64 _) rfl) ?_
                      refine WL_val (dd := some 67) rfl rfl rfl (r_fieldAddr (b := _) (o := _) rfl tb_fo45_1) ?_
                      refine WL_val (dd := some 68) rfl rfl rfl (r_load1 (v := (vs.getD k lv0).o) rfl tb_sc43 (At.cell hm6_5 rfl)) ?_
                      refine WL_val (dd := some 69) rfl rfl rfl (r_lenS (v := (vs.getD k lv0).o) rfl (Below.slT hB hp6_4) tb_el43) ?_
                      refine WL_val (dd := some 70) rfl rfl rfl (r_lss rfl rfl) ?_
                      refine WL_nil ?_
                      refine hK66 _ _ ?_
                      clear hK66 K65
                      refine WC_cond (b := _) rfl (fun hc3 => ?_) (fun hc3 => ?_)
                      ·
                        try with_reducible replace hc3 := dec_t hc3
                        refine WC_skip ?_
                        refine hK64 _ _ ?_
                        clear hK64 K63
                        refine WC_seq (fun K67 hK68 => ?_)
                        refine WC_block ?_
                        refine WC_seq (fun K69 hK70 => ?_)
                        refine WC_region ?_
                        refine WL_val (dd := some 73) rfl rfl rfl (r_fieldAddr (b := _) (o := _) rfl tb_fo45_1) ?_
                        refine WL_val (dd := some 74) rfl rfl rfl (r_load1 (v := (vs.getD k lv0).o) rfl tb_sc43 (At.cell hm6_5 rfl)) ?_
                        refine WL_val (dd := some 75) rfl rfl rfl (r_move (v := .int .i64 _) rfl) ?_
                        refine WL_val (dd := some 76) rfl rfl rfl (r_idxS (v := (vs.getD k lv0).o) rfl (Below.slT hB hp6_4) rfl tb_el43 (by omega) (by omega)) ?_
                        refine WL_val (dd := some 77) rfl rfl rfl (r_load1 (v := .int .i64 _) rfl tb_sc3 (SlT.cell (Below.slT hB hp6_4) encI_len 0 (by omega) (by omega) 0 rfl)) ?_
                        refine WL_val (dd := some 78) rfl rfl rfl (r_neq rfl rfl) ?_
                        refine WL_split (dd := some 79) rfl rfl rfl (r_move (v := .bool _) rfl) (fun hs12_6 => ?_) (fun hs12_6 => ?_)
                        ·
                          try with_reducible replace hs12_6 := dec_t hs12_6
                          refine WL_val (dd := some 80) rfl rfl rfl (r_fieldAddr (b := _) (o := _) rfl tb_fo45_1) ?_
                          refine WL_val (dd := some 81) rfl rfl rfl (r_load1 (v := (vs.getD k lv0).o) rfl tb_sc43 (At.cell hm6_5 rfl)) ?_
                          refine WL_val (dd := some 82) rfl rfl rfl (r_move (v := .int .i64 _) rfl) ?_
                          refine WL_val (dd := some 83) rfl rfl rfl (r_idxS (v := (vs.getD k lv0).o) rfl (Below.slT hB hp6_4) rfl tb_el43 (by omega) (by omega)) ?_
                          refine WL_val (dd := some 84) rfl rfl rfl (r_load1 (v := .int .i64 _) rfl tb_sc3 (SlT.cell (Below.slT hB hp6_4) encI_len 0 (by omega) (by omega) 0 rfl)) ?_
                          refine WL_val (dd := some 85) rfl rfl rfl (r_neq rfl rfl) ?_
                          refine WL_val (dd := some 86) rfl rfl rfl (r_pick_t rfl (v := .bool _) rfl) ?_
                          refine WL_split (dd := some 87) rfl rfl rfl (r_move (v := .bool _) rfl) (fun hs12_14 => ?_) (fun hs12_14 => ?_)
                          ·
                            try with_reducible replace hs12_14 := dec_t hs12_14
                            refine WL_val (dd := some 88) rfl rfl rfl (r_fieldAddr (b := _) (o := _) rfl tb_fo45_1) ?_
                            refine WL_val (dd := some 89) rfl rfl rfl (r_load1 (v := (vs.getD k lv0).o) rfl tb_sc43 (At.cell hm6_5 rfl)) ?_
                            refine WL_val (dd := some 90) rfl rfl rfl (r_move (v := .int .i64 _) rfl) ?_
                            refine WL_val (dd := some 91) rfl rfl rfl (r_idxS (v := (vs.getD k lv0).o) rfl (Below.slT hB hp6_4) rfl tb_el43 (by omega) (by omega)) ?_
                            refine WL_val (dd := some 92) rfl rfl rfl (r_load1 (v := .int .i64 _) rfl tb_sc3 (SlT.cell (Below.slT hB hp6_4) encI_len 0 (by omega) (by omega) 0 rfl)) ?_
                            refine WL_val (dd := some 93) rfl rfl rfl (r_neq rfl rfl) ?_
                            refine WL_val (dd := some 94) rfl rfl rfl (r_pick_t rfl (v := .bool _) rfl) ?_
                            refine WL_nil ?_
                            refine hK70 _ _ ?_
                            clear hK70 K69
                            refine WC_cond (b := _) rfl (fun hc4 => ?_) (fun hc4 => ?_)
                            ·
                              try with_reducible replace hc4 := dec_t hc4
                              refine WC_seq (fun K71 hK72 => ?_)
                              refine WC_region ?_
                              refine WL_val (dd := some 2) rfl rfl rfl (r_assign (v := .bool false) rfl) ?_
                              refine WL_nil ?_
                              refine hK72 _ _ ?_
                              clear hK72 K71
                              refine WC_ret ?_
                              repeat (first | refine thenQ_ret ?_ | refine blockQ_ret ?_)
                              try clear hK68 K67
                              try clear hJ62 J61
                              try clear hK37 K36
                              try clear hJ31 J30
                              try clear hK25 K24
                              refine ret_t (v := .bool false) rfl ?_
                              refine ⟨hB, ?_⟩
                              first | exact rightT_f (by omega) | exact rightT_k (k := k) (by omega) (ln_1 (by rw [← hck]; exact bool_t hs7_6)) | exact rightT_k (k := k) (by omega) (ln_2 hc2) | exact rightT_k (k := k) (by omega) (ln_3 (j := j) (by omega) (by have h1 : ¬ (T.ls.getD k ln0).os.getD j 0 = 0 := hs12_6; have h2 : ¬ (T.ls.getD k ln0).os.getD j 0 = 1 := hs12_14; have h3 : ¬ (T.ls.getD k ln0).os.getD j 0 = 2 := hc4; omega)) | exact rightT_t (by omega) (fun q hq' => hq q (by omega))
                            ·
                              try with_reducible replace hc4 := dec_f hc4
                              refine WC_skip ?_
                              refine hK68 _ _ ?_
                              clear hK68 K67
                              have hsj : (T.ls.getD k ln0).os.getD j 0 = 2 := Decidable.of_not_not hc4
                              refine WC_region ?_
                              refine WL_val (dd := some 71) rfl rfl rfl (r_move (v := .int .i64 _) rfl) ?_
                              refine WL_val (dd := some 72) rfl rfl rfl (r_addI rfl rfl (by omega) (by omega)) ?_
                              refine WL_val (dd := some 5) rfl rfl rfl (r_assign (v := .int .i64 _) rfl) ?_
                              refine WL_nil ?_
                              refine hJ62 _ _ (j + 1) ?_ ?_ ?_ ?_
                              · repeat (first | exact agree.mask _ _ _ | refine agree.updo ?_ rfl _ | refine agree.updL ?_ _ rfl | refine agree.maskS rfl ?_)
                              · exact ⟨rfl, trivial⟩
                              · exact ⟨hB, hm0_0, hm6_5, (by omega), (upTo_succ hqj (by omega)), trivial⟩
                              · show (T.ls.getD k ln0).os.length - (j + 1) < (T.ls.getD k ln0).os.length - j; omega
                          ·
                            try with_reducible replace hs12_14 := dec_f hs12_14
                            refine WL_skip (dd := some 88) rfl rfl rfl ?_
                            refine WL_skip (dd := some 89) rfl rfl rfl ?_
                            refine WL_skip (dd := some 90) rfl rfl rfl ?_
                            refine WL_skip (dd := some 91) rfl rfl rfl ?_
                            refine WL_skip (dd := some 92) rfl rfl rfl ?_
                            refine WL_skip (dd := some 93) rfl rfl rfl ?_
                            refine WL_val (dd := some 94) rfl rfl rfl (r_pick_f rfl (v := .bool false) rfl) ?_
                            refine WL_nil ?_
                            refine hK70 _ _ ?_
                            clear hK70 K69
                            refine WC_cond_false rfl ?_
                            refine WC_skip ?_
                            refine hK68 _ _ ?_
                            clear hK68 K67
                            have hsj : (T.ls.getD k ln0).os.getD j 0 = 1 := Decidable.of_not_not hs12_14
                            refine WC_region ?_
                            refine WL_val (dd := some 71) rfl rfl rfl (r_move (v := .int .i64 _) rfl) ?_
                            refine WL_val (dd := some 72) rfl rfl rfl (r_addI rfl rfl (by omega) (by omega)) ?_
                            refine WL_val (dd := some 5) rfl rfl rfl (r_assign (v := .int .i64 _) rfl) ?_
                            refine WL_nil ?_
                            refine hJ62 _ _ (j + 1) ?_ ?_ ?_ ?_
                            · repeat (first | exact agree.mask _ _ _ | refine agree.updo ?_ rfl _ | refine agree.updL ?_ _ rfl | refine agree.maskS rfl ?_)
                            · exact ⟨rfl, trivial⟩
                            · exact ⟨hB, hm0_0, hm6_5, (by omega), (upTo_succ hqj (by omega)), trivial⟩
                            · show (T.ls.getD k ln0).os.length - (j + 1) < (T.ls.getD k ln0).os.length - j; omega
                        ·
                          try with_reducible replace hs12_6 := dec_f hs12_6
                          refine WL_skip (dd := some 80) rfl rfl rfl ?_
                          refine WL_skip (dd := some 81) rfl rfl rfl ?_
                          refine WL_skip (dd := some 82) rfl rfl rfl ?_
                          refine WL_skip (dd := some 83) rfl rfl rfl ?_
                          refine WL_skip (dd := some 84) rfl rfl rfl ?_
                          refine WL_skip (dd := some 85) rfl rfl rfl ?_
                          refine WL_val (dd := some 86) rfl rfl rfl (r_pick_f rfl (v := .bool false) rfl) ?_
                          refine WL_val (dd := some 87) rfl rfl rfl (r_move (v := .bool false) rfl) ?_
                          refine WL_skip (dd := some 88) rfl rfl rfl ?_
                          refine WL_skip (dd := some 89) rfl rfl rfl ?_
                          refine WL_skip (dd := some 90) rfl rfl rfl ?_
                          refine WL_skip (dd := some 91) rfl rfl rfl ?_
                          refine WL_skip (dd := some 92) rfl rfl rfl ?_
                          refine WL_skip (dd := some 93) rfl rfl rfl ?_
                          refine WL_val (dd := some 94) rfl rfl rfl (r_pick_f rfl (v := .bool false) rfl) ?_
                          refine WL_nil ?_
                          refine hK70 _ _ ?_
                          clear hK70 K69
                          refine WC_cond_false rfl ?_
                          refine WC_skip ?_
                          refine hK68 _ _ ?_
                          clear hK68 K67
                          have hsj : (T.ls.getD k ln0).os.getD j 0 = 0 := Decidable.of_not_not hs12_6
                          refine WC_region ?_
                          refine WL_val (dd := some 71) rfl rfl rfl (r_move (v := .int .i64 _) rfl) ?_
                          refine WL_val (dd := some 72) rfl rfl rfl (r_addI rfl rfl (by omega) (by omega)) ?_
                          refine WL_val (dd := some 5) rfl rfl rfl (r_assign (v := .int .i64 _) rfl) ?_
                          refine WL_nil ?_
                          refine hJ62 _ _ (j + 1) ?_ ?_ ?_ ?_
                          · repeat (first | exact agree.mask _ _ _ | refine agree.updo ?_ rfl _ | refine agree.updL ?_ _ rfl | refine agree.maskS rfl ?_)
                          · exact ⟨rfl, trivial⟩
                          · exact ⟨hB, hm0_0, hm6_5, (by omega), (upTo_succ hqj (by omega)), trivial⟩
                          · show (T.ls.getD k ln0).os.length - (j + 1) < (T.ls.getD k ln0).os.length - j; omega
                      ·
                        try with_reducible replace hc3 := dec_f hc3
                        refine WC_exit ?_
                        refine hK37 _ _ ?_
                        clear hK64 K63
                        clear hJ62 J61
                        clear hK37 K36
                        have hqj2 : ∀ q, q < (T.ls.getD k ln0).os.length → 0 ≤ (T.ls.getD k ln0).os.getD q 0 ∧ (T.ls.getD k ln0).os.getD q 0 < 3 := fun q hq' => hqj q (by omega)
                        refine WC_region ?_
                        refine WL_val (dd := some 45) rfl rfl rfl (r_move (v := .int .i64 _) rfl) ?_
                        refine WL_val (dd := some 46) rfl rfl rfl (r_addI rfl rfl (by omega) (by omega)) ?_
                        refine WL_val (dd := some 3) rfl rfl rfl (r_assign (v := .int .i64 _) rfl) ?_
                        refine WL_nil ?_
                        refine hJ31 _ _ (k + 1) ?_ ?_ ?_ ?_
                        · repeat (first | exact agree.mask _ _ _ | refine agree.updo ?_ rfl _ | refine agree.updL ?_ _ rfl | refine agree.maskS rfl ?_)
                        · exact ⟨rfl, trivial⟩
                        · exact ⟨hB, hm0_0, (by omega), (upTo_succ hq (ln_4 (by rw [← hck]; exact bool_f hs7_6) (Decidable.of_not_not hc2) hqj2)), trivial⟩
                        · first | omega | (dsimp only; omega)
                ·
                  try with_reducible replace hc1 := dec_f hc1
                  refine WC_exit ?_
                  refine hK25 _ _ ?_
                  clear hK33 K32
                  clear hJ31 J30
                  clear hK25 K24
                  refine WC_seq (fun K73 hK74 => ?_)
                  refine WC_region ?_
                  refine WL_val (dd := some 2) rfl rfl rfl (r_assign (v := .bool true) rfl) ?_
                  refine WL_nil ?_
                  refine hK74 _ _ ?_
                  clear hK74 K73
                  refine WC_ret ?_
                  repeat (first | refine thenQ_ret ?_ | refine blockQ_ret ?_)
                  refine ret_t (v := .bool true) rfl ?_
                  refine ⟨hB, ?_⟩
                  first | exact rightT_f (by omega) | exact rightT_k (k := k) (by omega) (ln_1 (by rw [← hck]; exact bool_t hs7_6)) | exact rightT_k (k := k) (by omega) (ln_2 hc2) | exact rightT_k (k := k) (by omega) (ln_3 (j := j) (by omega) (by have h1 : ¬ (T.ls.getD k ln0).os.getD j 0 = 0 := hs12_6; have h2 : ¬ (T.ls.getD k ln0).os.getD j 0 = 1 := hs12_14; have h3 : ¬ (T.ls.getD k ln0).os.getD j 0 = 2 := hc4; omega)) | exact rightT_t (by omega) (fun q hq' => hq q (by omega))

end Go.Proofs.YtnkaebjaeaecmaaDoor
