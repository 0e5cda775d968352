/-
  The walks of package pla: its texts.
-/
import Derived.Test.YtnkaebjaeaecmaaDoorProg
import Derived.Test.YtnkaebjaeaecmaaDoorLib
import Derived.Test.YtnkaebjaeaecmaaDoorTab
namespace Go.Proofs.YtnkaebjaeaecmaaDoor
set_option linter.unusedVariables false
set_option linter.unusedSimpArgs false
open Go Go.RowKit

theorem tb_c53 : callB Tryd.prog 53 = true := by kernel_rfl
theorem tb_c67 : callB Tryd.prog 67 = true := by kernel_rfl
theorem tb_if100 : Tryd.prog.isIface 100 = true := by kernel_rfl
theorem tb_c24 : callB Tryd.prog 24 = true := by kernel_rfl
theorem tb_z42 : zeroI Tryd.prog 42 = some (.agg #[.int .u8 0, .int .u8 0]) := by kernel_rfl
theorem tb_size5 : (Tryd.prog.info? 5).map (·.size) = some 1 := by kernel_rfl
theorem tb_build42_ {f : Nat → Value} {w : World} {d : Option Nat} {ty : TypeId} {ps : String} {af : Array Edge} {g : Option (Nat × Bool)}    :
    (execOp (evF f) ⟨d, .build 42 #[], ty, ps, af, g⟩).run Tryd.prog w = .ok (.value (.agg #[.int .u8 0, .int .u8 0])) w := by
  obtain ⟨i0, hi0, hz0⟩ := Option.bind_eq_some_iff.1 (show (Tryd.prog.info? 42).bind (·.zero) = _ from tb_z42)
  obtain ⟨j5, hj5, hs5⟩ := Option.map_eq_some_iff.1 tb_size5
  simp [execOp, Instr.build, zeroValue, typeInfo, sizeOf, hi0, hz0, run_underlying Tryd.underlying42, Instr.fill, cells_agg, hj5, hs5]
theorem tb_ag42 : aggN Tryd.prog 42 = some 2 := by kernel_rfl
theorem tb_mix : Tryd.prog.follows .mixedOrders = true := by kernel_rfl
theorem tb_fo42_1 : fieldO Tryd.prog 42 1 = some 1 := by kernel_rfl
theorem tb_sc5 : scalarB Tryd.prog 5 = true := by kernel_rfl
theorem tb_fo42_0 : fieldO Tryd.prog 42 0 = some 0 := by kernel_rfl

theorem C_pla_number (line word : List UInt8) (lo hi : Int) (w : World) (hgl : Gl w) (hl : line.length ≤ 10000) (hwl : word.length ≤ 10) (h0 : 0 ≤ lo) :
    Fn Tryd.prog 52 #[keyW line, keyW word, .int .i64 lo, .int .i64 hi] w fun v w' => v = .int .i64 (numP line word lo hi) := by
  refine Fn_intro (n := 53) Tryd.func52 rfl rfl (Nat.le_of_ble_eq_true rfl) ?_
  have hB : Below w.heap.size w w := Below.refl _ _
  refine WC_seq (fun K1 hK2 => ?_)
  refine WC_region ?_
  refine WL_val (dd := some 8) rfl rfl rfl (r_assign (v := .int .i64 0) rfl) ?_
  refine WL_nil ?_
  refine hK2 _ _ ?_
  clear hK2 K1
  refine WC_seq (fun K3 hK4 => ?_)
  refine WC_region ?_
  refine WL_val (dd := some 14) rfl rfl rfl (r_move (v := .string _) rfl) ?_
  refine WL_val (dd := some 15) rfl rfl rfl (r_move (v := .string _) rfl) ?_
  refine WL_val (dd := some 16) rfl rfl rfl (r_addW rfl rfl (by first | omega | (simp; omega))) ?_
  refine WL_call (dd := some 17) rfl rfl rfl (r_call2 tb_c53 (v0 := .string _) rfl (v1 := .string _) rfl) (C_strings_CutPrefix _ _ _) (fun v1_3 W5 hE6 hP1_3 => ?_)
  have hsz7 := (Below.size hB)
  replace hB := below_ext hB hE6 (Nat.le_refl _)
  clear hE6
  obtain rfl := hP1_3
  clear hsz7
  refine WL_val (dd := some 13) rfl rfl rfl (r_move (v := .tuple #[.string _, .bool _]) rfl) ?_
  refine WL_val (dd := some 18) rfl rfl rfl (r_ext2_0 (h := rfl)) ?_
  refine WL_val (dd := some 19) rfl rfl rfl (r_ext2_1 (h := rfl)) ?_
  refine WL_val (dd := some 9) rfl rfl rfl (r_assign (v := .string _) rfl) ?_
  refine WL_val (dd := some 10) rfl rfl rfl (r_assign (v := .bool _) rfl) ?_
  refine WL_nil ?_
  refine hK4 _ _ ?_
  clear hK4 K3
  refine WC_seq (fun K8 hK9 => ?_)
  have htl := Lib.trimPrefix_le line (word ++ [32])
  refine WC_region ?_
  refine WL_val (dd := some 21) rfl rfl rfl (r_move (v := .string _) rfl) ?_
  refine WL_call (dd := some 22) rfl rfl rfl (r_call1 tb_c67 (v0 := .string _) rfl) (C_strconv_Atoi _ _ (Gl.below hB hgl) (by first | assumption | omega | (simp; omega) | simp)) (fun v2_1 W10 hE11 hP2_1 => ?_)
  have hsz12 := (Below.size hB)
  replace hB := below_ext hB hE11 (Nat.le_refl _)
  clear hE11
  rcases hP2_1 with hP2_1 | hP2_1
  clear hsz12
  ·
    obtain ⟨n2_1, ha2_1, rfl⟩ := hP2_1
    refine WL_val (dd := some 20) rfl rfl rfl (r_move (v := .tuple #[.int .i64 _, .nilIface]) rfl) ?_
    refine WL_val (dd := some 23) rfl rfl rfl (r_ext2_0 (h := rfl)) ?_
    refine WL_val (dd := some 24) rfl rfl rfl (r_ext2_1 (h := rfl)) ?_
    refine WL_val (dd := some 11) rfl rfl rfl (r_assign (v := .int .i64 _) rfl) ?_
    refine WL_val (dd := some 12) rfl rfl rfl (r_assign (v := .nilIface) rfl) ?_
    refine WL_nil ?_
    refine hK9 _ _ ?_
    clear hK9 K8
    refine WC_seq (fun K13 hK14 => ?_)
    refine WC_seq (fun K15 hK16 => ?_)
    have hnb := atoi_range ha2_1
    have hnb1 := hnb.1
    have hnb2 := hnb.2
    refine WC_region ?_
    refine WL_val (dd := some 25) rfl rfl rfl (r_move (v := .bool _) rfl) ?_
    refine WL_val (dd := some 26) rfl rfl rfl (r_not rfl) ?_
    refine WL_split (dd := some 27) rfl rfl rfl (r_move (v := .bool _) rfl) (fun hs3_2 => ?_) (fun hs3_2 => ?_)
    ·
      try with_reducible replace hs3_2 := dec_t hs3_2
      refine WL_skip (dd := some 28) rfl rfl rfl ?_
      refine WL_skip (dd := some 29) rfl rfl rfl ?_
      refine WL_val (dd := some 30) rfl rfl rfl (r_pick_t rfl (v := .bool true) rfl) ?_
      refine WL_val (dd := some 31) rfl rfl rfl (r_move (v := .bool true) rfl) ?_
      refine WL_skip (dd := some 32) rfl rfl rfl ?_
      refine WL_skip (dd := some 33) rfl rfl rfl ?_
      refine WL_skip (dd := some 34) rfl rfl rfl ?_
      refine WL_val (dd := some 35) rfl rfl rfl (r_pick_t rfl (v := .bool true) rfl) ?_
      refine WL_val (dd := some 36) rfl rfl rfl (r_move (v := .bool true) rfl) ?_
      refine WL_skip (dd := some 37) rfl rfl rfl ?_
      refine WL_skip (dd := some 38) rfl rfl rfl ?_
      refine WL_skip (dd := some 39) rfl rfl rfl ?_
      refine WL_skip (dd := some 40) rfl rfl rfl ?_
      refine WL_val (dd := some 41) rfl rfl rfl (r_pick_t rfl (v := .bool true) rfl) ?_
      refine WL_val (dd := some 42) rfl rfl rfl (r_move (v := .bool true) rfl) ?_
      refine WL_skip (dd := some 43) rfl rfl rfl ?_
      refine WL_skip (dd := some 44) rfl rfl rfl ?_
      refine WL_skip (dd := some 45) rfl rfl rfl ?_
      refine WL_val (dd := some 46) rfl rfl rfl (r_pick_t rfl (v := .bool true) rfl) ?_
      refine WL_val (dd := some 47) rfl rfl rfl (r_move (v := .bool true) rfl) ?_
      refine WL_skip (dd := some 48) rfl rfl rfl ?_
      refine WL_skip (dd := some 49) rfl rfl rfl ?_
      refine WL_skip (dd := some 50) rfl rfl rfl ?_
      refine WL_val (dd := some 51) rfl rfl rfl (r_pick_t rfl (v := .bool true) rfl) ?_
      refine WL_nil ?_
      refine hK16 _ _ ?_
      clear hK16 K15
      refine WC_cond_true rfl ?_
      refine WC_seq (fun K17 hK18 => ?_)
      refine WC_region ?_
      refine WL_val (dd := some 8) rfl rfl rfl (r_assign (v := .int .i64 _) rfl) ?_
      refine WL_nil ?_
      refine hK18 _ _ ?_
      clear hK18 K17
      refine WC_ret ?_
      repeat (first | refine thenQ_ret ?_ | refine blockQ_ret ?_)
      try clear hK14 K13
      refine ret_t (v := .int .i64 _) rfl ?_
      refine ⟨hB, ?_⟩
      first | exact num_1 hs3_2 | exact num_2 ha2_1 | exact num_3 hs3_11 | exact num_4 ha2_1 hs3_17 | exact num_5 h0 hs3_2 hs3_11 hs3_17 hs3_22 | exact num_6 hs3_2 hs3_11 hs3_17 hc0 | exact num_7 h0 hs3_2 hs3_11 hs3_17 hs3_22 hc0
    ·
      try with_reducible replace hs3_2 := dec_f hs3_2
      refine WL_val (dd := some 28) rfl rfl rfl (r_move (v := .nilIface) rfl) ?_
      refine WL_val (dd := some 29) rfl rfl rfl (r_neqNil0 rfl tb_if100) ?_
      refine WL_val (dd := some 30) rfl rfl rfl (r_pick_f rfl (v := .bool false) rfl) ?_
      refine WL_val (dd := some 31) rfl rfl rfl (r_move (v := .bool false) rfl) ?_
      refine WL_val (dd := some 32) rfl rfl rfl (r_move (v := .string _) rfl) ?_
      refine WL_val (dd := some 33) rfl rfl rfl (r_lenW rfl Tryd.underlying9) ?_
      refine WL_val (dd := some 34) rfl rfl rfl (r_gtr rfl rfl) ?_
      refine WL_val (dd := some 35) rfl rfl rfl (r_pick_f rfl (v := .bool _) rfl) ?_
      refine WL_split (dd := some 36) rfl rfl rfl (r_move (v := .bool _) rfl) (fun hs3_11 => ?_) (fun hs3_11 => ?_)
      ·
        try with_reducible replace hs3_11 := dec_t hs3_11
        refine WL_skip (dd := some 37) rfl rfl rfl ?_
        refine WL_skip (dd := some 38) rfl rfl rfl ?_
        refine WL_skip (dd := some 39) rfl rfl rfl ?_
        refine WL_skip (dd := some 40) rfl rfl rfl ?_
        refine WL_val (dd := some 41) rfl rfl rfl (r_pick_t rfl (v := .bool true) rfl) ?_
        refine WL_val (dd := some 42) rfl rfl rfl (r_move (v := .bool true) rfl) ?_
        refine WL_skip (dd := some 43) rfl rfl rfl ?_
        refine WL_skip (dd := some 44) rfl rfl rfl ?_
        refine WL_skip (dd := some 45) rfl rfl rfl ?_
        refine WL_val (dd := some 46) rfl rfl rfl (r_pick_t rfl (v := .bool true) rfl) ?_
        refine WL_val (dd := some 47) rfl rfl rfl (r_move (v := .bool true) rfl) ?_
        refine WL_skip (dd := some 48) rfl rfl rfl ?_
        refine WL_skip (dd := some 49) rfl rfl rfl ?_
        refine WL_skip (dd := some 50) rfl rfl rfl ?_
        refine WL_val (dd := some 51) rfl rfl rfl (r_pick_t rfl (v := .bool true) rfl) ?_
        refine WL_nil ?_
        refine hK16 _ _ ?_
        clear hK16 K15
        refine WC_cond_true rfl ?_
        refine WC_seq (fun K19 hK20 => ?_)
        refine WC_region ?_
        refine WL_val (dd := some 8) rfl rfl rfl (r_assign (v := .int .i64 _) rfl) ?_
        refine WL_nil ?_
        refine hK20 _ _ ?_
        clear hK20 K19
        refine WC_ret ?_
        repeat (first | refine thenQ_ret ?_ | refine blockQ_ret ?_)
        try clear hK14 K13
        refine ret_t (v := .int .i64 _) rfl ?_
        refine ⟨hB, ?_⟩
        first | exact num_1 hs3_2 | exact num_2 ha2_1 | exact num_3 hs3_11 | exact num_4 ha2_1 hs3_17 | exact num_5 h0 hs3_2 hs3_11 hs3_17 hs3_22 | exact num_6 hs3_2 hs3_11 hs3_17 hc0 | exact num_7 h0 hs3_2 hs3_11 hs3_17 hs3_22 hc0
      ·
        try with_reducible replace hs3_11 := dec_f hs3_11
        refine WL_val (dd := some 37) rfl rfl rfl (r_move (v := .int .i64 _) rfl) ?_
        refine WL_call (dd := some 38) rfl rfl rfl (r_call1 tb_c24 (v0 := .int .i64 _) rfl) (C_strconv_Itoa _ _ (Gl.below hB hgl) (by first | assumption | omega) (by first | assumption | omega)) (fun v3_13 W21 hE22 hP3_13 => ?_)
        have hsz23 := (Below.size hB)
        replace hB := below_ext hB hE22 (Nat.le_refl _)
        clear hE22
        obtain rfl := hP3_13
        clear hsz23
        refine WL_val (dd := some 39) rfl rfl rfl (r_move (v := .string _) rfl) ?_
        refine WL_val (dd := some 40) rfl rfl rfl (r_neqW rfl rfl) ?_
        refine WL_val (dd := some 41) rfl rfl rfl (r_pick_f rfl (v := .bool _) rfl) ?_
        refine WL_split (dd := some 42) rfl rfl rfl (r_move (v := .bool _) rfl) (fun hs3_17 => ?_) (fun hs3_17 => ?_)
        ·
          try with_reducible replace hs3_17 := dec_t hs3_17
          refine WL_skip (dd := some 43) rfl rfl rfl ?_
          refine WL_skip (dd := some 44) rfl rfl rfl ?_
          refine WL_skip (dd := some 45) rfl rfl rfl ?_
          refine WL_val (dd := some 46) rfl rfl rfl (r_pick_t rfl (v := .bool true) rfl) ?_
          refine WL_val (dd := some 47) rfl rfl rfl (r_move (v := .bool true) rfl) ?_
          refine WL_skip (dd := some 48) rfl rfl rfl ?_
          refine WL_skip (dd := some 49) rfl rfl rfl ?_
          refine WL_skip (dd := some 50) rfl rfl rfl ?_
          refine WL_val (dd := some 51) rfl rfl rfl (r_pick_t rfl (v := .bool true) rfl) ?_
          refine WL_nil ?_
          refine hK16 _ _ ?_
          clear hK16 K15
          refine WC_cond_true rfl ?_
          refine WC_seq (fun K24 hK25 => ?_)
          refine WC_region ?_
          refine WL_val (dd := some 8) rfl rfl rfl (r_assign (v := .int .i64 _) rfl) ?_
          refine WL_nil ?_
          refine hK25 _ _ ?_
          clear hK25 K24
          refine WC_ret ?_
          repeat (first | refine thenQ_ret ?_ | refine blockQ_ret ?_)
          try clear hK14 K13
          refine ret_t (v := .int .i64 _) rfl ?_
          refine ⟨hB, ?_⟩
          first | exact num_1 hs3_2 | exact num_2 ha2_1 | exact num_3 hs3_11 | exact num_4 ha2_1 hs3_17 | exact num_5 h0 hs3_2 hs3_11 hs3_17 hs3_22 | exact num_6 hs3_2 hs3_11 hs3_17 hc0 | exact num_7 h0 hs3_2 hs3_11 hs3_17 hs3_22 hc0
        ·
          try with_reducible replace hs3_17 := dec_f hs3_17
          refine WL_val (dd := some 43) rfl rfl rfl (r_move (v := .int .i64 _) rfl) ?_
          refine WL_val (dd := some 44) rfl rfl rfl (r_move (v := .int .i64 _) rfl) ?_
          refine WL_val (dd := some 45) rfl rfl rfl (r_lss rfl rfl) ?_
          refine WL_val (dd := some 46) rfl rfl rfl (r_pick_f rfl (v := .bool _) rfl) ?_
          refine WL_split (dd := some 47) rfl rfl rfl (r_move (v := .bool _) rfl) (fun hs3_22 => ?_) (fun hs3_22 => ?_)
          ·
            try with_reducible replace hs3_22 := dec_t hs3_22
            refine WL_skip (dd := some 48) rfl rfl rfl ?_
            refine WL_skip (dd := some 49) rfl rfl rfl ?_
            refine WL_skip (dd := some 50) rfl rfl rfl ?_
            refine WL_val (dd := some 51) rfl rfl rfl (r_pick_t rfl (v := .bool true) rfl) ?_
            refine WL_nil ?_
            refine hK16 _ _ ?_
            clear hK16 K15
            refine WC_cond_true rfl ?_
            refine WC_seq (fun K26 hK27 => ?_)
            refine WC_region ?_
            refine WL_val (dd := some 8) rfl rfl rfl (r_assign (v := .int .i64 _) rfl) ?_
            refine WL_nil ?_
            refine hK27 _ _ ?_
            clear hK27 K26
            refine WC_ret ?_
            repeat (first | refine thenQ_ret ?_ | refine blockQ_ret ?_)
            try clear hK14 K13
            refine ret_t (v := .int .i64 _) rfl ?_
            refine ⟨hB, ?_⟩
            first | exact num_1 hs3_2 | exact num_2 ha2_1 | exact num_3 hs3_11 | exact num_4 ha2_1 hs3_17 | exact num_5 h0 hs3_2 hs3_11 hs3_17 hs3_22 | exact num_6 hs3_2 hs3_11 hs3_17 hc0 | exact num_7 h0 hs3_2 hs3_11 hs3_17 hs3_22 hc0
          ·
            try with_reducible replace hs3_22 := dec_f hs3_22
            refine WL_val (dd := some 48) rfl rfl rfl (r_move (v := .int .i64 _) rfl) ?_
            refine WL_val (dd := some 49) rfl rfl rfl (r_move (v := .int .i64 _) rfl) ?_
            refine WL_val (dd := some 50) rfl rfl rfl (r_gtr rfl rfl) ?_
            refine WL_val (dd := some 51) rfl rfl rfl (r_pick_f rfl (v := .bool _) rfl) ?_
            refine WL_nil ?_
            refine hK16 _ _ ?_
            clear hK16 K15
            refine WC_cond (b := _) rfl (fun hc0 => ?_) (fun hc0 => ?_)
            ·
              try with_reducible replace hc0 := dec_t hc0
              refine WC_seq (fun K28 hK29 => ?_)
              refine WC_region ?_
              refine WL_val (dd := some 8) rfl rfl rfl (r_assign (v := .int .i64 _) rfl) ?_
              refine WL_nil ?_
              refine hK29 _ _ ?_
              clear hK29 K28
              refine WC_ret ?_
              repeat (first | refine thenQ_ret ?_ | refine blockQ_ret ?_)
              try clear hK14 K13
              refine ret_t (v := .int .i64 _) rfl ?_
              refine ⟨hB, ?_⟩
              first | exact num_1 hs3_2 | exact num_2 ha2_1 | exact num_3 hs3_11 | exact num_4 ha2_1 hs3_17 | exact num_5 h0 hs3_2 hs3_11 hs3_17 hs3_22 | exact num_6 hs3_2 hs3_11 hs3_17 hc0 | exact num_7 h0 hs3_2 hs3_11 hs3_17 hs3_22 hc0
            ·
              try with_reducible replace hc0 := dec_f hc0
              refine WC_skip ?_
              refine hK14 _ _ ?_
              clear hK14 K13
              refine WC_seq (fun K30 hK31 => ?_)
              refine WC_region ?_
              refine WL_val (dd := some 52) rfl rfl rfl (r_move (v := .int .i64 _) rfl) ?_
              refine WL_val (dd := some 8) rfl rfl rfl (r_assign (v := .int .i64 _) rfl) ?_
              refine WL_nil ?_
              refine hK31 _ _ ?_
              clear hK31 K30
              refine WC_ret ?_
              repeat (first | refine thenQ_ret ?_ | refine blockQ_ret ?_)
              refine ret_t (v := .int .i64 _) rfl ?_
              refine ⟨hB, ?_⟩
              first | exact num_1 hs3_2 | exact num_2 ha2_1 | exact num_3 hs3_11 | exact num_4 ha2_1 hs3_17 | exact num_5 h0 hs3_2 hs3_11 hs3_17 hs3_22 | exact num_6 hs3_2 hs3_11 hs3_17 hc0 | exact num_7 h0 hs3_2 hs3_11 hs3_17 hs3_22 hc0
  ·
    obtain ⟨ha2_1, n2_1, p2_1, rfl⟩ := hP2_1
    refine WL_val (dd := some 20) rfl rfl rfl (r_move (v := .tuple #[.int .i64 _, .iface _ _]) rfl) ?_
    refine WL_val (dd := some 23) rfl rfl rfl (r_ext2_0 (h := rfl)) ?_
    refine WL_val (dd := some 24) rfl rfl rfl (r_ext2_1 (h := rfl)) ?_
    refine WL_val (dd := some 11) rfl rfl rfl (r_assign (v := .int .i64 _) rfl) ?_
    refine WL_val (dd := some 12) rfl rfl rfl (r_assign (v := .iface _ _) rfl) ?_
    refine WL_nil ?_
    refine hK9 _ _ ?_
    clear hK9 K8
    refine WC_seq (fun K32 hK33 => ?_)
    refine WC_seq (fun K34 hK35 => ?_)
    refine WC_region ?_
    refine WL_val (dd := some 25) rfl rfl rfl (r_move (v := .bool _) rfl) ?_
    refine WL_val (dd := some 26) rfl rfl rfl (r_not rfl) ?_
    refine WL_split (dd := some 27) rfl rfl rfl (r_move (v := .bool _) rfl) (fun hs3_2 => ?_) (fun hs3_2 => ?_)
    ·
      try with_reducible replace hs3_2 := dec_t hs3_2
      refine WL_skip (dd := some 28) rfl rfl rfl ?_
      refine WL_skip (dd := some 29) rfl rfl rfl ?_
      refine WL_val (dd := some 30) rfl rfl rfl (r_pick_t rfl (v := .bool true) rfl) ?_
      refine WL_val (dd := some 31) rfl rfl rfl (r_move (v := .bool true) rfl) ?_
      refine WL_skip (dd := some 32) rfl rfl rfl ?_
      refine WL_skip (dd := some 33) rfl rfl rfl ?_
      refine WL_skip (dd := some 34) rfl rfl rfl ?_
      refine WL_val (dd := some 35) rfl rfl rfl (r_pick_t rfl (v := .bool true) rfl) ?_
      refine WL_val (dd := some 36) rfl rfl rfl (r_move (v := .bool true) rfl) ?_
      refine WL_skip (dd := some 37) rfl rfl rfl ?_
      refine WL_skip (dd := some 38) rfl rfl rfl ?_
      refine WL_skip (dd := some 39) rfl rfl rfl ?_
      refine WL_skip (dd := some 40) rfl rfl rfl ?_
      refine WL_val (dd := some 41) rfl rfl rfl (r_pick_t rfl (v := .bool true) rfl) ?_
      refine WL_val (dd := some 42) rfl rfl rfl (r_move (v := .bool true) rfl) ?_
      refine WL_skip (dd := some 43) rfl rfl rfl ?_
      refine WL_skip (dd := some 44) rfl rfl rfl ?_
      refine WL_skip (dd := some 45) rfl rfl rfl ?_
      refine WL_val (dd := some 46) rfl rfl rfl (r_pick_t rfl (v := .bool true) rfl) ?_
      refine WL_val (dd := some 47) rfl rfl rfl (r_move (v := .bool true) rfl) ?_
      refine WL_skip (dd := some 48) rfl rfl rfl ?_
      refine WL_skip (dd := some 49) rfl rfl rfl ?_
      refine WL_skip (dd := some 50) rfl rfl rfl ?_
      refine WL_val (dd := some 51) rfl rfl rfl (r_pick_t rfl (v := .bool true) rfl) ?_
      refine WL_nil ?_
      refine hK35 _ _ ?_
      clear hK35 K34
      refine WC_cond_true rfl ?_
      refine WC_seq (fun K36 hK37 => ?_)
      refine WC_region ?_
      refine WL_val (dd := some 8) rfl rfl rfl (r_assign (v := .int .i64 _) rfl) ?_
      refine WL_nil ?_
      refine hK37 _ _ ?_
      clear hK37 K36
      refine WC_ret ?_
      repeat (first | refine thenQ_ret ?_ | refine blockQ_ret ?_)
      try clear hK33 K32
      refine ret_t (v := .int .i64 _) rfl ?_
      refine ⟨hB, ?_⟩
      first | exact num_1 hs3_2 | exact num_2 ha2_1 | exact num_3 hs3_11 | exact num_4 ha2_1 hs3_17 | exact num_5 h0 hs3_2 hs3_11 hs3_17 hs3_22 | exact num_6 hs3_2 hs3_11 hs3_17 hc0 | exact num_7 h0 hs3_2 hs3_11 hs3_17 hs3_22 hc0
    ·
      try with_reducible replace hs3_2 := dec_f hs3_2
      refine WL_val (dd := some 28) rfl rfl rfl (r_move (v := .iface _ _) rfl) ?_
      refine WL_val (dd := some 29) rfl rfl rfl (r_neqNil rfl tb_if100) ?_
      refine WL_val (dd := some 30) rfl rfl rfl (r_pick_f rfl (v := .bool true) rfl) ?_
      refine WL_val (dd := some 31) rfl rfl rfl (r_move (v := .bool true) rfl) ?_
      refine WL_skip (dd := some 32) rfl rfl rfl ?_
      refine WL_skip (dd := some 33) rfl rfl rfl ?_
      refine WL_skip (dd := some 34) rfl rfl rfl ?_
      refine WL_val (dd := some 35) rfl rfl rfl (r_pick_t rfl (v := .bool true) rfl) ?_
      refine WL_val (dd := some 36) rfl rfl rfl (r_move (v := .bool true) rfl) ?_
      refine WL_skip (dd := some 37) rfl rfl rfl ?_
      refine WL_skip (dd := some 38) rfl rfl rfl ?_
      refine WL_skip (dd := some 39) rfl rfl rfl ?_
      refine WL_skip (dd := some 40) rfl rfl rfl ?_
      refine WL_val (dd := some 41) rfl rfl rfl (r_pick_t rfl (v := .bool true) rfl) ?_
      refine WL_val (dd := some 42) rfl rfl rfl (r_move (v := .bool true) rfl) ?_
      refine WL_skip (dd := some 43) rfl rfl rfl ?_
      refine WL_skip (dd := some 44) rfl rfl rfl ?_
      refine WL_skip (dd := some 45) rfl rfl rfl ?_
      refine WL_val (dd := some 46) rfl rfl rfl (r_pick_t rfl (v := .bool true) rfl) ?_
      refine WL_val (dd := some 47) rfl rfl rfl (r_move (v := .bool true) rfl) ?_
      refine WL_skip (dd := some 48) rfl rfl rfl ?_
      refine WL_skip (dd := some 49) rfl rfl rfl ?_
      refine WL_skip (dd := some 50) rfl rfl rfl ?_
      refine WL_val (dd := some 51) rfl rfl rfl (r_pick_t rfl (v := .bool true) rfl) ?_
      refine WL_nil ?_
      refine hK35 _ _ ?_
      clear hK35 K34
      refine WC_cond_true rfl ?_
      refine WC_seq (fun K38 hK39 => ?_)
      refine WC_region ?_
      refine WL_val (dd := some 8) rfl rfl rfl (r_assign (v := .int .i64 _) rfl) ?_
      refine WL_nil ?_
      refine hK39 _ _ ?_
      clear hK39 K38
      refine WC_ret ?_
      repeat (first | refine thenQ_ret ?_ | refine blockQ_ret ?_)
      try clear hK33 K32
      refine ret_t (v := .int .i64 _) rfl ?_
      refine ⟨hB, ?_⟩
      first | exact num_1 hs3_2 | exact num_2 ha2_1 | exact num_3 hs3_11 | exact num_4 ha2_1 hs3_17 | exact num_5 h0 hs3_2 hs3_11 hs3_17 hs3_22 | exact num_6 hs3_2 hs3_11 hs3_17 hc0 | exact num_7 h0 hs3_2 hs3_11 hs3_17 hs3_22 hc0

theorem C_cube_Parse (s : List UInt8) (w : World) :
    Fn Tryd.prog 70 #[keyW s] w fun v w' => v = if cubOk s = true then .tuple #[.agg #[.int .u8 ((cubT s).m : Int), .int .u8 ((cubT s).v : Int)], .int .i64 0] else .tuple #[.agg #[.int .u8 0, .int .u8 0], .int .i64 2] := by
  refine Fn_intro (n := 44) Tryd.func70 rfl rfl (Nat.le_of_ble_eq_true rfl) ?_
  have hB : Below w.heap.size w w := Below.refl _ _
  refine WC_seq (fun K1 hK2 => ?_)
  refine WC_region ?_
  refine WL_step (dd := some 2) rfl rfl rfl (Y_alloc tb_z42 rfl (fun b0_0 W3 hb4 hE5 hm0_0 => ?_))
  have lo_b0_0 : w.heap.size ≤ b0_0 := hb4 ▸ (Below.size hB)
  clear hb4
  replace hB := below_ext hB hE5 (Nat.le_refl _)
  clear hE5
  refine WL_val (dd := some 3) rfl rfl rfl (r_assign (v := .int .i64 0) rfl) ?_
  refine WL_nil ?_
  refine hK2 _ _ ?_
  clear hK2 K1
  refine WC_seq (fun K6 hK7 => ?_)
  refine WC_seq (fun K8 hK9 => ?_)
  refine WC_region ?_
  refine WL_val (dd := some 7) rfl rfl rfl (r_move (v := .string _) rfl) ?_
  refine WL_val (dd := some 8) rfl rfl rfl (r_lenW rfl Tryd.underlying9) ?_
  refine WL_val (dd := some 9) rfl rfl rfl (r_gtr rfl rfl) ?_
  refine WL_nil ?_
  refine hK9 _ _ ?_
  clear hK9 K8
  refine WC_cond (b := _) rfl (fun hc0 => ?_) (fun hc0 => ?_)
  ·
    try with_reducible replace hc0 := dec_t hc0
    refine WC_seq (fun K10 hK11 => ?_)
    refine WC_region ?_
    refine WL_val (dd := some 10) rfl rfl rfl (tb_build42_ ) ?_
    refine WL_step (dd := none) rfl rfl rfl (Y_storeW rfl rfl tb_ag42 rfl hm0_0 rfl (by rfl) (fun W12 hG13 hm14 => ?_))
    replace hB := below_grown hB hG13 (Nat.le_refl _) (fun j hj => by cases hj; exact lo_b0_0)
    clear hG13 hm0_0
    have hm0_0 := hm14
    clear hm14
    refine WL_val (dd := some 3) rfl rfl rfl (r_assign (v := .int .i64 2) rfl) ?_
    refine WL_nil ?_
    refine hK11 _ _ ?_
    clear hK11 K10
    refine WC_ret ?_
    repeat (first | refine thenQ_ret ?_ | refine blockQ_ret ?_)
    try clear hK7 K6
    refine ret_ct rfl tb_ag42 hm0_0 rfl (v1 := .int .i64 2) rfl ?_
    refine ⟨hB, ?_⟩
    first | (rw [if_neg (by rw [cub_no8 (by omega)]; decide)]) | (have e : i = s.length := (by omega); subst e; rw [if_pos (cub_yes (by omega) hq)]; rfl) | (rw [if_neg (by rw [cub_no hlt5_0 (rune_no hrr5_0 hc2 hc3 hc4)]; decide)])
  ·
    try with_reducible replace hc0 := dec_f hc0
    refine WC_skip ?_
    refine hK7 _ _ ?_
    clear hK7 K6
    refine WC_seq (fun K15 hK16 => ?_)
    refine WC_region ?_
    refine WL_step (dd := some 4) rfl rfl rfl (Y_alloc tb_z42 rfl (fun b3_0 W17 hb18 hE19 hm3_0 => ?_))
    have lo_b3_0 : w.heap.size ≤ b3_0 := hb18 ▸ (Below.size hB)
    have ne_b0_0_b3_0 : b0_0 ≠ b3_0 := Nat.ne_of_lt (hb18 ▸ hm0_0.lt)
    clear hb18
    replace hB := below_ext hB hE19 (Nat.le_refl _)
    replace hm0_0 := hE19.at hm0_0
    clear hE19
    refine WL_nil ?_
    refine hK16 _ _ ?_
    clear hK16 K15
    refine WC_seq (fun K20 hK21 => ?_)
    refine WC_seq (fun K22 hK23 => ?_)
    refine WC_region ?_
    refine WL_val (dd := some 11) rfl rfl rfl (r_move (v := .string _) rfl) ?_
    refine WL_step (dd := some 12) rfl rfl rfl (Y_rangeW rfl Tryd.underlying9 (fun b4_1 W24 hb25 hE26 hm4_1 => ?_))
    have lo_b4_1 : w.heap.size ≤ b4_1 := hb25 ▸ (Below.size hB)
    clear hb25
    replace hB := below_ext hB hE26 (Nat.le_refl _)
    replace hm0_0 := hE26.at hm0_0
    replace hm3_0 := hE26.at hm3_0
    clear hE26
    refine WL_nil ?_
    refine hK23 _ _ ?_
    clear hK23 K22
    refine WC_block ?_
    refine WC_loop (σ := (Nat)) [3, 5, 6, 13, 14, 15, 16, 17, 18, 19, 20, 21, 22, 23, 24, 25, 26, 27, 28, 29, 30, 31, 32, 33, 34, 35, 36, 37, 38, 39, 40, 41, 42] (fun i => []) (fun i W => (Below w.heap.size w W) ∧ (At W b0_0 _ 42) ∧ (At W b3_0 #[.int .u8 ((pmT s i : Nat) : Int), .int .u8 ((pvT s i : Nat) : Int)] 42) ∧ (ItW W b4_1 s i) ∧ (i ≤ s.length) ∧ (∀ q, q < i → chOk (byN s q) = true) ∧ (True)) (fun i => s.length - i) (0) trivial ⟨hB, hm0_0, hm3_0, hm4_1, (Nat.zero_le _), upTo_zero, trivial⟩ ?_
    clear hB hm0_0 hm3_0 hm4_1
    rintro i g28 W27 ⟨hB, hm0_0, hm3_0, hit, hi, hq, _⟩ J29 hJ30
    refine WC_seq (fun K31 hK32 => ?_)
    refine WC_region ?_
    refine WL_step (dd := some 13) rfl rfl rfl (Y_nextW rfl hit (fun hnd5_0 => ?_) (fun rr5_0 nn5_0 W33 hlt5_0 hgt5_0 hrr5_0 hG34 hm35 => ?_))
    ·
      refine WL_val (dd := some 14) rfl rfl rfl (r_ext1_0 (h := rfl)) ?_
      refine WL_nil ?_
      refine hK32 _ _ ?_
      clear hK32 K31
      refine WC_seq (fun K36 hK37 => ?_)
      refine WC_cond_false rfl ?_
      refine WC_exit ?_
      refine hK21 _ _ ?_
      clear hK37 K36
      clear hJ30 J29
      clear hK21 K20
      refine WC_seq (fun K38 hK39 => ?_)
      refine WC_region ?_
      refine WL_val (dd := some 43) rfl rfl rfl (r_loadW rfl tb_ag42 rfl hm3_0) ?_
      refine WL_step (dd := none) rfl rfl rfl (Y_storeW rfl rfl tb_ag42 rfl hm0_0 rfl (by rfl) (fun W40 hG41 hm42 => ?_))
      replace hB := below_grown hB hG41 (Nat.le_refl _) (fun j hj => by cases hj; exact lo_b0_0)
      replace hm3_0 := At.grownNe hm3_0 (Ne.symm ne_b0_0_b3_0) hG41
      replace hit := ItW.grownAt hit hm0_0 hG41
      clear hG41 hm0_0
      have hm0_0 := hm42
      clear hm42
      refine WL_val (dd := some 3) rfl rfl rfl (r_assign (v := .int .i64 0) rfl) ?_
      refine WL_nil ?_
      refine hK39 _ _ ?_
      clear hK39 K38
      refine WC_ret ?_
      repeat (first | refine thenQ_ret ?_ | refine blockQ_ret ?_)
      refine ret_ct rfl tb_ag42 hm0_0 rfl (v1 := .int .i64 0) rfl ?_
      refine ⟨hB, ?_⟩
      first | (rw [if_neg (by rw [cub_no8 (by omega)]; decide)]) | (have e : i = s.length := (by omega); subst e; rw [if_pos (cub_yes (by omega) hq)]; rfl) | (rw [if_neg (by rw [cub_no hlt5_0 (rune_no hrr5_0 hc2 hc3 hc4)]; decide)])
    ·
      replace hB := below_grown hB hG34 (Nat.le_refl _) (fun j hj => by cases hj; exact lo_b4_1)
      replace hm0_0 := At.grownItW hm0_0 hit hG34
      replace hm3_0 := At.grownItW hm3_0 hit hG34
      clear hG34
      replace hit := hm35
      try clear hm35
      refine WL_val (dd := some 14) rfl rfl rfl (r_ext3_0 (h := rfl)) ?_
      refine WL_nil ?_
      refine hK32 _ _ ?_
      clear hK32 K31
      refine WC_seq (fun K43 hK44 => ?_)
      refine WC_cond_true rfl ?_
      refine WC_skip ?_
      refine hK44 _ _ ?_
      clear hK44 K43
      refine WC_block ?_
      refine WC_seq (fun K45 hK46 => ?_)
      refine WC_region ?_
      refine WL_val (dd := some 15) rfl rfl rfl (r_ext3_1 (h := rfl)) ?_
      refine WL_val (dd := some 16) rfl rfl rfl (r_ext3_2 (h := rfl)) ?_
      refine WL_val (dd := some 5) rfl rfl rfl (r_assign (v := .int .i64 _) rfl) ?_
      refine WL_val (dd := some 6) rfl rfl rfl (r_assign (v := .int .i32 _) rfl) ?_
      refine WL_nil ?_
      refine hK46 _ _ ?_
      clear hK46 K45
      refine WC_seq (fun K47 hK48 => ?_)
      have hmb := pmT_lt s i
      have hvb := pvT_lt s i
      have hpb := pow7 (show i < 8 by omega)
      refine WC_region ?_
      refine WL_val (dd := some 17) rfl rfl rfl (r_move (v := .int .i32 _) rfl) ?_
      refine WL_nil ?_
      refine hK48 _ _ ?_
      clear hK48 K47
      refine WC_block ?_
      refine WC_seq (fun K49 hK50 => ?_)
      refine WC_region ?_
      refine WL_val (dd := some 20) rfl rfl rfl (r_eql rfl rfl) ?_
      refine WL_val (dd := some 19) rfl rfl rfl (r_assign (v := .bool _) rfl) ?_
      refine WL_nil ?_
      refine hK50 _ _ ?_
      clear hK50 K49
      refine WC_cond (b := _) rfl (fun hc2 => ?_) (fun hc2 => ?_)
      ·
        try with_reducible replace hc2 := dec_t hc2
        refine WC_seq (fun K51 hK52 => ?_)
        refine WC_draw Ext tb_mix (fun W53 hE54 => ?_)
        replace hB := below_ext hB hE54 (Nat.le_refl _)
        replace hm0_0 := hE54.at hm0_0
        replace hm3_0 := hE54.at hm3_0
        replace hit := hE54.itW hit
        have hS := Ext.refl W53
        refine WT_take (dd := some 21) 0 rfl (by kernel_rfl) (by kernel_rfl) (by kernel_rfl) rfl rfl rfl (fun _wq _hq => r_fieldAddr (b := _) (o := _) rfl tb_fo42_1) hS ?_
        refine WT_take (dd := some 22) 1 rfl (by kernel_rfl) (by kernel_rfl) (by kernel_rfl) rfl rfl rfl (fun _wq hq => r_load1 (v := .int .u8 _) rfl tb_sc5 (At.cell (hq.at hm3_0) rfl)) hS ?_
        refine WT_take (dd := some 23) 2 rfl (by kernel_rfl) (by kernel_rfl) (by kernel_rfl) rfl rfl rfl (fun _wq _hq => r_move (v := .int .i64 _) rfl) hS ?_
        refine WT_take (dd := some 24) 3 rfl (by kernel_rfl) (by kernel_rfl) (by kernel_rfl) rfl rfl rfl (fun _wq _hq => r_shl (m := 1) rfl rfl (by omega) (by simp only [IntKind.bits]; omega) (by exact shl1 _ _ (by simp only [bitsN]; omega))) hS ?_
        refine WT_take (dd := some 25) 4 rfl (by kernel_rfl) (by kernel_rfl) (by kernel_rfl) rfl rfl rfl (fun _wq _hq => r_or (n := _) rfl rfl rfl (by first | assumption | (simp only [topN]; omega) | (simp only [topN]; decide)) (by simp only [topN, Int.toNat_natCast, Nat.one_mul]; omega)) hS ?_
        refine WT_take (dd := some 26) 5 rfl (by kernel_rfl) (by kernel_rfl) (by kernel_rfl) rfl rfl rfl (fun _wq _hq => r_fieldAddr (b := _) (o := _) rfl tb_fo42_1) hS ?_
        refine WT_one (dd := none) 6 (by kernel_rfl) rfl rfl rfl rfl (Y_store1 (v := .int .u8 _) rfl rfl tb_sc5 rfl hm3_0 (by simp) (fun W55 hG56 hm57 => ⟨.inr (by kernel_rfl), ?_⟩))
        have sv58_hB := hB
        have sv58_hm0_0 := hm0_0
        have sv58_hm3_0 := hm3_0
        replace hB := below_grown hB hG56 (Nat.le_refl _) (fun j hj => by cases hj; exact lo_b3_0)
        replace hm0_0 := At.grownNe hm0_0 ne_b0_0_b3_0 hG56
        replace hit := ItW.grownAt hit hm3_0 hG56
        clear hG56 hm3_0
        have hm3_0 := hm57
        clear hm57
        replace hm3_0 : At _ _ #[_, _] _ := hm3_0
        refine WT_done (by kernel_rfl) ?_
        try clear sv58_hB sv58_hm0_0
        refine hK52 _ _ ?_
        clear hK52 K51
        refine WC_draw Ext tb_mix (fun W59 hE60 => ?_)
        replace hB := below_ext hB hE60 (Nat.le_refl _)
        replace hm0_0 := hE60.at hm0_0
        replace hm3_0 := hE60.at hm3_0
        replace hit := hE60.itW hit
        have hS := Ext.refl W59
        refine WT_take (dd := some 27) 0 rfl (by kernel_rfl) (by kernel_rfl) (by kernel_rfl) rfl rfl rfl (fun _wq _hq => r_fieldAddr (b := _) (o := _) rfl tb_fo42_0) hS ?_
        refine WT_take (dd := some 28) 1 rfl (by kernel_rfl) (by kernel_rfl) (by kernel_rfl) rfl rfl rfl (fun _wq hq => r_load1 (v := .int .u8 _) rfl tb_sc5 (At.cell (hq.at hm3_0) rfl)) hS ?_
        refine WT_take (dd := some 29) 2 rfl (by kernel_rfl) (by kernel_rfl) (by kernel_rfl) rfl rfl rfl (fun _wq _hq => r_move (v := .int .i64 _) rfl) hS ?_
        refine WT_take (dd := some 30) 3 rfl (by kernel_rfl) (by kernel_rfl) (by kernel_rfl) rfl rfl rfl (fun _wq _hq => r_shl (m := 1) rfl rfl (by omega) (by simp only [IntKind.bits]; omega) (by exact shl1 _ _ (by simp only [bitsN]; omega))) hS ?_
        refine WT_take (dd := some 31) 4 rfl (by kernel_rfl) (by kernel_rfl) (by kernel_rfl) rfl rfl rfl (fun _wq _hq => r_or (n := _) rfl rfl rfl (by first | assumption | (simp only [topN]; omega) | (simp only [topN]; decide)) (by simp only [topN, Int.toNat_natCast, Nat.one_mul]; omega)) hS ?_
        refine WT_take (dd := some 32) 5 rfl (by kernel_rfl) (by kernel_rfl) (by kernel_rfl) rfl rfl rfl (fun _wq _hq => r_fieldAddr (b := _) (o := _) rfl tb_fo42_0) hS ?_
        refine WT_one (dd := none) 6 (by kernel_rfl) rfl rfl rfl rfl (Y_store1 (v := .int .u8 _) rfl rfl tb_sc5 rfl hm3_0 (by simp) (fun W61 hG62 hm63 => ⟨.inr (by kernel_rfl), ?_⟩))
        have sv64_hB := hB
        have sv64_hm0_0 := hm0_0
        have sv64_hm3_0 := hm3_0
        replace hB := below_grown hB hG62 (Nat.le_refl _) (fun j hj => by cases hj; exact lo_b3_0)
        replace hm0_0 := At.grownNe hm0_0 ne_b0_0_b3_0 hG62
        replace hit := ItW.grownAt hit hm3_0 hG62
        clear hG62 hm3_0
        have hm3_0 := hm63
        clear hm63
        replace hm3_0 : At _ _ #[_, _] _ := hm3_0
        refine WT_done (by kernel_rfl) ?_
        try clear sv64_hB sv64_hm0_0
        have hbn : (byN s i = 49 ∨ byN s i = 48 ∨ byN s i = 45) ∧ nn5_0 = i + 1 := by omega
        obtain ⟨hb0, hn⟩ := hbn
        subst hn
        refine hJ30 _ _ (i + 1) ?_ ?_ ?_ ?_
        · repeat (first | exact agree.mask _ _ _ | refine agree.updo ?_ rfl _ | refine agree.updL ?_ _ rfl | refine agree.maskS rfl ?_)
        · exact trivial
        · exact ⟨hB, hm0_0, (by first | (rw [← pmT_1 (.inr (by omega)), ← pvT_1 (by omega)]; exact hm3_0) | (rw [← pmT_1 (.inl (by omega)), ← pvT_0 (by omega)]; exact hm3_0) | (rw [← pmT_0 (by omega), ← pvT_0 (by omega)]; exact hm3_0)), hit, (by omega), (upTo_succ hq (ch_of hb0)), trivial⟩
        · first | omega | (dsimp only; omega)
      ·
        try with_reducible replace hc2 := dec_f hc2
        refine WC_seq (fun K65 hK66 => ?_)
        refine WC_region ?_
        refine WL_val (dd := some 34) rfl rfl rfl (r_eql rfl rfl) ?_
        refine WL_val (dd := some 33) rfl rfl rfl (r_assign (v := .bool _) rfl) ?_
        refine WL_nil ?_
        refine hK66 _ _ ?_
        clear hK66 K65
        refine WC_cond (b := _) rfl (fun hc3 => ?_) (fun hc3 => ?_)
        ·
          try with_reducible replace hc3 := dec_t hc3
          refine WC_draw Ext tb_mix (fun W67 hE68 => ?_)
          replace hB := below_ext hB hE68 (Nat.le_refl _)
          replace hm0_0 := hE68.at hm0_0
          replace hm3_0 := hE68.at hm3_0
          replace hit := hE68.itW hit
          have hS := Ext.refl W67
          refine WT_take (dd := some 35) 0 rfl (by kernel_rfl) (by kernel_rfl) (by kernel_rfl) rfl rfl rfl (fun _wq _hq => r_fieldAddr (b := _) (o := _) rfl tb_fo42_0) hS ?_
          refine WT_take (dd := some 36) 1 rfl (by kernel_rfl) (by kernel_rfl) (by kernel_rfl) rfl rfl rfl (fun _wq hq => r_load1 (v := .int .u8 _) rfl tb_sc5 (At.cell (hq.at hm3_0) rfl)) hS ?_
          refine WT_take (dd := some 37) 2 rfl (by kernel_rfl) (by kernel_rfl) (by kernel_rfl) rfl rfl rfl (fun _wq _hq => r_move (v := .int .i64 _) rfl) hS ?_
          refine WT_take (dd := some 38) 3 rfl (by kernel_rfl) (by kernel_rfl) (by kernel_rfl) rfl rfl rfl (fun _wq _hq => r_shl (m := 1) rfl rfl (by omega) (by simp only [IntKind.bits]; omega) (by exact shl1 _ _ (by simp only [bitsN]; omega))) hS ?_
          refine WT_take (dd := some 39) 4 rfl (by kernel_rfl) (by kernel_rfl) (by kernel_rfl) rfl rfl rfl (fun _wq _hq => r_or (n := _) rfl rfl rfl (by first | assumption | (simp only [topN]; omega) | (simp only [topN]; decide)) (by simp only [topN, Int.toNat_natCast, Nat.one_mul]; omega)) hS ?_
          refine WT_take (dd := some 40) 5 rfl (by kernel_rfl) (by kernel_rfl) (by kernel_rfl) rfl rfl rfl (fun _wq _hq => r_fieldAddr (b := _) (o := _) rfl tb_fo42_0) hS ?_
          refine WT_one (dd := none) 6 (by kernel_rfl) rfl rfl rfl rfl (Y_store1 (v := .int .u8 _) rfl rfl tb_sc5 rfl hm3_0 (by simp) (fun W69 hG70 hm71 => ⟨.inr (by kernel_rfl), ?_⟩))
          have sv72_hB := hB
          have sv72_hm0_0 := hm0_0
          have sv72_hm3_0 := hm3_0
          replace hB := below_grown hB hG70 (Nat.le_refl _) (fun j hj => by cases hj; exact lo_b3_0)
          replace hm0_0 := At.grownNe hm0_0 ne_b0_0_b3_0 hG70
          replace hit := ItW.grownAt hit hm3_0 hG70
          clear hG70 hm3_0
          have hm3_0 := hm71
          clear hm71
          replace hm3_0 : At _ _ #[_, _] _ := hm3_0
          refine WT_done (by kernel_rfl) ?_
          try clear sv72_hB sv72_hm0_0
          have hbn : (byN s i = 49 ∨ byN s i = 48 ∨ byN s i = 45) ∧ nn5_0 = i + 1 := by omega
          obtain ⟨hb0, hn⟩ := hbn
          subst hn
          refine hJ30 _ _ (i + 1) ?_ ?_ ?_ ?_
          · repeat (first | exact agree.mask _ _ _ | refine agree.updo ?_ rfl _ | refine agree.updL ?_ _ rfl | refine agree.maskS rfl ?_)
          · exact trivial
          · exact ⟨hB, hm0_0, (by first | (rw [← pmT_1 (.inr (by omega)), ← pvT_1 (by omega)]; exact hm3_0) | (rw [← pmT_1 (.inl (by omega)), ← pvT_0 (by omega)]; exact hm3_0) | (rw [← pmT_0 (by omega), ← pvT_0 (by omega)]; exact hm3_0)), hit, (by omega), (upTo_succ hq (ch_of hb0)), trivial⟩
          · first | omega | (dsimp only; omega)
        ·
          try with_reducible replace hc3 := dec_f hc3
          refine WC_seq (fun K73 hK74 => ?_)
          refine WC_region ?_
          refine WL_val (dd := some 42) rfl rfl rfl (r_eql rfl rfl) ?_
          refine WL_val (dd := some 41) rfl rfl rfl (r_assign (v := .bool _) rfl) ?_
          refine WL_nil ?_
          refine hK74 _ _ ?_
          clear hK74 K73
          refine WC_cond (b := _) rfl (fun hc4 => ?_) (fun hc4 => ?_)
          ·
            try with_reducible replace hc4 := dec_t hc4
            refine WC_skip ?_
            have hbn : (byN s i = 49 ∨ byN s i = 48 ∨ byN s i = 45) ∧ nn5_0 = i + 1 := by omega
            obtain ⟨hb0, hn⟩ := hbn
            subst hn
            refine hJ30 _ _ (i + 1) ?_ ?_ ?_ ?_
            · repeat (first | exact agree.mask _ _ _ | refine agree.updo ?_ rfl _ | refine agree.updL ?_ _ rfl | refine agree.maskS rfl ?_)
            · exact trivial
            · exact ⟨hB, hm0_0, (by first | (rw [← pmT_1 (.inr (by omega)), ← pvT_1 (by omega)]; exact hm3_0) | (rw [← pmT_1 (.inl (by omega)), ← pvT_0 (by omega)]; exact hm3_0) | (rw [← pmT_0 (by omega), ← pvT_0 (by omega)]; exact hm3_0)), hit, (by omega), (upTo_succ hq (ch_of hb0)), trivial⟩
            · first | omega | (dsimp only; omega)
          ·
            try with_reducible replace hc4 := dec_f hc4
            refine WC_seq (fun K75 hK76 => ?_)
            refine WC_region ?_
            refine WL_val (dd := some 18) rfl rfl rfl (tb_build42_ ) ?_
            refine WL_step (dd := none) rfl rfl rfl (Y_storeW rfl rfl tb_ag42 rfl hm0_0 rfl (by rfl) (fun W77 hG78 hm79 => ?_))
            replace hB := below_grown hB hG78 (Nat.le_refl _) (fun j hj => by cases hj; exact lo_b0_0)
            replace hm3_0 := At.grownNe hm3_0 (Ne.symm ne_b0_0_b3_0) hG78
            replace hit := ItW.grownAt hit hm0_0 hG78
            clear hG78 hm0_0
            have hm0_0 := hm79
            clear hm79
            refine WL_val (dd := some 3) rfl rfl rfl (r_assign (v := .int .i64 2) rfl) ?_
            refine WL_nil ?_
            refine hK76 _ _ ?_
            clear hK76 K75
            refine WC_ret ?_
            repeat (first | refine thenQ_ret ?_ | refine blockQ_ret ?_)
            try clear hJ30 J29
            try clear hK21 K20
            refine ret_ct rfl tb_ag42 hm0_0 rfl (v1 := .int .i64 2) rfl ?_
            refine ⟨hB, ?_⟩
            first | (rw [if_neg (by rw [cub_no8 (by omega)]; decide)]) | (have e : i = s.length := (by omega); subst e; rw [if_pos (cub_yes (by omega) hq)]; rfl) | (rw [if_neg (by rw [cub_no hlt5_0 (rune_no hrr5_0 hc2 hc3 hc4)]; decide)])

end Go.Proofs.YtnkaebjaeaecmaaDoor
