/-
  The walks of the reader.
-/
import Derived.Test.YtnkaebjaeaecmaaDoorProg
import Derived.Test.YtnkaebjaeaecmaaDoorWPla4
import Derived.Test.YtnkaebjaeaecmaaDoorPars
namespace Go.Proofs.YtnkaebjaeaecmaaDoor
set_option linter.unusedVariables false
set_option linter.unusedSimpArgs false
open Go Go.RowKit

theorem tb_c69 : callB Tryd.prog 69 = true := by kernel_rfl
theorem tb_c70 : callB Tryd.prog 70 = true := by kernel_rfl
theorem tb_fo65_0 : fieldO Tryd.prog 65 0 = some 0 := by kernel_rfl
theorem tb_size42 : (Tryd.prog.info? 42).map (·.size) = some 2 := by kernel_rfl
theorem tb_size43 : (Tryd.prog.info? 43).map (·.size) = some 1 := by kernel_rfl
theorem tb_build45_0 {f : Nat → Value} {w : World} {d : Option Nat} {ty : TypeId} {ps : String} {af : Array Edge} {g : Option (Nat × Bool)} {x0 : Operand} {c0_0 c0_1 : Value} (h0 : evF f x0 = .agg #[c0_0, c0_1]) :
    (execOp (evF f) ⟨d, .build 45 #[(0, x0)], ty, ps, af, g⟩).run Tryd.prog w = .ok (.value (.agg #[c0_0, c0_1, .slice none 0 0])) w := by
  obtain ⟨i0, hi0, hz0⟩ := Option.bind_eq_some_iff.1 (show (Tryd.prog.info? 45).bind (·.zero) = _ from tb_z45)
  obtain ⟨j42, hj42, hs42⟩ := Option.map_eq_some_iff.1 tb_size42
  obtain ⟨j43, hj43, hs43⟩ := Option.map_eq_some_iff.1 tb_size43
  simp [execOp, h0, Instr.build, zeroValue, typeInfo, sizeOf, hi0, hz0, run_underlying Tryd.underlying45, Instr.fill, cells_agg, hj42, hs42, hj43, hs43]
theorem tb_zs45 : (zeroI Tryd.prog 45).map (fun z => z.cells.size) = some 3 := by kernel_rfl
theorem tb_fo65_1 : fieldO Tryd.prog 65 1 = some 4 := by kernel_rfl
theorem tb_c52 : callB Tryd.prog 52 = true := by kernel_rfl
theorem tb_c51 : callB Tryd.prog 51 = true := by kernel_rfl
theorem tb_fo65_2 : fieldO Tryd.prog 65 2 = some 5 := by kernel_rfl
theorem tb_c54 : callB Tryd.prog 54 = true := by kernel_rfl
theorem tb_z24 : zeroI Tryd.prog 24 = some (.agg #[.int .i64 0, .int .i64 0, .int .i64 0, .slice none 0 0]) := by kernel_rfl
theorem tb_size3 : (Tryd.prog.info? 3).map (·.size) = some 1 := by kernel_rfl
theorem tb_size22 : (Tryd.prog.info? 22).map (·.size) = some 1 := by kernel_rfl
theorem tb_build24_ {f : Nat → Value} {w : World} {d : Option Nat} {ty : TypeId} {ps : String} {af : Array Edge} {g : Option (Nat × Bool)}    :
    (execOp (evF f) ⟨d, .build 24 #[], ty, ps, af, g⟩).run Tryd.prog w = .ok (.value (.agg #[.int .i64 0, .int .i64 0, .int .i64 0, .slice none 0 0])) w := by
  obtain ⟨i0, hi0, hz0⟩ := Option.bind_eq_some_iff.1 (show (Tryd.prog.info? 24).bind (·.zero) = _ from tb_z24)
  obtain ⟨j3, hj3, hs3⟩ := Option.map_eq_some_iff.1 tb_size3
  obtain ⟨j22, hj22, hs22⟩ := Option.map_eq_some_iff.1 tb_size22
  simp [execOp, Instr.build, zeroValue, typeInfo, sizeOf, hi0, hz0, run_underlying Tryd.underlying24, Instr.fill, cells_agg, hj3, hs3, hj22, hs22]
theorem tb_build24_0 {f : Nat → Value} {w : World} {d : Option Nat} {ty : TypeId} {ps : String} {af : Array Edge} {g : Option (Nat × Bool)} {x0 : Operand} {c0_0 : Value} (h0 : evF f x0 = c0_0) (k0 : c0_0.cells = #[c0_0]) :
    (execOp (evF f) ⟨d, .build 24 #[(0, x0)], ty, ps, af, g⟩).run Tryd.prog w = .ok (.value (.agg #[c0_0, .int .i64 0, .int .i64 0, .slice none 0 0])) w := by
  obtain ⟨i0, hi0, hz0⟩ := Option.bind_eq_some_iff.1 (show (Tryd.prog.info? 24).bind (·.zero) = _ from tb_z24)
  obtain ⟨j3, hj3, hs3⟩ := Option.map_eq_some_iff.1 tb_size3
  obtain ⟨j22, hj22, hs22⟩ := Option.map_eq_some_iff.1 tb_size22
  simp [execOp, h0, k0, Instr.build, zeroValue, typeInfo, sizeOf, hi0, hz0, run_underlying Tryd.underlying24, Instr.fill, cells_agg, hj3, hs3, hj22, hs22]
theorem tb_z65 : zeroI Tryd.prog 65 = some (.agg #[.int .i64 0, .int .i64 0, .int .i64 0, .slice none 0 0, .int .i64 0, .int .i64 0]) := by kernel_rfl
theorem tb_size24 : (Tryd.prog.info? 24).map (·.size) = some 4 := by kernel_rfl
theorem tb_build65_0_2 {f : Nat → Value} {w : World} {d : Option Nat} {ty : TypeId} {ps : String} {af : Array Edge} {g : Option (Nat × Bool)} {x0 x1 : Operand} {c0_0 c0_1 c0_2 c0_3 c1_0 : Value} (h0 : evF f x0 = .agg #[c0_0, c0_1, c0_2, c0_3]) (h1 : evF f x1 = c1_0) (k1 : c1_0.cells = #[c1_0]) :
    (execOp (evF f) ⟨d, .build 65 #[(0, x0), (2, x1)], ty, ps, af, g⟩).run Tryd.prog w = .ok (.value (.agg #[c0_0, c0_1, c0_2, c0_3, .int .i64 0, c1_0])) w := by
  obtain ⟨i0, hi0, hz0⟩ := Option.bind_eq_some_iff.1 (show (Tryd.prog.info? 65).bind (·.zero) = _ from tb_z65)
  obtain ⟨j3, hj3, hs3⟩ := Option.map_eq_some_iff.1 tb_size3
  obtain ⟨j24, hj24, hs24⟩ := Option.map_eq_some_iff.1 tb_size24
  simp [execOp, h0, h1, k1, Instr.build, zeroValue, typeInfo, sizeOf, hi0, hz0, run_underlying Tryd.underlying65, Instr.fill, cells_agg, hj3, hs3, hj24, hs24]
theorem tb_c31 : callB Tryd.prog 31 = true := by kernel_rfl
theorem tb_c32 : callB Tryd.prog 32 = true := by kernel_rfl

theorem C___pla_reader__row (N br : Nat) (r : Rd) (line : List UInt8) (w : World) (hN0 : N ≤ w.heap.size) (hgl : ∀ W, Below N w W → Gl W) (hl : line.length ≤ 10000) (lob : N ≤ br) (h64 : r.T.ls.length ≤ 64) (hR : RdAt 65 45 3 N w br (r)) :
    FnG Tryd.prog 54 #[.pointer (some ⟨br, 0, none⟩), keyW line] w fun v w' => Dx 45 N [br] w w' ∧ ((rowOk r.T.ni r.T.no line = true ∧ v = .bool true ∧ RdAt 65 45 3 N w' br (⟨{ r.T with ls := r.T.ls ++ [rowL line] }, r.st, r.told⟩)) ∨ (rowOk r.T.ni r.T.no line = false ∧ v = .bool false ∧ RdAt 65 45 3 N w' br (r))) := by
  refine FnG_intro (n := 88) Tryd.func54 rfl rfl (Nat.le_of_ble_eq_true rfl) ?_
  have hB : Below N w w := Below.refl _ _
  have hX : Dx 45 N [br] w w := Dx.refl
  obtain ⟨lv, vs, hrd, hlv, hls⟩ := hR
  have hlen := hls.len
  have hbl := (cut_len line [32]).2
  refine WC_seq (fun K1 hK2 => ?_)
  refine WC_region ?_
  refine WL_val (dd := some 4) rfl rfl rfl (r_assign (v := .bool false) rfl) ?_
  refine WL_nil ?_
  refine hK2 _ _ ?_
  clear hK2 K1
  refine WC_seq (fun K3 hK4 => ?_)
  refine WC_region ?_
  refine WL_val (dd := some 14) rfl rfl rfl (r_move (v := .string _) rfl) ?_
  refine WL_call (dd := some 15) rfl rfl rfl (r_call2 tb_c69 (v0 := .string _) rfl (v1 := .string _) rfl) (C_strings_Cut _ _ _ (hgl _ hB) (by first | assumption | omega | (simp; omega) | simp)) (fun v1_1 W5 hE6 hP1_1 => ?_)
  have hsz7 := (Nat.le_trans hN0 (Below.size hB))
  replace hrd := hE6.at hrd
  replace hlv := hE6.ow hlv
  replace hls := LsO.ext hE6 hls
  replace hX := Dx.trans hX (Dx.ext hE6)
  replace hB := below_ext hB hE6 hN0
  clear hE6
  obtain rfl := hP1_1
  clear hsz7
  refine WL_val (dd := some 13) rfl rfl rfl (r_move (v := .tuple #[.string _, .string _, .bool _]) rfl) ?_
  refine WL_val (dd := some 16) rfl rfl rfl (r_ext3_0 (h := rfl)) ?_
  refine WL_val (dd := some 17) rfl rfl rfl (r_ext3_1 (h := rfl)) ?_
  refine WL_val (dd := some 18) rfl rfl rfl (r_ext3_2 (h := rfl)) ?_
  refine WL_val (dd := some 5) rfl rfl rfl (r_assign (v := .string _) rfl) ?_
  refine WL_val (dd := some 6) rfl rfl rfl (r_assign (v := .string _) rfl) ?_
  refine WL_val (dd := some 7) rfl rfl rfl (r_assign (v := .bool _) rfl) ?_
  refine WL_nil ?_
  refine hK4 _ _ ?_
  clear hK4 K3
  refine WC_seq (fun K8 hK9 => ?_)
  have hBo10 := hB
  replace hB := Below.refl W5.heap.size W5
  refine WC_region ?_
  refine WL_val (dd := some 20) rfl rfl rfl (r_move (v := .string _) rfl) ?_
  refine WL_call (dd := some 21) rfl rfl rfl (r_call1 tb_c70 (v0 := .string _) rfl) (C_cube_Parse _ _) (fun v2_1 W11 hE12 hP2_1 => ?_)
  have hsz13 := (Below.size hB)
  replace hB := below_ext hB hE12 (Nat.le_refl _)
  clear hE12
  by_cases hcub2_1 : cubOk (Lib.cut line [32]).1 = true
  clear hsz13
  ·
    rw [if_pos hcub2_1] at hP2_1
    obtain rfl := hP2_1
    refine WL_val (dd := some 19) rfl rfl rfl (r_move (v := .tuple #[.agg #[_, _], .int .i64 0]) rfl) ?_
    refine WL_val (dd := some 22) rfl rfl rfl (r_ext2_0 (h := rfl)) ?_
    refine WL_val (dd := some 23) rfl rfl rfl (r_ext2_1 (h := rfl)) ?_
    refine WL_step (dd := some 8) rfl rfl rfl (Y_alloc tb_z42 rfl (fun b2_5 W14 hb15 hE16 hm2_5 => ?_))
    have lo_b2_5 : W5.heap.size ≤ b2_5 := hb15 ▸ (Below.size hB)
    clear hb15
    replace hB := below_ext hB hE16 (Nat.le_refl _)
    clear hE16
    refine WL_step (dd := none) rfl rfl rfl (Y_storeW rfl rfl tb_ag42 rfl hm2_5 rfl (by rfl) (fun W17 hG18 hm19 => ?_))
    replace hB := below_grown hB hG18 (Nat.le_refl _) (fun j hj => by cases hj; exact lo_b2_5)
    clear hG18 hm2_5
    have hm2_5 := hm19
    clear hm19
    refine WL_val (dd := some 9) rfl rfl rfl (r_assign (v := .int .i64 0) rfl) ?_
    refine WL_nil ?_
    refine hK9 _ _ ?_
    clear hK9 K8
    refine WC_seq (fun K20 hK21 => ?_)
    refine WC_seq (fun K22 hK23 => ?_)
    refine WC_region ?_
    refine WL_val (dd := some 24) rfl rfl rfl (r_move (v := .bool _) rfl) ?_
    refine WL_val (dd := some 25) rfl rfl rfl (r_not rfl) ?_
    refine WL_split (dd := some 26) rfl rfl rfl (r_move (v := .bool _) rfl) (fun hs3_2 => ?_) (fun hs3_2 => ?_)
    ·
      try with_reducible replace hs3_2 := dec_t hs3_2
      refine WL_skip (dd := some 27) rfl rfl rfl ?_
      refine WL_skip (dd := some 28) rfl rfl rfl ?_
      refine WL_val (dd := some 29) rfl rfl rfl (r_pick_t rfl (v := .bool true) rfl) ?_
      refine WL_val (dd := some 30) rfl rfl rfl (r_move (v := .bool true) rfl) ?_
      refine WL_skip (dd := some 31) rfl rfl rfl ?_
      refine WL_skip (dd := some 32) rfl rfl rfl ?_
      refine WL_skip (dd := some 33) rfl rfl rfl ?_
      refine WL_skip (dd := some 34) rfl rfl rfl ?_
      refine WL_skip (dd := some 35) rfl rfl rfl ?_
      refine WL_skip (dd := some 36) rfl rfl rfl ?_
      refine WL_skip (dd := some 37) rfl rfl rfl ?_
      refine WL_skip (dd := some 38) rfl rfl rfl ?_
      refine WL_val (dd := some 39) rfl rfl rfl (r_pick_t rfl (v := .bool true) rfl) ?_
      refine WL_val (dd := some 40) rfl rfl rfl (r_move (v := .bool true) rfl) ?_
      refine WL_skip (dd := some 41) rfl rfl rfl ?_
      refine WL_skip (dd := some 42) rfl rfl rfl ?_
      refine WL_skip (dd := some 43) rfl rfl rfl ?_
      refine WL_skip (dd := some 44) rfl rfl rfl ?_
      refine WL_skip (dd := some 45) rfl rfl rfl ?_
      refine WL_skip (dd := some 46) rfl rfl rfl ?_
      refine WL_skip (dd := some 47) rfl rfl rfl ?_
      refine WL_skip (dd := some 48) rfl rfl rfl ?_
      refine WL_val (dd := some 49) rfl rfl rfl (r_pick_t rfl (v := .bool true) rfl) ?_
      refine WL_nil ?_
      refine hK23 _ _ ?_
      clear hK23 K22
      refine WC_cond_true rfl ?_
      refine WC_seq (fun K24 hK25 => ?_)
      refine WC_region ?_
      refine WL_val (dd := some 4) rfl rfl rfl (r_assign (v := .bool false) rfl) ?_
      refine WL_nil ?_
      refine hK25 _ _ ?_
      clear hK25 K24
      refine WC_ret ?_
      replace hrd := Below.atI hB hrd
      replace hlv := Below.ow hB hlv
      replace hls := LsO.below hB hls
      replace hX := Dx.trans hX (Dx.below hB)
      clear hm2_5
      have hzs := Nat.le_trans hN0 (Below.size hBo10)
      replace hB := Below.trans hBo10 (Below.mono hB hzs)
      clear hBo10 hzs
      repeat (first | refine thenQ_ret ?_ | refine blockQ_ret ?_)
      try clear hK21 K20
      refine ret_t (v := .bool false) rfl ?_
      refine ⟨hX, .inr ⟨?_, rfl, ⟨lv, vs, hrd, hlv, hls⟩⟩⟩
      first | exact row_n1 hs3_2 | exact row_n2 hcub2_1 | exact row_n3 hs3_16 | exact row_n4 hc0 | exact row_n5 hlt7_0 (rune_no hrr7_0 hc3 hc2 hc4)
    ·
      try with_reducible replace hs3_2 := dec_f hs3_2
      refine WL_val (dd := some 27) rfl rfl rfl (r_move (v := .int .i64 0) rfl) ?_
      refine WL_val (dd := some 28) rfl rfl rfl (r_neq rfl rfl) ?_
      refine WL_val (dd := some 29) rfl rfl rfl (r_pick_f rfl (v := .bool _) rfl) ?_
      refine WL_split (dd := some 30) rfl rfl rfl (r_move (v := .bool _) rfl) (fun hs3_6 => ?_) (fun hs3_6 => ?_)
      ·
        try with_reducible replace hs3_6 := dec_t hs3_6
        exact (hs3_6 rfl).elim
      ·
        try with_reducible replace hs3_6 := dec_f hs3_6
        refine WL_val (dd := some 31) rfl rfl rfl (r_move (v := .string _) rfl) ?_
        refine WL_val (dd := some 32) rfl rfl rfl (r_lenW rfl Tryd.underlying9) ?_
        refine WL_val (dd := some 33) rfl rfl rfl (r_move (v := .pointer (some ⟨br, 0, none⟩)) rfl) ?_
        refine WL_val (dd := some 34) rfl rfl rfl (r_nilCheck_ptr rfl) ?_
        refine WL_val (dd := some 35) rfl rfl rfl (r_fieldAddr (b := _) (o := _) rfl tb_fo65_0) ?_
        refine WL_val (dd := some 36) rfl rfl rfl (r_fieldAddr (b := _) (o := _) rfl tb_fo24_1) ?_
        refine WL_val (dd := some 37) rfl rfl rfl (r_load1 (v := .int .i64 _) rfl tb_sc3 (At.cell (Below.atI hB hrd) rfl)) ?_
        refine WL_val (dd := some 38) rfl rfl rfl (r_neq rfl rfl) ?_
        refine WL_val (dd := some 39) rfl rfl rfl (r_pick_f rfl (v := .bool _) rfl) ?_
        refine WL_split (dd := some 40) rfl rfl rfl (r_move (v := .bool _) rfl) (fun hs3_16 => ?_) (fun hs3_16 => ?_)
        ·
          try with_reducible replace hs3_16 := dec_t hs3_16
          refine WL_skip (dd := some 41) rfl rfl rfl ?_
          refine WL_skip (dd := some 42) rfl rfl rfl ?_
          refine WL_skip (dd := some 43) rfl rfl rfl ?_
          refine WL_skip (dd := some 44) rfl rfl rfl ?_
          refine WL_skip (dd := some 45) rfl rfl rfl ?_
          refine WL_skip (dd := some 46) rfl rfl rfl ?_
          refine WL_skip (dd := some 47) rfl rfl rfl ?_
          refine WL_skip (dd := some 48) rfl rfl rfl ?_
          refine WL_val (dd := some 49) rfl rfl rfl (r_pick_t rfl (v := .bool true) rfl) ?_
          refine WL_nil ?_
          refine hK23 _ _ ?_
          clear hK23 K22
          refine WC_cond_true rfl ?_
          refine WC_seq (fun K26 hK27 => ?_)
          refine WC_region ?_
          refine WL_val (dd := some 4) rfl rfl rfl (r_assign (v := .bool false) rfl) ?_
          refine WL_nil ?_
          refine hK27 _ _ ?_
          clear hK27 K26
          refine WC_ret ?_
          replace hrd := Below.atI hB hrd
          replace hlv := Below.ow hB hlv
          replace hls := LsO.below hB hls
          replace hX := Dx.trans hX (Dx.below hB)
          clear hm2_5
          have hzs := Nat.le_trans hN0 (Below.size hBo10)
          replace hB := Below.trans hBo10 (Below.mono hB hzs)
          clear hBo10 hzs
          repeat (first | refine thenQ_ret ?_ | refine blockQ_ret ?_)
          try clear hK21 K20
          refine ret_t (v := .bool false) rfl ?_
          refine ⟨hX, .inr ⟨?_, rfl, ⟨lv, vs, hrd, hlv, hls⟩⟩⟩
          first | exact row_n1 hs3_2 | exact row_n2 hcub2_1 | exact row_n3 hs3_16 | exact row_n4 hc0 | exact row_n5 hlt7_0 (rune_no hrr7_0 hc3 hc2 hc4)
        ·
          try with_reducible replace hs3_16 := dec_f hs3_16
          refine WL_val (dd := some 41) rfl rfl rfl (r_move (v := .string _) rfl) ?_
          refine WL_val (dd := some 42) rfl rfl rfl (r_lenW rfl Tryd.underlying9) ?_
          refine WL_val (dd := some 43) rfl rfl rfl (r_move (v := .pointer (some ⟨br, 0, none⟩)) rfl) ?_
          refine WL_val (dd := some 44) rfl rfl rfl (r_nilCheck_ptr rfl) ?_
          refine WL_val (dd := some 45) rfl rfl rfl (r_fieldAddr (b := _) (o := _) rfl tb_fo65_0) ?_
          refine WL_val (dd := some 46) rfl rfl rfl (r_fieldAddr (b := _) (o := _) rfl tb_fo24_2) ?_
          refine WL_val (dd := some 47) rfl rfl rfl (r_load1 (v := .int .i64 _) rfl tb_sc3 (At.cell (Below.atI hB hrd) rfl)) ?_
          refine WL_val (dd := some 48) rfl rfl rfl (r_neq rfl rfl) ?_
          refine WL_val (dd := some 49) rfl rfl rfl (r_pick_f rfl (v := .bool _) rfl) ?_
          refine WL_nil ?_
          refine hK23 _ _ ?_
          clear hK23 K22
          refine WC_cond (b := _) rfl (fun hc0 => ?_) (fun hc0 => ?_)
          ·
            try with_reducible replace hc0 := dec_t hc0
            refine WC_seq (fun K28 hK29 => ?_)
            refine WC_region ?_
            refine WL_val (dd := some 4) rfl rfl rfl (r_assign (v := .bool false) rfl) ?_
            refine WL_nil ?_
            refine hK29 _ _ ?_
            clear hK29 K28
            refine WC_ret ?_
            replace hrd := Below.atI hB hrd
            replace hlv := Below.ow hB hlv
            replace hls := LsO.below hB hls
            replace hX := Dx.trans hX (Dx.below hB)
            clear hm2_5
            have hzs := Nat.le_trans hN0 (Below.size hBo10)
            replace hB := Below.trans hBo10 (Below.mono hB hzs)
            clear hBo10 hzs
            repeat (first | refine thenQ_ret ?_ | refine blockQ_ret ?_)
            try clear hK21 K20
            refine ret_t (v := .bool false) rfl ?_
            refine ⟨hX, .inr ⟨?_, rfl, ⟨lv, vs, hrd, hlv, hls⟩⟩⟩
            first | exact row_n1 hs3_2 | exact row_n2 hcub2_1 | exact row_n3 hs3_16 | exact row_n4 hc0 | exact row_n5 hlt7_0 (rune_no hrr7_0 hc3 hc2 hc4)
          ·
            try with_reducible replace hc0 := dec_f hc0
            refine WC_skip ?_
            refine hK21 _ _ ?_
            clear hK21 K20
            refine WC_seq (fun K30 hK31 => ?_)
            refine WC_region ?_
            refine WL_val (dd := some 50) rfl rfl rfl (r_loadW rfl tb_ag42 rfl hm2_5) ?_
            refine WL_val (dd := some 51) rfl rfl rfl (tb_build45_0 (h0 := rfl) ) ?_
            refine WL_step (dd := some 10) rfl rfl rfl (Y_alloc tb_z45 rfl (fun b5_2 W32 hb33 hE34 hm5_2 => ?_))
            have lo_b5_2 : W5.heap.size ≤ b5_2 := hb33 ▸ (Below.size hB)
            have no35 := OwT.neB (b := b5_2) (Below.ow hB hlv) (Nat.le_of_eq hb33.symm)
            clear hb33
            replace hB := below_ext hB hE34 (Nat.le_refl _)
            replace hm2_5 := hE34.at hm2_5
            clear hE34
            refine WL_step (dd := none) rfl rfl rfl (Y_storeW rfl rfl tb_ag45 rfl hm5_2 rfl (by rfl) (fun W36 hG37 hm38 => ?_))
            replace hB := below_grown hB hG37 (Nat.le_refl _) (fun j hj => by cases hj; exact lo_b5_2)
            replace hm2_5 := At.grownAt hm2_5 hm5_2 hG37 (by decide)
            clear hG37 hm5_2
            have hm5_2 := hm38
            clear hm38
            refine WL_nil ?_
            refine hK31 _ _ ?_
            clear hK31 K30
            refine WC_seq (fun K39 hK40 => ?_)
            refine WC_seq (fun K41 hK42 => ?_)
            refine WC_region ?_
            refine WL_val (dd := some 52) rfl rfl rfl (r_move (v := .string _) rfl) ?_
            refine WL_step (dd := some 53) rfl rfl rfl (Y_rangeW rfl Tryd.underlying9 (fun b6_1 W43 hb44 hE45 hm6_1 => ?_))
            have lo_b6_1 : W5.heap.size ≤ b6_1 := hb44 ▸ (Below.size hB)
            clear hb44
            replace hB := below_ext hB hE45 (Nat.le_refl _)
            replace hm2_5 := hE45.at hm2_5
            replace hm5_2 := hE45.at hm5_2
            clear hE45
            refine WL_nil ?_
            refine hK42 _ _ ?_
            clear hK42 K41
            refine WC_block ?_
            refine WC_loop (σ := (Nat) × (Value)) [4, 12, 54, 55, 56, 57, 58, 59, 60, 61, 62, 63, 64, 65, 66, 67, 68, 69, 70, 71, 72, 73, 74, 75] (fun (i, ov) => []) (fun sg W => match sg with | (i, ov) => (Below W5.heap.size W5 W) ∧ (At W b2_5 _ 42) ∧ (ItW W b6_1 (Lib.cut line [32]).2.1 i) ∧ (At W b5_2 #[.int .u8 ((cubT (Lib.cut line [32]).1).m : Int), .int .u8 ((cubT (Lib.cut line [32]).1).v : Int), ov] 45) ∧ (OwT encI 1 3 W W5.heap.size ov (outsR ((Lib.cut line [32]).2.1.take i))) ∧ (i ≤ (Lib.cut line [32]).2.1.length) ∧ (∀ q, q < i → chOk (byN (Lib.cut line [32]).2.1 q) = true) ∧ (True)) (fun (i, ov) => (Lib.cut line [32]).2.1.length - i) ((0, .slice none 0 0)) trivial ⟨hB, hm2_5, hm6_1, hm5_2, OwT.nil, (Nat.zero_le _), upTo_zero, trivial⟩ ?_
            clear hB hm2_5 hm5_2 hm6_1
            rintro ⟨i, ov⟩ g47 W46 ⟨hB, hm2_5, hit, hm5_2, hov, hi, hq, _⟩ J48 hJ49
            refine WC_seq (fun K50 hK51 => ?_)
            refine WC_region ?_
            refine WL_step (dd := some 54) rfl rfl rfl (Y_nextW rfl hit (fun hnd7_0 => ?_) (fun rr7_0 nn7_0 W52 hlt7_0 hgt7_0 hrr7_0 hG53 hm54 => ?_))
            ·
              refine WL_val (dd := some 55) rfl rfl rfl (r_ext1_0 (h := rfl)) ?_
              refine WL_nil ?_
              refine hK51 _ _ ?_
              clear hK51 K50
              refine WC_seq (fun K55 hK56 => ?_)
              refine WC_cond_false rfl ?_
              refine WC_exit ?_
              refine hK40 _ _ ?_
              clear hK56 K55
              clear hJ49 J48
              clear hK40 K39
              refine WC_seq (fun K57 hK58 => ?_)
              replace hrd := Below.atI hB hrd
              replace hlv := Below.ow hB hlv
              replace hls := LsO.below hB hls
              replace hX := Dx.trans hX (Dx.below hB)
              clear hm2_5
              have hzs := Nat.le_trans hN0 (Below.size hBo10)
              replace lo_b5_2 := Nat.le_trans hzs lo_b5_2
              replace hov := OwT.mono hov hzs
              replace hB := Below.trans hBo10 (Below.mono hB hzs)
              clear hBo10 hzs
              have hie : i = (Lib.cut line [32]).2.1.length := by omega
              subst hie
              rw [List.take_length] at hov
              refine WC_draw (fun a b => a.grownBy b lv.ownBlock) tb_mix (fun W59 hE60 => ?_)
              replace hrd := hE60.at hrd
              replace hlv := hE60.ow hlv
              replace hls := LsO.ext hE60 hls
              replace hX := Dx.trans hX (Dx.ext hE60)
              replace hB := below_ext hB hE60 hN0
              replace hit := hE60.itW hit
              replace hm5_2 := hE60.at hm5_2
              replace hov := hE60.ow hov
              have hrow61 := hlv
              have hS := World.grownBy.refl W59 lv.ownBlock
              refine WT_take (dd := some 76) 0 rfl (by kernel_rfl) (by kernel_rfl) (by kernel_rfl) rfl rfl rfl (fun _wq _hq => r_move (v := .pointer (some ⟨br, 0, none⟩)) rfl) hS ?_
              refine WT_take (dd := some 77) 1 rfl (by kernel_rfl) (by kernel_rfl) (by kernel_rfl) rfl rfl rfl (fun _wq _hq => r_move (v := .pointer (some ⟨br, 0, none⟩)) rfl) hS ?_
              refine WT_take (dd := some 78) 2 rfl (by kernel_rfl) (by kernel_rfl) (by kernel_rfl) rfl rfl rfl (fun _wq _hq => r_nilCheck_ptr rfl) hS ?_
              refine WT_take (dd := some 79) 3 rfl (by kernel_rfl) (by kernel_rfl) (by kernel_rfl) rfl rfl rfl (fun _wq _hq => r_fieldAddr (b := _) (o := _) rfl tb_fo65_0) hS ?_
              refine WT_take (dd := some 80) 4 rfl (by kernel_rfl) (by kernel_rfl) (by kernel_rfl) rfl rfl rfl (fun _wq _hq => r_fieldAddr (b := _) (o := _) rfl tb_fo24_3) hS ?_
              refine WT_take (dd := some 81) 5 rfl (by kernel_rfl) (by kernel_rfl) (by kernel_rfl) rfl rfl rfl (fun _wq hq => r_load1 (v := lv) rfl tb_sc22 (At.cell (At.grownOw hrd hrow61 hq (by decide)) rfl)) hS ?_
              refine WT_one (dd := some 82) 6 (by kernel_rfl) rfl rfl rfl rfl (Yd.val (r_loadW rfl tb_ag45 rfl hm5_2) ⟨.inl hS, ?_⟩)
              refine WT_one (dd := some 83) 7 (by kernel_rfl) rfl rfl rfl rfl (Y_lit1 (u := .agg #[_, _, _]) rfl tb_el22 tb_zs45 rfl (by decide) (by decide) (fun b16_7 W62 hb63 hE64 hm16_7 => ⟨.inl (grownBy_trans hS (Ext.grown hE64 lv.ownBlock)), ?_⟩))
              have lo_b16_7 : N ≤ b16_7 := hb63 ▸ (Nat.le_trans hN0 (Below.size hB))
              have no_lv_b16_7 := OwT.neB (b := b16_7) hlv (Nat.le_of_eq hb63.symm)
              have ne_b5_2_b16_7 : b5_2 ≠ b16_7 := Nat.ne_of_lt (hb63 ▸ hm5_2.lt)
              clear hb63
              have sv65_hrd := hrd
              have sv65_hlv := hlv
              have sv65_hB := hB
              have sv65_hm5_2 := hm5_2
              have sv65_hov := hov
              replace hrd := hE64.at hrd
              replace hlv := hE64.ow hlv
              replace hls := LsO.ext hE64 hls
              replace hX := Dx.trans hX (Dx.ext hE64)
              replace hB := below_ext hB hE64 hN0
              replace hit := hE64.itW hit
              replace hm5_2 := hE64.at hm5_2
              replace hov := hE64.ow hov
              replace hS := grownBy_trans hS (Ext.grown hE64 lv.ownBlock)
              clear hE64
              refine WT_one (dd := some 84) 8 (by kernel_rfl) rfl rfl rfl rfl (Y_append (v := lv) (v2 := .slice (some ⟨b16_7, 0, none⟩) 1 1) rfl rfl tb_el22 tb_zs45 (by decide) hlv (sl_lit1 hm16_7 rfl) (one_ln (SlT.one (OwT.sl hov))) (by have := Below.size hB; omega) (by omega) (by omega) (fun v16_8 W66 hG67 ho16_8 => ⟨.inl (grownBy_trans hS hG67), ?_⟩))
              replace hS := grownBy_trans hS hG67
              replace ho16_8 := OwT.snoc (enc := encLn) (x := ⟨cubT (Lib.cut line [32]).1, ov⟩) rfl rfl rfl rfl ho16_8
              clear hm16_7
              replace hrd := At.grownOw hrd hlv hG67 (by decide)
              replace hls := LsO.grownOw hls hlv hG67 (by decide)
              replace hX := Dx.trans hX (Dx.row hlv hG67)
              replace hB := below_grown hB hG67 hN0 (fun j hj => (OwT.lt hlv j hj))
              replace hit := ItW.grownOw hit hlv hG67
              replace hm5_2 := At.grownOwNe hm5_2 no35 hG67
              replace hov := OwT.grownOw hov hlv hG67 (by decide)
              clear hG67
              clear hlv
              refine WT_take (dd := some 85) 9 rfl (by kernel_rfl) (by kernel_rfl) (by kernel_rfl) rfl rfl rfl (fun _wq _hq => r_nilCheck_ptr rfl) hS ?_
              refine WT_take (dd := some 86) 10 rfl (by kernel_rfl) (by kernel_rfl) (by kernel_rfl) rfl rfl rfl (fun _wq _hq => r_fieldAddr (b := _) (o := _) rfl tb_fo65_0) hS ?_
              refine WT_take (dd := some 87) 11 rfl (by kernel_rfl) (by kernel_rfl) (by kernel_rfl) rfl rfl rfl (fun _wq _hq => r_fieldAddr (b := _) (o := _) rfl tb_fo24_3) hS ?_
              refine WT_one (dd := none) 12 (by kernel_rfl) rfl rfl rfl rfl (Y_store1 (v := v16_8) rfl rfl tb_sc22 (SlT.one ho16_8.sl) hrd (by simp) (fun W69 hG70 hm71 => ⟨.inr (by kernel_rfl), ?_⟩))
              replace hls := LsO.grownAt hls hrd hG70 (by decide)
              replace hX := Dx.trans hX (Dx.grown hG70 (by simp) lob)
              replace hB := below_grown hB hG70 hN0 (fun j hj => by cases hj; exact lob)
              replace hit := ItW.grownAt hit hrd hG70
              replace hm5_2 := At.grownAt hm5_2 hrd hG70 (by decide)
              replace hov := OwT.grownAt hov hrd hG70 (by decide)
              replace ho16_8 := OwT.grownAt ho16_8 hrd hG70 (by decide)
              clear hG70 hrd
              have hrd := hm71
              clear hm71
              replace hrd : At _ _ #[_, _, _, _, _, _] _ := hrd
              refine WT_done (by kernel_rfl) ?_
              try clear sv65_hB sv65_hm5_2 sv65_hov
              try clear hrow61
              refine hK58 _ _ ?_
              clear hK58 K57
              refine WC_seq (fun K72 hK73 => ?_)
              refine WC_region ?_
              refine WL_val (dd := some 4) rfl rfl rfl (r_assign (v := .bool true) rfl) ?_
              refine WL_nil ?_
              refine hK73 _ _ ?_
              clear hK73 K72
              refine WC_ret ?_
              repeat (first | refine thenQ_ret ?_ | refine blockQ_ret ?_)
              refine ret_t (v := .bool true) rfl ?_
              exact ⟨hX, .inl ⟨row_y hs3_2 hcub2_1 hs3_16 hc0 hq, rfl, ⟨_, _, hrd, ho16_8, LsO.snoc (l := rowL line) hls rfl hov⟩⟩⟩
            ·
              replace hB := below_grown hB hG53 (Nat.le_refl _) (fun j hj => by cases hj; exact lo_b6_1)
              replace hm2_5 := At.grownItW hm2_5 hit hG53
              replace hm5_2 := At.grownItW hm5_2 hit hG53
              replace hov := OwT.grownItW hov hit hG53
              clear hG53
              replace hit := hm54
              try clear hm54
              refine WL_val (dd := some 55) rfl rfl rfl (r_ext3_0 (h := rfl)) ?_
              refine WL_nil ?_
              refine hK51 _ _ ?_
              clear hK51 K50
              refine WC_seq (fun K74 hK75 => ?_)
              refine WC_cond_true rfl ?_
              refine WC_skip ?_
              refine hK75 _ _ ?_
              clear hK75 K74
              refine WC_block ?_
              refine WC_seq (fun K76 hK77 => ?_)
              refine WC_region ?_
              refine WL_val (dd := some 56) rfl rfl rfl (r_ext3_2 (h := rfl)) ?_
              refine WL_val (dd := some 12) rfl rfl rfl (r_assign (v := .int .i32 _) rfl) ?_
              refine WL_nil ?_
              refine hK77 _ _ ?_
              clear hK77 K76
              refine WC_seq (fun K78 hK79 => ?_)
              refine WC_region ?_
              refine WL_val (dd := some 57) rfl rfl rfl (r_move (v := .int .i32 _) rfl) ?_
              refine WL_nil ?_
              refine hK79 _ _ ?_
              clear hK79 K78
              refine WC_block ?_
              refine WC_seq (fun K80 hK81 => ?_)
              refine WC_seq (fun K82 hK83 => ?_)
              refine WC_region ?_
              refine WL_val (dd := some 59) rfl rfl rfl (r_eql rfl rfl) ?_
              refine WL_val (dd := some 58) rfl rfl rfl (r_assign (v := .bool _) rfl) ?_
              refine WL_nil ?_
              refine hK83 _ _ ?_
              clear hK83 K82
              refine WC_cond (b := _) rfl (fun hc2 => ?_) (fun hc2 => ?_)
              ·
                try with_reducible replace hc2 := dec_t hc2
                refine WC_skip ?_
                refine hK81 _ _ ?_
                clear hK81 K80
                refine WC_cond (b := _) rfl (fun hc3 => ?_) (fun hc3 => ?_)
                ·
                  try with_reducible replace hc3 := dec_t hc3
                  refine WC_region ?_
                  refine WL_val (dd := some 61) rfl rfl rfl (r_fieldAddr (b := _) (o := _) rfl tb_fo45_1) ?_
                  refine WL_val (dd := some 62) rfl rfl rfl (r_load1 (v := ov) rfl tb_sc43 (At.cell hm5_2 rfl)) ?_
                  refine WL_val (dd := some 63) rfl rfl rfl (r_move (v := .int .i32 _) rfl) ?_
                  refine WL_val (dd := some 64) rfl rfl rfl (r_subN32 (n := 48) rfl rfl rfl (by omega) (by omega)) ?_
                  refine WL_val (dd := some 65) rfl rfl rfl (r_convN rfl Tryd.underlying21 Tryd.underlying3 (by simp only [topN]; omega)) ?_
                  refine WL_step (dd := some 66) rfl rfl rfl (Y_lit1 (u := .int .i64 _) rfl tb_el43 tb_zs3 rfl (by decide) (by decide) (fun b13_5 W84 hb85 hE86 hm13_5 => ?_))
                  have lo_b13_5 : W5.heap.size ≤ b13_5 := hb85 ▸ (Below.size hB)
                  have no_ov_b13_5 := OwT.neB (b := b13_5) hov (Nat.le_of_eq hb85.symm)
                  clear hb85
                  replace hB := below_ext hB hE86 (Nat.le_refl _)
                  replace hm2_5 := hE86.at hm2_5
                  replace hit := hE86.itW hit
                  replace hm5_2 := hE86.at hm5_2
                  replace hov := hE86.ow hov
                  clear hE86
                  refine WL_step (dd := some 67) rfl rfl rfl (Y_append (v := ov) (v2 := .slice (some ⟨b13_5, 0, none⟩) 1 1) rfl rfl tb_el43 tb_zs3 (by decide) hov (sl_lit1 hm13_5 rfl) rfl (by have := Below.size hB; omega) (by rw [outsR_len, List.length_take]; omega) (by rw [outsR_len, List.length_take]; omega) (fun v13_6 W87 hG88 ho13_6 => ?_))
                  replace ho13_6 := OwT.snoc (enc := encI) (x := _) rfl rfl rfl rfl ho13_6
                  clear hm13_5
                  replace hB := below_grown hB hG88 (Nat.le_refl _) (fun j hj => (OwT.lt hov j hj))
                  replace hm2_5 := At.grownOw hm2_5 hov hG88 (by decide)
                  replace hit := ItW.grownOw hit hov hG88
                  replace hm5_2 := At.grownOw hm5_2 hov hG88 (by decide)
                  clear hG88
                  clear hov
                  refine WL_val (dd := some 68) rfl rfl rfl (r_fieldAddr (b := _) (o := _) rfl tb_fo45_1) ?_
                  refine WL_step (dd := none) rfl rfl rfl (Y_store1 (v := v13_6) rfl rfl tb_sc43 (SlT.one ho13_6.sl) hm5_2 (by simp) (fun W90 hG91 hm92 => ?_))
                  replace hB := below_grown hB hG91 (Nat.le_refl _) (fun j hj => by cases hj; exact lo_b5_2)
                  replace hm2_5 := At.grownAt hm2_5 hm5_2 hG91 (by decide)
                  replace hit := ItW.grownAt hit hm5_2 hG91
                  replace ho13_6 := OwT.grownAt ho13_6 hm5_2 hG91 (by decide)
                  clear hG91 hm5_2
                  have hm5_2 := hm92
                  clear hm92
                  replace hm5_2 : At _ _ #[_, _, _] _ := hm5_2
                  refine WL_nil ?_
                  have hbn : (byN (Lib.cut line [32]).2.1 i = 49 ∨ byN (Lib.cut line [32]).2.1 i = 48 ∨ byN (Lib.cut line [32]).2.1 i = 45) ∧ nn7_0 = i + 1 := by omega
                  obtain ⟨hb0, hn⟩ := hbn
                  subst hn
                  refine hJ49 _ _ ((i + 1, v13_6)) ?_ ?_ ?_ ?_
                  · repeat (first | exact agree.mask _ _ _ | refine agree.updo ?_ rfl _ | refine agree.updL ?_ _ rfl | refine agree.maskS rfl ?_)
                  · exact trivial
                  · exact ⟨hB, hm2_5, hit, (by exact hm5_2), (by first | (rw [outsR_snoc (by omega) (outR_a (r := rr7_0) (by omega) (by omega))]; exact ho13_6) | (rw [outsR_snoc (by omega) (outR_b (by omega))]; exact ho13_6)), (by omega), (upTo_succ hq (ch_of hb0)), trivial⟩
                  · show (Lib.cut line [32]).2.1.length - (i + 1) < (Lib.cut line [32]).2.1.length - i; omega
                ·
                  try with_reducible replace hc3 := dec_f hc3
                  exact absurd hc2 hc3
              ·
                try with_reducible replace hc2 := dec_f hc2
                refine WC_region ?_
                refine WL_val (dd := some 60) rfl rfl rfl (r_eql rfl rfl) ?_
                refine WL_val (dd := some 58) rfl rfl rfl (r_assign (v := .bool _) rfl) ?_
                refine WL_nil ?_
                refine hK81 _ _ ?_
                clear hK81 K80
                refine WC_cond (b := _) rfl (fun hc3 => ?_) (fun hc3 => ?_)
                ·
                  try with_reducible replace hc3 := dec_t hc3
                  refine WC_region ?_
                  refine WL_val (dd := some 61) rfl rfl rfl (r_fieldAddr (b := _) (o := _) rfl tb_fo45_1) ?_
                  refine WL_val (dd := some 62) rfl rfl rfl (r_load1 (v := ov) rfl tb_sc43 (At.cell hm5_2 rfl)) ?_
                  refine WL_val (dd := some 63) rfl rfl rfl (r_move (v := .int .i32 _) rfl) ?_
                  refine WL_val (dd := some 64) rfl rfl rfl (r_subN32 (n := 48) rfl rfl rfl (by omega) (by omega)) ?_
                  refine WL_val (dd := some 65) rfl rfl rfl (r_convN rfl Tryd.underlying21 Tryd.underlying3 (by simp only [topN]; omega)) ?_
                  refine WL_step (dd := some 66) rfl rfl rfl (Y_lit1 (u := .int .i64 _) rfl tb_el43 tb_zs3 rfl (by decide) (by decide) (fun b13_5 W93 hb94 hE95 hm13_5 => ?_))
                  have lo_b13_5 : W5.heap.size ≤ b13_5 := hb94 ▸ (Below.size hB)
                  have no_ov_b13_5 := OwT.neB (b := b13_5) hov (Nat.le_of_eq hb94.symm)
                  clear hb94
                  replace hB := below_ext hB hE95 (Nat.le_refl _)
                  replace hm2_5 := hE95.at hm2_5
                  replace hit := hE95.itW hit
                  replace hm5_2 := hE95.at hm5_2
                  replace hov := hE95.ow hov
                  clear hE95
                  refine WL_step (dd := some 67) rfl rfl rfl (Y_append (v := ov) (v2 := .slice (some ⟨b13_5, 0, none⟩) 1 1) rfl rfl tb_el43 tb_zs3 (by decide) hov (sl_lit1 hm13_5 rfl) rfl (by have := Below.size hB; omega) (by rw [outsR_len, List.length_take]; omega) (by rw [outsR_len, List.length_take]; omega) (fun v13_6 W96 hG97 ho13_6 => ?_))
                  replace ho13_6 := OwT.snoc (enc := encI) (x := _) rfl rfl rfl rfl ho13_6
                  clear hm13_5
                  replace hB := below_grown hB hG97 (Nat.le_refl _) (fun j hj => (OwT.lt hov j hj))
                  replace hm2_5 := At.grownOw hm2_5 hov hG97 (by decide)
                  replace hit := ItW.grownOw hit hov hG97
                  replace hm5_2 := At.grownOw hm5_2 hov hG97 (by decide)
                  clear hG97
                  clear hov
                  refine WL_val (dd := some 68) rfl rfl rfl (r_fieldAddr (b := _) (o := _) rfl tb_fo45_1) ?_
                  refine WL_step (dd := none) rfl rfl rfl (Y_store1 (v := v13_6) rfl rfl tb_sc43 (SlT.one ho13_6.sl) hm5_2 (by simp) (fun W99 hG100 hm101 => ?_))
                  replace hB := below_grown hB hG100 (Nat.le_refl _) (fun j hj => by cases hj; exact lo_b5_2)
                  replace hm2_5 := At.grownAt hm2_5 hm5_2 hG100 (by decide)
                  replace hit := ItW.grownAt hit hm5_2 hG100
                  replace ho13_6 := OwT.grownAt ho13_6 hm5_2 hG100 (by decide)
                  clear hG100 hm5_2
                  have hm5_2 := hm101
                  clear hm101
                  replace hm5_2 : At _ _ #[_, _, _] _ := hm5_2
                  refine WL_nil ?_
                  have hbn : (byN (Lib.cut line [32]).2.1 i = 49 ∨ byN (Lib.cut line [32]).2.1 i = 48 ∨ byN (Lib.cut line [32]).2.1 i = 45) ∧ nn7_0 = i + 1 := by omega
                  obtain ⟨hb0, hn⟩ := hbn
                  subst hn
                  refine hJ49 _ _ ((i + 1, v13_6)) ?_ ?_ ?_ ?_
                  · repeat (first | exact agree.mask _ _ _ | refine agree.updo ?_ rfl _ | refine agree.updL ?_ _ rfl | refine agree.maskS rfl ?_)
                  · exact trivial
                  · exact ⟨hB, hm2_5, hit, (by exact hm5_2), (by first | (rw [outsR_snoc (by omega) (outR_a (r := rr7_0) (by omega) (by omega))]; exact ho13_6) | (rw [outsR_snoc (by omega) (outR_b (by omega))]; exact ho13_6)), (by omega), (upTo_succ hq (ch_of hb0)), trivial⟩
                  · show (Lib.cut line [32]).2.1.length - (i + 1) < (Lib.cut line [32]).2.1.length - i; omega
                ·
                  try with_reducible replace hc3 := dec_f hc3
                  refine WC_seq (fun K102 hK103 => ?_)
                  refine WC_region ?_
                  refine WL_val (dd := some 70) rfl rfl rfl (r_eql rfl rfl) ?_
                  refine WL_val (dd := some 69) rfl rfl rfl (r_assign (v := .bool _) rfl) ?_
                  refine WL_nil ?_
                  refine hK103 _ _ ?_
                  clear hK103 K102
                  refine WC_cond (b := _) rfl (fun hc4 => ?_) (fun hc4 => ?_)
                  ·
                    try with_reducible replace hc4 := dec_t hc4
                    refine WC_region ?_
                    refine WL_val (dd := some 71) rfl rfl rfl (r_fieldAddr (b := _) (o := _) rfl tb_fo45_1) ?_
                    refine WL_val (dd := some 72) rfl rfl rfl (r_load1 (v := ov) rfl tb_sc43 (At.cell hm5_2 rfl)) ?_
                    refine WL_step (dd := some 73) rfl rfl rfl (Y_lit1 (u := .int .i64 2) rfl tb_el43 tb_zs3 rfl (by decide) (by decide) (fun b15_2 W104 hb105 hE106 hm15_2 => ?_))
                    have lo_b15_2 : W5.heap.size ≤ b15_2 := hb105 ▸ (Below.size hB)
                    have no_ov_b15_2 := OwT.neB (b := b15_2) hov (Nat.le_of_eq hb105.symm)
                    clear hb105
                    replace hB := below_ext hB hE106 (Nat.le_refl _)
                    replace hm2_5 := hE106.at hm2_5
                    replace hit := hE106.itW hit
                    replace hm5_2 := hE106.at hm5_2
                    replace hov := hE106.ow hov
                    clear hE106
                    refine WL_step (dd := some 74) rfl rfl rfl (Y_append (v := ov) (v2 := .slice (some ⟨b15_2, 0, none⟩) 1 1) rfl rfl tb_el43 tb_zs3 (by decide) hov (sl_lit1 hm15_2 rfl) rfl (by have := Below.size hB; omega) (by rw [outsR_len, List.length_take]; omega) (by rw [outsR_len, List.length_take]; omega) (fun v15_3 W107 hG108 ho15_3 => ?_))
                    replace ho15_3 := OwT.snoc (enc := encI) (x := _) rfl rfl rfl rfl ho15_3
                    clear hm15_2
                    replace hB := below_grown hB hG108 (Nat.le_refl _) (fun j hj => (OwT.lt hov j hj))
                    replace hm2_5 := At.grownOw hm2_5 hov hG108 (by decide)
                    replace hit := ItW.grownOw hit hov hG108
                    replace hm5_2 := At.grownOw hm5_2 hov hG108 (by decide)
                    clear hG108
                    clear hov
                    refine WL_val (dd := some 75) rfl rfl rfl (r_fieldAddr (b := _) (o := _) rfl tb_fo45_1) ?_
                    refine WL_step (dd := none) rfl rfl rfl (Y_store1 (v := v15_3) rfl rfl tb_sc43 (SlT.one ho15_3.sl) hm5_2 (by simp) (fun W110 hG111 hm112 => ?_))
                    replace hB := below_grown hB hG111 (Nat.le_refl _) (fun j hj => by cases hj; exact lo_b5_2)
                    replace hm2_5 := At.grownAt hm2_5 hm5_2 hG111 (by decide)
                    replace hit := ItW.grownAt hit hm5_2 hG111
                    replace ho15_3 := OwT.grownAt ho15_3 hm5_2 hG111 (by decide)
                    clear hG111 hm5_2
                    have hm5_2 := hm112
                    clear hm112
                    replace hm5_2 : At _ _ #[_, _, _] _ := hm5_2
                    refine WL_nil ?_
                    have hbn : (byN (Lib.cut line [32]).2.1 i = 49 ∨ byN (Lib.cut line [32]).2.1 i = 48 ∨ byN (Lib.cut line [32]).2.1 i = 45) ∧ nn7_0 = i + 1 := by omega
                    obtain ⟨hb0, hn⟩ := hbn
                    subst hn
                    refine hJ49 _ _ ((i + 1, v15_3)) ?_ ?_ ?_ ?_
                    · repeat (first | exact agree.mask _ _ _ | refine agree.updo ?_ rfl _ | refine agree.updL ?_ _ rfl | refine agree.maskS rfl ?_)
                    · exact trivial
                    · exact ⟨hB, hm2_5, hit, (by exact hm5_2), (by first | (rw [outsR_snoc (by omega) (outR_a (r := rr7_0) (by omega) (by omega))]; exact ho15_3) | (rw [outsR_snoc (by omega) (outR_b (by omega))]; exact ho15_3)), (by omega), (upTo_succ hq (ch_of hb0)), trivial⟩
                    · show (Lib.cut line [32]).2.1.length - (i + 1) < (Lib.cut line [32]).2.1.length - i; omega
                  ·
                    try with_reducible replace hc4 := dec_f hc4
                    refine WC_seq (fun K113 hK114 => ?_)
                    refine WC_region ?_
                    refine WL_val (dd := some 4) rfl rfl rfl (r_assign (v := .bool false) rfl) ?_
                    refine WL_nil ?_
                    refine hK114 _ _ ?_
                    clear hK114 K113
                    refine WC_ret ?_
                    replace hrd := Below.atI hB hrd
                    replace hlv := Below.ow hB hlv
                    replace hls := LsO.below hB hls
                    replace hX := Dx.trans hX (Dx.below hB)
                    clear hm2_5
                    have hzs := Nat.le_trans hN0 (Below.size hBo10)
                    replace lo_b5_2 := Nat.le_trans hzs lo_b5_2
                    replace hov := OwT.mono hov hzs
                    replace hB := Below.trans hBo10 (Below.mono hB hzs)
                    clear hBo10 hzs
                    repeat (first | refine thenQ_ret ?_ | refine blockQ_ret ?_)
                    try clear hJ49 J48
                    try clear hK40 K39
                    refine ret_t (v := .bool false) rfl ?_
                    refine ⟨hX, .inr ⟨?_, rfl, ⟨lv, vs, hrd, hlv, hls⟩⟩⟩
                    first | exact row_n1 hs3_2 | exact row_n2 hcub2_1 | exact row_n3 hs3_16 | exact row_n4 hc0 | exact row_n5 hlt7_0 (rune_no hrr7_0 hc3 hc2 hc4)
  ·
    rw [if_neg hcub2_1] at hP2_1
    obtain rfl := hP2_1
    refine WL_val (dd := some 19) rfl rfl rfl (r_move (v := .tuple #[.agg #[_, _], .int .i64 2]) rfl) ?_
    refine WL_val (dd := some 22) rfl rfl rfl (r_ext2_0 (h := rfl)) ?_
    refine WL_val (dd := some 23) rfl rfl rfl (r_ext2_1 (h := rfl)) ?_
    refine WL_step (dd := some 8) rfl rfl rfl (Y_alloc tb_z42 rfl (fun b2_5 W115 hb116 hE117 hm2_5 => ?_))
    have lo_b2_5 : W5.heap.size ≤ b2_5 := hb116 ▸ (Below.size hB)
    clear hb116
    replace hB := below_ext hB hE117 (Nat.le_refl _)
    clear hE117
    refine WL_step (dd := none) rfl rfl rfl (Y_storeW rfl rfl tb_ag42 rfl hm2_5 rfl (by rfl) (fun W118 hG119 hm120 => ?_))
    replace hB := below_grown hB hG119 (Nat.le_refl _) (fun j hj => by cases hj; exact lo_b2_5)
    clear hG119 hm2_5
    have hm2_5 := hm120
    clear hm120
    refine WL_val (dd := some 9) rfl rfl rfl (r_assign (v := .int .i64 2) rfl) ?_
    refine WL_nil ?_
    refine hK9 _ _ ?_
    clear hK9 K8
    refine WC_seq (fun K121 hK122 => ?_)
    refine WC_seq (fun K123 hK124 => ?_)
    refine WC_region ?_
    refine WL_val (dd := some 24) rfl rfl rfl (r_move (v := .bool _) rfl) ?_
    refine WL_val (dd := some 25) rfl rfl rfl (r_not rfl) ?_
    refine WL_split (dd := some 26) rfl rfl rfl (r_move (v := .bool _) rfl) (fun hs3_2 => ?_) (fun hs3_2 => ?_)
    ·
      try with_reducible replace hs3_2 := dec_t hs3_2
      refine WL_skip (dd := some 27) rfl rfl rfl ?_
      refine WL_skip (dd := some 28) rfl rfl rfl ?_
      refine WL_val (dd := some 29) rfl rfl rfl (r_pick_t rfl (v := .bool true) rfl) ?_
      refine WL_val (dd := some 30) rfl rfl rfl (r_move (v := .bool true) rfl) ?_
      refine WL_skip (dd := some 31) rfl rfl rfl ?_
      refine WL_skip (dd := some 32) rfl rfl rfl ?_
      refine WL_skip (dd := some 33) rfl rfl rfl ?_
      refine WL_skip (dd := some 34) rfl rfl rfl ?_
      refine WL_skip (dd := some 35) rfl rfl rfl ?_
      refine WL_skip (dd := some 36) rfl rfl rfl ?_
      refine WL_skip (dd := some 37) rfl rfl rfl ?_
      refine WL_skip (dd := some 38) rfl rfl rfl ?_
      refine WL_val (dd := some 39) rfl rfl rfl (r_pick_t rfl (v := .bool true) rfl) ?_
      refine WL_val (dd := some 40) rfl rfl rfl (r_move (v := .bool true) rfl) ?_
      refine WL_skip (dd := some 41) rfl rfl rfl ?_
      refine WL_skip (dd := some 42) rfl rfl rfl ?_
      refine WL_skip (dd := some 43) rfl rfl rfl ?_
      refine WL_skip (dd := some 44) rfl rfl rfl ?_
      refine WL_skip (dd := some 45) rfl rfl rfl ?_
      refine WL_skip (dd := some 46) rfl rfl rfl ?_
      refine WL_skip (dd := some 47) rfl rfl rfl ?_
      refine WL_skip (dd := some 48) rfl rfl rfl ?_
      refine WL_val (dd := some 49) rfl rfl rfl (r_pick_t rfl (v := .bool true) rfl) ?_
      refine WL_nil ?_
      refine hK124 _ _ ?_
      clear hK124 K123
      refine WC_cond_true rfl ?_
      refine WC_seq (fun K125 hK126 => ?_)
      refine WC_region ?_
      refine WL_val (dd := some 4) rfl rfl rfl (r_assign (v := .bool false) rfl) ?_
      refine WL_nil ?_
      refine hK126 _ _ ?_
      clear hK126 K125
      refine WC_ret ?_
      replace hrd := Below.atI hB hrd
      replace hlv := Below.ow hB hlv
      replace hls := LsO.below hB hls
      replace hX := Dx.trans hX (Dx.below hB)
      clear hm2_5
      have hzs := Nat.le_trans hN0 (Below.size hBo10)
      replace hB := Below.trans hBo10 (Below.mono hB hzs)
      clear hBo10 hzs
      repeat (first | refine thenQ_ret ?_ | refine blockQ_ret ?_)
      try clear hK122 K121
      refine ret_t (v := .bool false) rfl ?_
      refine ⟨hX, .inr ⟨?_, rfl, ⟨lv, vs, hrd, hlv, hls⟩⟩⟩
      first | exact row_n1 hs3_2 | exact row_n2 hcub2_1 | exact row_n3 hs3_16 | exact row_n4 hc0 | exact row_n5 hlt7_0 (rune_no hrr7_0 hc3 hc2 hc4)
    ·
      try with_reducible replace hs3_2 := dec_f hs3_2
      refine WL_val (dd := some 27) rfl rfl rfl (r_move (v := .int .i64 2) rfl) ?_
      refine WL_val (dd := some 28) rfl rfl rfl (r_neq rfl rfl) ?_
      refine WL_val (dd := some 29) rfl rfl rfl (r_pick_f rfl (v := .bool _) rfl) ?_
      refine WL_split (dd := some 30) rfl rfl rfl (r_move (v := .bool _) rfl) (fun hs3_6 => ?_) (fun hs3_6 => ?_)
      ·
        try with_reducible replace hs3_6 := dec_t hs3_6
        refine WL_skip (dd := some 31) rfl rfl rfl ?_
        refine WL_skip (dd := some 32) rfl rfl rfl ?_
        refine WL_skip (dd := some 33) rfl rfl rfl ?_
        refine WL_skip (dd := some 34) rfl rfl rfl ?_
        refine WL_skip (dd := some 35) rfl rfl rfl ?_
        refine WL_skip (dd := some 36) rfl rfl rfl ?_
        refine WL_skip (dd := some 37) rfl rfl rfl ?_
        refine WL_skip (dd := some 38) rfl rfl rfl ?_
        refine WL_val (dd := some 39) rfl rfl rfl (r_pick_t rfl (v := .bool true) rfl) ?_
        refine WL_val (dd := some 40) rfl rfl rfl (r_move (v := .bool true) rfl) ?_
        refine WL_skip (dd := some 41) rfl rfl rfl ?_
        refine WL_skip (dd := some 42) rfl rfl rfl ?_
        refine WL_skip (dd := some 43) rfl rfl rfl ?_
        refine WL_skip (dd := some 44) rfl rfl rfl ?_
        refine WL_skip (dd := some 45) rfl rfl rfl ?_
        refine WL_skip (dd := some 46) rfl rfl rfl ?_
        refine WL_skip (dd := some 47) rfl rfl rfl ?_
        refine WL_skip (dd := some 48) rfl rfl rfl ?_
        refine WL_val (dd := some 49) rfl rfl rfl (r_pick_t rfl (v := .bool true) rfl) ?_
        refine WL_nil ?_
        refine hK124 _ _ ?_
        clear hK124 K123
        refine WC_cond_true rfl ?_
        refine WC_seq (fun K127 hK128 => ?_)
        refine WC_region ?_
        refine WL_val (dd := some 4) rfl rfl rfl (r_assign (v := .bool false) rfl) ?_
        refine WL_nil ?_
        refine hK128 _ _ ?_
        clear hK128 K127
        refine WC_ret ?_
        replace hrd := Below.atI hB hrd
        replace hlv := Below.ow hB hlv
        replace hls := LsO.below hB hls
        replace hX := Dx.trans hX (Dx.below hB)
        clear hm2_5
        have hzs := Nat.le_trans hN0 (Below.size hBo10)
        replace hB := Below.trans hBo10 (Below.mono hB hzs)
        clear hBo10 hzs
        repeat (first | refine thenQ_ret ?_ | refine blockQ_ret ?_)
        try clear hK122 K121
        refine ret_t (v := .bool false) rfl ?_
        refine ⟨hX, .inr ⟨?_, rfl, ⟨lv, vs, hrd, hlv, hls⟩⟩⟩
        first | exact row_n1 hs3_2 | exact row_n2 hcub2_1 | exact row_n3 hs3_16 | exact row_n4 hc0 | exact row_n5 hlt7_0 (rune_no hrr7_0 hc3 hc2 hc4)
      ·
        try with_reducible replace hs3_6 := dec_f hs3_6
        exact absurd hs3_6 (by decide)

theorem C___pla_reader__take (N br : Nat) (r : Rd) (line : List UInt8) (w : World) (hN0 : N ≤ w.heap.size) (hgl : ∀ W, Below N w W → Gl W) (hl : line.length ≤ 10000) (lob : N ≤ br) (h64 : r.T.ls.length ≤ 64) (hR : RdAt 65 45 3 N w br (r)) :
    FnG Tryd.prog 32 #[.pointer (some ⟨br, 0, none⟩), keyW line] w fun v w' => Dx 45 N [br] w w' ∧ v = .int .i64 (takeT r line).2 ∧ RdAt 65 45 3 N w' br ((takeT r line).1) := by
  refine FnG_intro (n := 154) Tryd.func32 rfl rfl (Nat.le_of_ble_eq_true rfl) ?_
  have hB : Below N w w := Below.refl _ _
  have hX : Dx 45 N [br] w w := Dx.refl
  obtain ⟨lv, vs, hrd, hlv, hls⟩ := hR
  have hlen := hls.len
  refine WC_seq (fun K1 hK2 => ?_)
  refine WC_region ?_
  refine WL_val (dd := some 4) rfl rfl rfl (r_assign (v := .int .i64 0) rfl) ?_
  refine WL_nil ?_
  refine hK2 _ _ ?_
  clear hK2 K1
  refine WC_seq (fun K3 hK4 => ?_)
  refine WC_region ?_
  refine WL_val (dd := some 5) rfl rfl rfl (r_assign (v := .func (.func 51) #[] #[]) rfl) ?_
  refine WL_nil ?_
  refine hK4 _ _ ?_
  clear hK4 K3
  refine WC_seq (fun K5 hK6 => ?_)
  refine WC_seq (fun K7 hK8 => ?_)
  refine WC_region ?_
  refine WL_val (dd := some 12) rfl rfl rfl (r_move (v := .pointer (some ⟨br, 0, none⟩)) rfl) ?_
  refine WL_val (dd := some 13) rfl rfl rfl (r_nilCheck_ptr rfl) ?_
  refine WL_val (dd := some 14) rfl rfl rfl (r_fieldAddr (b := _) (o := _) rfl tb_fo65_1) ?_
  refine WL_val (dd := some 15) rfl rfl rfl (r_load1 (v := .int .i64 _) rfl tb_sc3 (At.cell hrd rfl)) ?_
  refine WL_nil ?_
  refine hK8 _ _ ?_
  clear hK8 K7
  refine WC_block ?_
  refine WC_seq (fun K9 hK10 => ?_)
  refine WC_region ?_
  refine WL_val (dd := some 17) rfl rfl rfl (r_eql rfl rfl) ?_
  refine WL_val (dd := some 16) rfl rfl rfl (r_assign (v := .bool _) rfl) ?_
  refine WL_nil ?_
  refine hK10 _ _ ?_
  clear hK10 K9
  refine WC_cond (b := _) rfl (fun hc0 => ?_) (fun hc0 => ?_)
  ·
    try with_reducible replace hc0 := dec_t hc0
    refine WC_seq (fun K11 hK12 => ?_)
    refine WC_region ?_
    refine WL_val (dd := some 18) rfl rfl rfl (r_move (v := .pointer (some ⟨br, 0, none⟩)) rfl) ?_
    refine WL_val (dd := some 19) rfl rfl rfl (r_move (v := .string _) rfl) ?_
    refine WL_call (dd := some 20) rfl rfl rfl (r_call4 tb_c52 (v0 := .string _) rfl (v1 := .string _) rfl (v2 := .int .i64 0) rfl (v3 := .int .i64 8) rfl) (C_pla_number _ _ _ _ _ (hgl _ hB) (by first | assumption | omega | (simp; omega) | simp) (by first | assumption | omega | (simp; omega) | simp) (by first | assumption | omega)) (fun v4_2 W13 hE14 hP4_2 => ?_)
    have hsz15 := (Nat.le_trans hN0 (Below.size hB))
    replace hrd := hE14.at hrd
    replace hlv := hE14.ow hlv
    replace hls := LsO.ext hE14 hls
    replace hX := Dx.trans hX (Dx.ext hE14)
    replace hB := below_ext hB hE14 hN0
    clear hE14
    clear hsz15
    obtain rfl := hP4_2
    refine WL_val (dd := some 21) rfl rfl rfl (r_nilCheck_ptr rfl) ?_
    refine WL_val (dd := some 22) rfl rfl rfl (r_fieldAddr (b := _) (o := _) rfl tb_fo65_0) ?_
    refine WL_val (dd := some 23) rfl rfl rfl (r_fieldAddr (b := _) (o := _) rfl tb_fo24_1) ?_
    refine WL_step (dd := none) rfl rfl rfl (Y_store1 (v := .int .i64 _) rfl rfl tb_sc3 rfl hrd (by simp) (fun W16 hG17 hm18 => ?_))
    replace hlv := OwT.grownAt hlv hrd hG17 (by decide)
    replace hls := LsO.grownAt hls hrd hG17 (by decide)
    replace hX := Dx.trans hX (Dx.grown hG17 (by simp) lob)
    replace hB := below_grown hB hG17 hN0 (fun j hj => by cases hj; exact lob)
    clear hG17 hrd
    have hrd := hm18
    clear hm18
    replace hrd : At _ _ #[_, _, _, _, _, _] _ := hrd
    refine WL_nil ?_
    refine hK12 _ _ ?_
    clear hK12 K11
    refine WC_seq (fun K19 hK20 => ?_)
    refine WC_region ?_
    refine WL_val (dd := some 24) rfl rfl rfl (r_move (v := .pointer (some ⟨br, 0, none⟩)) rfl) ?_
    refine WL_val (dd := some 25) rfl rfl rfl (r_nilCheck_ptr rfl) ?_
    refine WL_val (dd := some 26) rfl rfl rfl (r_fieldAddr (b := _) (o := _) rfl tb_fo65_1) ?_
    refine WL_val (dd := some 27) rfl rfl rfl (r_load1 (v := .int .i64 _) rfl tb_sc3 (At.cell hrd rfl)) ?_
    refine WL_val (dd := some 28) rfl rfl rfl (r_addI rfl rfl (by omega) (by omega)) ?_
    refine WL_val (dd := some 29) rfl rfl rfl (r_nilCheck_ptr rfl) ?_
    refine WL_val (dd := some 30) rfl rfl rfl (r_fieldAddr (b := _) (o := _) rfl tb_fo65_1) ?_
    refine WL_step (dd := none) rfl rfl rfl (Y_store1 (v := .int .i64 _) rfl rfl tb_sc3 rfl hrd (by simp) (fun W21 hG22 hm23 => ?_))
    replace hlv := OwT.grownAt hlv hrd hG22 (by decide)
    replace hls := LsO.grownAt hls hrd hG22 (by decide)
    replace hX := Dx.trans hX (Dx.grown hG22 (by simp) lob)
    replace hB := below_grown hB hG22 hN0 (fun j hj => by cases hj; exact lob)
    clear hG22 hrd
    have hrd := hm23
    clear hm23
    replace hrd : At _ _ #[_, _, _, _, _, _] _ := hrd
    refine WL_nil ?_
    refine hK20 _ _ ?_
    clear hK20 K19
    refine WC_seq (fun K24 hK25 => ?_)
    refine WC_region ?_
    refine WL_val (dd := some 31) rfl rfl rfl (r_move (v := .func (.func 51) #[] #[]) rfl) ?_
    refine WL_val (dd := some 32) rfl rfl rfl (r_move (v := .pointer (some ⟨br, 0, none⟩)) rfl) ?_
    refine WL_val (dd := some 33) rfl rfl rfl (r_nilCheck_ptr rfl) ?_
    refine WL_val (dd := some 34) rfl rfl rfl (r_fieldAddr (b := _) (o := _) rfl tb_fo65_0) ?_
    refine WL_val (dd := some 35) rfl rfl rfl (r_fieldAddr (b := _) (o := _) rfl tb_fo24_1) ?_
    refine WL_val (dd := some 36) rfl rfl rfl (r_load1 (v := .int .i64 _) rfl tb_sc3 (At.cell hrd rfl)) ?_
    refine WL_val (dd := some 37) rfl rfl rfl (r_geq rfl rfl) ?_
    refine WL_call (dd := some 38) rfl rfl rfl (r_call (q := 51) (first := #[]) (cap := #[]) (vs := #[.bool _]) rfl tb_c51 (by simp only [List.map_toArray, List.map_cons, List.map_nil, List.append_toArray, List.nil_append, List.cons_append]; rfl)) (C___pla_reader__take_1 _ _) (fun v6_7 W26 hE27 hP6_7 => ?_)
    have hsz28 := (Nat.le_trans hN0 (Below.size hB))
    replace hrd := hE27.at hrd
    replace hlv := hE27.ow hlv
    replace hls := LsO.ext hE27 hls
    replace hX := Dx.trans hX (Dx.ext hE27)
    replace hB := below_ext hB hE27 hN0
    clear hE27
    clear hsz28
    obtain rfl := hP6_7
    refine WL_val (dd := some 4) rfl rfl rfl (r_assign (v := .int .i64 _) rfl) ?_
    refine WL_nil ?_
    refine hK25 _ _ ?_
    clear hK25 K24
    refine WC_ret ?_
    repeat (first | refine thenQ_ret ?_ | refine blockQ_ret ?_)
    try clear hK6 K5
    refine ret_t (v := .int .i64 _) rfl ?_
    rw [tk_0 hc0]
    exact ⟨hX, rfl, ⟨lv, vs, hrd, hlv, hls⟩⟩
  ·
    try with_reducible replace hc0 := dec_f hc0
    refine WC_seq (fun K29 hK30 => ?_)
    refine WC_region ?_
    refine WL_val (dd := some 40) rfl rfl rfl (r_eql rfl rfl) ?_
    refine WL_val (dd := some 39) rfl rfl rfl (r_assign (v := .bool _) rfl) ?_
    refine WL_nil ?_
    refine hK30 _ _ ?_
    clear hK30 K29
    refine WC_cond (b := _) rfl (fun hc1 => ?_) (fun hc1 => ?_)
    ·
      try with_reducible replace hc1 := dec_t hc1
      refine WC_seq (fun K31 hK32 => ?_)
      refine WC_region ?_
      refine WL_val (dd := some 41) rfl rfl rfl (r_move (v := .pointer (some ⟨br, 0, none⟩)) rfl) ?_
      refine WL_val (dd := some 42) rfl rfl rfl (r_move (v := .string _) rfl) ?_
      refine WL_call (dd := some 43) rfl rfl rfl (r_call4 tb_c52 (v0 := .string _) rfl (v1 := .string _) rfl (v2 := .int .i64 1) rfl (v3 := .int .i64 4) rfl) (C_pla_number _ _ _ _ _ (hgl _ hB) (by first | assumption | omega | (simp; omega) | simp) (by first | assumption | omega | (simp; omega) | simp) (by first | assumption | omega)) (fun v8_2 W33 hE34 hP8_2 => ?_)
      have hsz35 := (Nat.le_trans hN0 (Below.size hB))
      replace hrd := hE34.at hrd
      replace hlv := hE34.ow hlv
      replace hls := LsO.ext hE34 hls
      replace hX := Dx.trans hX (Dx.ext hE34)
      replace hB := below_ext hB hE34 hN0
      clear hE34
      clear hsz35
      obtain rfl := hP8_2
      refine WL_val (dd := some 44) rfl rfl rfl (r_nilCheck_ptr rfl) ?_
      refine WL_val (dd := some 45) rfl rfl rfl (r_fieldAddr (b := _) (o := _) rfl tb_fo65_0) ?_
      refine WL_val (dd := some 46) rfl rfl rfl (r_fieldAddr (b := _) (o := _) rfl tb_fo24_2) ?_
      refine WL_step (dd := none) rfl rfl rfl (Y_store1 (v := .int .i64 _) rfl rfl tb_sc3 rfl hrd (by simp) (fun W36 hG37 hm38 => ?_))
      replace hlv := OwT.grownAt hlv hrd hG37 (by decide)
      replace hls := LsO.grownAt hls hrd hG37 (by decide)
      replace hX := Dx.trans hX (Dx.grown hG37 (by simp) lob)
      replace hB := below_grown hB hG37 hN0 (fun j hj => by cases hj; exact lob)
      clear hG37 hrd
      have hrd := hm38
      clear hm38
      replace hrd : At _ _ #[_, _, _, _, _, _] _ := hrd
      refine WL_nil ?_
      refine hK32 _ _ ?_
      clear hK32 K31
      refine WC_seq (fun K39 hK40 => ?_)
      refine WC_region ?_
      refine WL_val (dd := some 47) rfl rfl rfl (r_move (v := .pointer (some ⟨br, 0, none⟩)) rfl) ?_
      refine WL_val (dd := some 48) rfl rfl rfl (r_nilCheck_ptr rfl) ?_
      refine WL_val (dd := some 49) rfl rfl rfl (r_fieldAddr (b := _) (o := _) rfl tb_fo65_1) ?_
      refine WL_val (dd := some 50) rfl rfl rfl (r_load1 (v := .int .i64 _) rfl tb_sc3 (At.cell hrd rfl)) ?_
      refine WL_val (dd := some 51) rfl rfl rfl (r_addI rfl rfl (by omega) (by omega)) ?_
      refine WL_val (dd := some 52) rfl rfl rfl (r_nilCheck_ptr rfl) ?_
      refine WL_val (dd := some 53) rfl rfl rfl (r_fieldAddr (b := _) (o := _) rfl tb_fo65_1) ?_
      refine WL_step (dd := none) rfl rfl rfl (Y_store1 (v := .int .i64 _) rfl rfl tb_sc3 rfl hrd (by simp) (fun W41 hG42 hm43 => ?_))
      replace hlv := OwT.grownAt hlv hrd hG42 (by decide)
      replace hls := LsO.grownAt hls hrd hG42 (by decide)
      replace hX := Dx.trans hX (Dx.grown hG42 (by simp) lob)
      replace hB := below_grown hB hG42 hN0 (fun j hj => by cases hj; exact lob)
      clear hG42 hrd
      have hrd := hm43
      clear hm43
      replace hrd : At _ _ #[_, _, _, _, _, _] _ := hrd
      refine WL_nil ?_
      refine hK40 _ _ ?_
      clear hK40 K39
      refine WC_seq (fun K44 hK45 => ?_)
      refine WC_region ?_
      refine WL_val (dd := some 54) rfl rfl rfl (r_move (v := .func (.func 51) #[] #[]) rfl) ?_
      refine WL_val (dd := some 55) rfl rfl rfl (r_move (v := .pointer (some ⟨br, 0, none⟩)) rfl) ?_
      refine WL_val (dd := some 56) rfl rfl rfl (r_nilCheck_ptr rfl) ?_
      refine WL_val (dd := some 57) rfl rfl rfl (r_fieldAddr (b := _) (o := _) rfl tb_fo65_0) ?_
      refine WL_val (dd := some 58) rfl rfl rfl (r_fieldAddr (b := _) (o := _) rfl tb_fo24_2) ?_
      refine WL_val (dd := some 59) rfl rfl rfl (r_load1 (v := .int .i64 _) rfl tb_sc3 (At.cell hrd rfl)) ?_
      refine WL_val (dd := some 60) rfl rfl rfl (r_geq rfl rfl) ?_
      refine WL_call (dd := some 61) rfl rfl rfl (r_call (q := 51) (first := #[]) (cap := #[]) (vs := #[.bool _]) rfl tb_c51 (by simp only [List.map_toArray, List.map_cons, List.map_nil, List.append_toArray, List.nil_append, List.cons_append]; rfl)) (C___pla_reader__take_1 _ _) (fun v10_7 W46 hE47 hP10_7 => ?_)
      have hsz48 := (Nat.le_trans hN0 (Below.size hB))
      replace hrd := hE47.at hrd
      replace hlv := hE47.ow hlv
      replace hls := LsO.ext hE47 hls
      replace hX := Dx.trans hX (Dx.ext hE47)
      replace hB := below_ext hB hE47 hN0
      clear hE47
      clear hsz48
      obtain rfl := hP10_7
      refine WL_val (dd := some 4) rfl rfl rfl (r_assign (v := .int .i64 _) rfl) ?_
      refine WL_nil ?_
      refine hK45 _ _ ?_
      clear hK45 K44
      refine WC_ret ?_
      repeat (first | refine thenQ_ret ?_ | refine blockQ_ret ?_)
      try clear hK6 K5
      refine ret_t (v := .int .i64 _) rfl ?_
      rw [tk_1 hc0 hc1]
      exact ⟨hX, rfl, ⟨lv, vs, hrd, hlv, hls⟩⟩
    ·
      try with_reducible replace hc1 := dec_f hc1
      refine WC_seq (fun K49 hK50 => ?_)
      refine WC_region ?_
      refine WL_val (dd := some 63) rfl rfl rfl (r_eql rfl rfl) ?_
      refine WL_val (dd := some 62) rfl rfl rfl (r_assign (v := .bool _) rfl) ?_
      refine WL_nil ?_
      refine hK50 _ _ ?_
      clear hK50 K49
      refine WC_cond (b := _) rfl (fun hc2 => ?_) (fun hc2 => ?_)
      ·
        try with_reducible replace hc2 := dec_t hc2
        refine WC_seq (fun K51 hK52 => ?_)
        refine WC_region ?_
        refine WL_val (dd := some 4) rfl rfl rfl (r_assign (v := .int .i64 2) rfl) ?_
        refine WL_nil ?_
        refine hK52 _ _ ?_
        clear hK52 K51
        refine WC_ret ?_
        repeat (first | refine thenQ_ret ?_ | refine blockQ_ret ?_)
        try clear hK6 K5
        refine ret_t (v := .int .i64 2) rfl ?_
        rw [tk_5 hc0 hc1 hc2]
        exact ⟨hX, rfl, ⟨lv, vs, hrd, hlv, hls⟩⟩
      ·
        try with_reducible replace hc2 := dec_f hc2
        refine WC_skip ?_
        refine hK6 _ _ ?_
        clear hK6 K5
        refine WC_seq (fun K53 hK54 => ?_)
        refine WC_seq (fun K55 hK56 => ?_)
        refine WC_region ?_
        refine WL_val (dd := some 65) rfl rfl rfl (r_move (v := .string _) rfl) ?_
        refine WL_call (dd := some 66) rfl rfl rfl (r_call2 tb_c53 (v0 := .string _) rfl (v1 := .string _) rfl) (C_strings_CutPrefix _ _ _) (fun v13_1 W57 hE58 hP13_1 => ?_)
        have hsz59 := (Nat.le_trans hN0 (Below.size hB))
        replace hrd := hE58.at hrd
        replace hlv := hE58.ow hlv
        replace hls := LsO.ext hE58 hls
        replace hX := Dx.trans hX (Dx.ext hE58)
        replace hB := below_ext hB hE58 hN0
        clear hE58
        obtain rfl := hP13_1
        clear hsz59
        refine WL_val (dd := some 64) rfl rfl rfl (r_move (v := .tuple #[.string _, .bool _]) rfl) ?_
        refine WL_val (dd := some 67) rfl rfl rfl (r_ext2_0 (h := rfl)) ?_
        refine WL_val (dd := some 68) rfl rfl rfl (r_ext2_1 (h := rfl)) ?_
        refine WL_val (dd := some 6) rfl rfl rfl (r_assign (v := .string _) rfl) ?_
        refine WL_val (dd := some 7) rfl rfl rfl (r_assign (v := .bool _) rfl) ?_
        refine WL_nil ?_
        refine hK56 _ _ ?_
        clear hK56 K55
        refine WC_seq (fun K60 hK61 => ?_)
        refine WC_region ?_
        refine WL_val (dd := some 69) rfl rfl rfl (r_move (v := .bool _) rfl) ?_
        refine WL_split (dd := some 70) rfl rfl rfl (r_move (v := .bool _) rfl) (fun hs14_1 => ?_) (fun hs14_1 => ?_)
        ·
          try with_reducible replace hs14_1 := dec_t hs14_1
          refine WL_val (dd := some 71) rfl rfl rfl (r_move (v := .pointer (some ⟨br, 0, none⟩)) rfl) ?_
          refine WL_val (dd := some 72) rfl rfl rfl (r_nilCheck_ptr rfl) ?_
          refine WL_val (dd := some 73) rfl rfl rfl (r_fieldAddr (b := _) (o := _) rfl tb_fo65_1) ?_
          refine WL_val (dd := some 74) rfl rfl rfl (r_load1 (v := .int .i64 _) rfl tb_sc3 (At.cell hrd rfl)) ?_
          refine WL_val (dd := some 75) rfl rfl rfl (r_eql rfl rfl) ?_
          refine WL_val (dd := some 76) rfl rfl rfl (r_pick_t rfl (v := .bool _) rfl) ?_
          refine WL_nil ?_
          refine hK61 _ _ ?_
          clear hK61 K60
          refine WC_cond (b := _) rfl (fun hc3 => ?_) (fun hc3 => ?_)
          ·
            try with_reducible replace hc3 := dec_t hc3
            refine WC_seq (fun K62 hK63 => ?_)
            refine WC_region ?_
            refine WL_val (dd := some 77) rfl rfl rfl (r_move (v := .pointer (some ⟨br, 0, none⟩)) rfl) ?_
            refine WL_val (dd := some 78) rfl rfl rfl (r_nilCheck_ptr rfl) ?_
            refine WL_val (dd := some 79) rfl rfl rfl (r_fieldAddr (b := _) (o := _) rfl tb_fo65_1) ?_
            refine WL_step (dd := none) rfl rfl rfl (Y_store1 (v := .int .i64 3) rfl rfl tb_sc3 rfl hrd (by simp) (fun W64 hG65 hm66 => ?_))
            replace hlv := OwT.grownAt hlv hrd hG65 (by decide)
            replace hls := LsO.grownAt hls hrd hG65 (by decide)
            replace hX := Dx.trans hX (Dx.grown hG65 (by simp) lob)
            replace hB := below_grown hB hG65 hN0 (fun j hj => by cases hj; exact lob)
            clear hG65 hrd
            have hrd := hm66
            clear hm66
            replace hrd : At _ _ #[_, _, _, _, _, _] _ := hrd
            refine WL_nil ?_
            refine hK63 _ _ ?_
            clear hK63 K62
            refine WC_seq (fun K67 hK68 => ?_)
            refine WC_seq (fun K69 hK70 => ?_)
            refine WC_region ?_
            refine WL_call (dd := some 80) rfl rfl rfl (r_call0 tb_c25) (C_pla_kinds _) (fun v16_0 W71 hE72 hP16_0 => ?_)
            have hsz73 := (Nat.le_trans hN0 (Below.size hB))
            replace hrd := hE72.at hrd
            replace hlv := hE72.ow hlv
            replace hls := LsO.ext hE72 hls
            replace hX := Dx.trans hX (Dx.ext hE72)
            replace hB := below_ext hB hE72 hN0
            clear hE72
            replace hP16_0 := OwT.mono hP16_0 hsz73
            clear hsz73
            refine WL_val (dd := some 81) rfl rfl rfl (r_lenS (v := v16_0) rfl hP16_0.sl tb_el59) ?_
            refine WL_val (dd := some 82) rfl rfl rfl (r_move (v := .int .i64 0) rfl) ?_
            refine WL_nil ?_
            refine hK70 _ _ ?_
            clear hK70 K69
            refine WC_block ?_
            refine WC_loop (σ := (Nat)) [4, 8, 9, 82, 83, 84, 85, 86, 87, 88, 89, 90, 91, 92, 93, 94, 95] (fun i => [(82, .int .i64 (i : Int))]) (fun i W => (At W br _ 65) ∧ (OwT encLn 3 45 W N lv _) ∧ (LsO 3 N W vs (r.T.ls)) ∧ (Dx 45 N [br] w W) ∧ (Below N w W) ∧ (OwT encW 1 9 W N v16_0 _) ∧ (i ≤ 4) ∧ (∀ q, q < i → ¬ kindsL.getD q [] = Lib.trimPrefix line typeW) ∧ (True)) (fun i => 4 - i) (0) ⟨rfl, trivial⟩ ⟨hrd, hlv, hls, hX, hB, hP16_0, (Nat.zero_le _), upTo_zero, trivial⟩ ?_
            clear hrd hlv hls hX hB hP16_0
            rintro i g75 W74 ⟨hrd, hlv, hls, hX, hB, hP16_0, hi, hq, _⟩ J76 hJ77
            refine WC_seq (fun K78 hK79 => ?_)
            refine WC_region ?_
            refine WL_val (dd := some 83) rfl rfl rfl (r_lss rfl rfl) ?_
            refine WL_nil ?_
            refine hK79 _ _ ?_
            clear hK79 K78
            refine WC_seq (fun K80 hK81 => ?_)
            refine WC_cond (b := _) rfl (fun hc4 => ?_) (fun hc4 => ?_)
            ·
              try with_reducible replace hc4 := dec_t hc4
              refine WC_skip ?_
              refine hK81 _ _ ?_
              clear hK81 K80
              refine WC_seq (fun K82 hK83 => ?_)
              refine WC_block ?_
              refine WC_seq (fun K84 hK85 => ?_)
              rw [kindsL_len] at hc4
              refine WC_region ?_
              refine WL_val (dd := some 84) rfl rfl rfl (r_move (v := .int .i64 _) rfl) ?_
              refine WL_val (dd := some 85) rfl rfl rfl (r_idxS (v := v16_0) rfl hP16_0.sl rfl tb_el59 (by omega) (by first | omega | (simp only [kindsL_len]; omega))) ?_
              refine WL_val (dd := some 86) rfl rfl rfl (r_load1 (v := .string _) rfl tb_sc9 (SlT.cell hP16_0.sl encW_len [] (by omega) (by first | omega | (simp only [kindsL_len]; omega)) 0 rfl)) ?_
              refine WL_val (dd := some 8) rfl rfl rfl (r_assign (v := .int .i64 _) rfl) ?_
              refine WL_val (dd := some 9) rfl rfl rfl (r_assign (v := .string _) rfl) ?_
              refine WL_nil ?_
              refine hK85 _ _ ?_
              clear hK85 K84
              refine WC_seq (fun K86 hK87 => ?_)
              refine WC_region ?_
              refine WL_val (dd := some 87) rfl rfl rfl (r_move (v := .string _) rfl) ?_
              refine WL_val (dd := some 88) rfl rfl rfl (r_move (v := .string _) rfl) ?_
              refine WL_val (dd := some 89) rfl rfl rfl (r_eqlW rfl rfl) ?_
              refine WL_nil ?_
              refine hK87 _ _ ?_
              clear hK87 K86
              refine WC_cond (b := _) rfl (fun hc5 => ?_) (fun hc5 => ?_)
              ·
                try with_reducible replace hc5 := dec_t hc5
                refine WC_seq (fun K88 hK89 => ?_)
                refine WC_region ?_
                refine WL_val (dd := some 90) rfl rfl rfl (r_move (v := .pointer (some ⟨br, 0, none⟩)) rfl) ?_
                refine WL_val (dd := some 91) rfl rfl rfl (r_move (v := .int .i64 _) rfl) ?_
                refine WL_val (dd := some 92) rfl rfl rfl (r_nilCheck_ptr rfl) ?_
                refine WL_val (dd := some 93) rfl rfl rfl (r_fieldAddr (b := _) (o := _) rfl tb_fo65_0) ?_
                refine WL_val (dd := some 94) rfl rfl rfl (r_fieldAddr (b := _) (o := _) rfl tb_fo24_0) ?_
                refine WL_step (dd := none) rfl rfl rfl (Y_store1 (v := .int .i64 _) rfl rfl tb_sc3 rfl hrd (by simp) (fun W90 hG91 hm92 => ?_))
                replace hlv := OwT.grownAt hlv hrd hG91 (by decide)
                replace hls := LsO.grownAt hls hrd hG91 (by decide)
                replace hX := Dx.trans hX (Dx.grown hG91 (by simp) lob)
                replace hB := below_grown hB hG91 hN0 (fun j hj => by cases hj; exact lob)
                replace hP16_0 := OwT.grownAt hP16_0 hrd hG91 (by decide)
                clear hG91 hrd
                have hrd := hm92
                clear hm92
                replace hrd : At _ _ #[_, _, _, _, _, _] _ := hrd
                refine WL_nil ?_
                refine hK89 _ _ ?_
                clear hK89 K88
                refine WC_seq (fun K93 hK94 => ?_)
                refine WC_region ?_
                refine WL_val (dd := some 4) rfl rfl rfl (r_assign (v := .int .i64 0) rfl) ?_
                refine WL_nil ?_
                refine hK94 _ _ ?_
                clear hK94 K93
                refine WC_ret ?_
                repeat (first | refine thenQ_ret ?_ | refine blockQ_ret ?_)
                try clear hK83 K82
                try clear hJ77 J76
                try clear hK68 K67
                try clear hK54 K53
                refine ret_t (v := .int .i64 0) rfl ?_
                rw [tk_k (i := i) hc0 hc1 hc2 hs14_1 hc3 (by omega) hc5]
                exact ⟨hX, rfl, ⟨lv, vs, hrd, hlv, hls⟩⟩
              ·
                try with_reducible replace hc5 := dec_f hc5
                refine WC_skip ?_
                refine hK83 _ _ ?_
                clear hK83 K82
                refine WC_region ?_
                refine WL_val (dd := some 95) rfl rfl rfl (r_addI rfl rfl (by omega) (by omega)) ?_
                refine WL_val (dd := some 82) rfl rfl rfl (r_move (v := .int .i64 _) rfl) ?_
                refine WL_nil ?_
                refine hJ77 _ _ (i + 1) ?_ ?_ ?_ ?_
                · repeat (first | exact agree.mask _ _ _ | refine agree.updo ?_ rfl _ | refine agree.updL ?_ _ rfl | refine agree.maskS rfl ?_)
                · exact ⟨rfl, trivial⟩
                · exact ⟨hrd, hlv, hls, hX, hB, hP16_0, (by omega), (upTo_succ hq hc5), trivial⟩
                · first | omega | (dsimp only; omega)
            ·
              try with_reducible replace hc4 := dec_f hc4
              refine WC_exit ?_
              refine hK68 _ _ ?_
              clear hK81 K80
              clear hJ77 J76
              clear hK68 K67
              refine WC_seq (fun K95 hK96 => ?_)
              rw [kindsL_len] at hc4
              refine WC_region ?_
              refine WL_val (dd := some 4) rfl rfl rfl (r_assign (v := .int .i64 2) rfl) ?_
              refine WL_nil ?_
              refine hK96 _ _ ?_
              clear hK96 K95
              refine WC_ret ?_
              repeat (first | refine thenQ_ret ?_ | refine blockQ_ret ?_)
              try clear hK54 K53
              refine ret_t (v := .int .i64 2) rfl ?_
              rw [tk_kn hc0 hc1 hc2 hs14_1 hc3 (fun q hq' => hq q (by omega))]
              exact ⟨hX, rfl, ⟨lv, vs, hrd, hlv, hls⟩⟩
          ·
            try with_reducible replace hc3 := dec_f hc3
            refine WC_skip ?_
            refine hK54 _ _ ?_
            clear hK54 K53
            refine WC_seq (fun K97 hK98 => ?_)
            refine WC_seq (fun K99 hK100 => ?_)
            refine WC_region ?_
            refine WL_val (dd := some 96) rfl rfl rfl (r_move (v := .string _) rfl) ?_
            refine WL_call (dd := some 97) rfl rfl rfl (r_call4 tb_c52 (v0 := .string _) rfl (v1 := .string _) rfl (v2 := .int .i64 0) rfl (v3 := .int .i64 64) rfl) (C_pla_number _ _ _ _ _ (hgl _ hB) (by first | assumption | omega | (simp; omega) | simp) (by first | assumption | omega | (simp; omega) | simp) (by first | assumption | omega)) (fun v24_1 W101 hE102 hP24_1 => ?_)
            have hsz103 := (Nat.le_trans hN0 (Below.size hB))
            replace hrd := hE102.at hrd
            replace hlv := hE102.ow hlv
            replace hls := LsO.ext hE102 hls
            replace hX := Dx.trans hX (Dx.ext hE102)
            replace hB := below_ext hB hE102 hN0
            clear hE102
            clear hsz103
            obtain rfl := hP24_1
            refine WL_val (dd := some 10) rfl rfl rfl (r_assign (v := .int .i64 _) rfl) ?_
            refine WL_nil ?_
            refine hK100 _ _ ?_
            clear hK100 K99
            refine WC_seq (fun K104 hK105 => ?_)
            refine WC_region ?_
            refine WL_val (dd := some 98) rfl rfl rfl (r_move (v := .int .i64 _) rfl) ?_
            refine WL_val (dd := some 99) rfl rfl rfl (r_geq rfl rfl) ?_
            refine WL_split (dd := some 100) rfl rfl rfl (r_move (v := .bool _) rfl) (fun hs25_2 => ?_) (fun hs25_2 => ?_)
            ·
              try with_reducible replace hs25_2 := dec_t hs25_2
              refine WL_val (dd := some 101) rfl rfl rfl (r_move (v := .pointer (some ⟨br, 0, none⟩)) rfl) ?_
              refine WL_val (dd := some 102) rfl rfl rfl (r_nilCheck_ptr rfl) ?_
              refine WL_val (dd := some 103) rfl rfl rfl (r_fieldAddr (b := _) (o := _) rfl tb_fo65_1) ?_
              refine WL_val (dd := some 104) rfl rfl rfl (r_load1 (v := .int .i64 _) rfl tb_sc3 (At.cell hrd rfl)) ?_
              refine WL_val (dd := some 105) rfl rfl rfl (r_leq rfl rfl) ?_
              refine WL_val (dd := some 106) rfl rfl rfl (r_pick_t rfl (v := .bool _) rfl) ?_
              refine WL_nil ?_
              refine hK105 _ _ ?_
              clear hK105 K104
              refine WC_cond (b := _) rfl (fun hc6 => ?_) (fun hc6 => ?_)
              ·
                try with_reducible replace hc6 := dec_t hc6
                refine WC_seq (fun K106 hK107 => ?_)
                refine WC_region ?_
                refine WL_val (dd := some 107) rfl rfl rfl (r_move (v := .pointer (some ⟨br, 0, none⟩)) rfl) ?_
                refine WL_val (dd := some 108) rfl rfl rfl (r_move (v := .pointer (some ⟨br, 0, none⟩)) rfl) ?_
                refine WL_val (dd := some 109) rfl rfl rfl (r_move (v := .int .i64 _) rfl) ?_
                refine WL_val (dd := some 110) rfl rfl rfl (r_nilCheck_ptr rfl) ?_
                refine WL_val (dd := some 111) rfl rfl rfl (r_fieldAddr (b := _) (o := _) rfl tb_fo65_2) ?_
                refine WL_step (dd := none) rfl rfl rfl (Y_store1 (v := .int .i64 _) rfl rfl tb_sc3 rfl hrd (by simp) (fun W108 hG109 hm110 => ?_))
                replace hlv := OwT.grownAt hlv hrd hG109 (by decide)
                replace hls := LsO.grownAt hls hrd hG109 (by decide)
                replace hX := Dx.trans hX (Dx.grown hG109 (by simp) lob)
                replace hB := below_grown hB hG109 hN0 (fun j hj => by cases hj; exact lob)
                clear hG109 hrd
                have hrd := hm110
                clear hm110
                replace hrd : At _ _ #[_, _, _, _, _, _] _ := hrd
                refine WL_val (dd := some 112) rfl rfl rfl (r_nilCheck_ptr rfl) ?_
                refine WL_val (dd := some 113) rfl rfl rfl (r_fieldAddr (b := _) (o := _) rfl tb_fo65_1) ?_
                refine WL_step (dd := none) rfl rfl rfl (Y_store1 (v := .int .i64 4) rfl rfl tb_sc3 rfl hrd (by simp) (fun W111 hG112 hm113 => ?_))
                replace hlv := OwT.grownAt hlv hrd hG112 (by decide)
                replace hls := LsO.grownAt hls hrd hG112 (by decide)
                replace hX := Dx.trans hX (Dx.grown hG112 (by simp) lob)
                replace hB := below_grown hB hG112 hN0 (fun j hj => by cases hj; exact lob)
                clear hG112 hrd
                have hrd := hm113
                clear hm113
                replace hrd : At _ _ #[_, _, _, _, _, _] _ := hrd
                refine WL_nil ?_
                refine hK107 _ _ ?_
                clear hK107 K106
                refine WC_seq (fun K114 hK115 => ?_)
                refine WC_region ?_
                refine WL_val (dd := some 4) rfl rfl rfl (r_assign (v := .int .i64 0) rfl) ?_
                refine WL_nil ?_
                refine hK115 _ _ ?_
                clear hK115 K114
                refine WC_ret ?_
                repeat (first | refine thenQ_ret ?_ | refine blockQ_ret ?_)
                try clear hK98 K97
                refine ret_t (v := .int .i64 0) rfl ?_
                have hpn : ¬ (Lib.hasPrefix line typeW = true ∧ r.st = 2) := by first | exact fun e => hc3 e.2 | exact fun e => Bool.noConfusion (hs14_1.symm.trans e.1)
                first | (rw [tk_p hc0 hc1 hc2 hpn hs25_2 hc6]; exact ⟨hX, rfl, ⟨lv, vs, hrd, hlv, hls⟩⟩) | (have hpp : ¬ (numP line [46, 112] 0 64 ≥ 0 ∧ r.st ≤ 3) := (by first | exact fun e => hc6 e.2 | exact fun e => hs25_2 e.1); first | (rw [tk_e hc0 hc1 hc2 hpn hpp hc7]; refine ⟨hX, congrArg (Value.int .i64) ?_, ⟨lv, vs, hrd, hlv, hls⟩⟩; first | (rw [decide_eq_true hs31_6]; rfl) | (rw [decide_eq_false hs31_6, Bool.false_or, ← hlen]; rfl)) | (rw [tk_r hc0 hc1 hc2 hpn hpp hc7 hrk33_2]; refine ⟨hX, congrArg (Value.int .i64) ?_, hR33_2⟩; first | exact (if_pos (by omega)).symm | exact (if_neg (by omega)).symm) | (rw [tk_rn hc0 hc1 hc2 hpn hpp hc7 hrk33_2]; exact ⟨hX, rfl, hR33_2⟩))
              ·
                try with_reducible replace hc6 := dec_f hc6
                refine WC_skip ?_
                refine hK98 _ _ ?_
                clear hK98 K97
                refine WC_seq (fun K116 hK117 => ?_)
                refine WC_region ?_
                refine WL_val (dd := some 114) rfl rfl rfl (r_move (v := .pointer (some ⟨br, 0, none⟩)) rfl) ?_
                refine WL_val (dd := some 115) rfl rfl rfl (r_nilCheck_ptr rfl) ?_
                refine WL_val (dd := some 116) rfl rfl rfl (r_fieldAddr (b := _) (o := _) rfl tb_fo65_1) ?_
                refine WL_step (dd := none) rfl rfl rfl (Y_store1 (v := .int .i64 4) rfl rfl tb_sc3 rfl hrd (by simp) (fun W118 hG119 hm120 => ?_))
                replace hlv := OwT.grownAt hlv hrd hG119 (by decide)
                replace hls := LsO.grownAt hls hrd hG119 (by decide)
                replace hX := Dx.trans hX (Dx.grown hG119 (by simp) lob)
                replace hB := below_grown hB hG119 hN0 (fun j hj => by cases hj; exact lob)
                clear hG119 hrd
                have hrd := hm120
                clear hm120
                replace hrd : At _ _ #[_, _, _, _, _, _] _ := hrd
                refine WL_nil ?_
                refine hK117 _ _ ?_
                clear hK117 K116
                refine WC_seq (fun K121 hK122 => ?_)
                refine WC_seq (fun K123 hK124 => ?_)
                refine WC_region ?_
                refine WL_val (dd := some 117) rfl rfl rfl (r_move (v := .string _) rfl) ?_
                refine WL_val (dd := some 118) rfl rfl rfl (r_eqlW rfl rfl) ?_
                refine WL_nil ?_
                refine hK124 _ _ ?_
                clear hK124 K123
                refine WC_cond (b := _) rfl (fun hc7 => ?_) (fun hc7 => ?_)
                ·
                  try with_reducible replace hc7 := dec_t hc7
                  refine WC_seq (fun K125 hK126 => ?_)
                  refine WC_region ?_
                  refine WL_val (dd := some 119) rfl rfl rfl (r_move (v := .pointer (some ⟨br, 0, none⟩)) rfl) ?_
                  refine WL_val (dd := some 120) rfl rfl rfl (r_nilCheck_ptr rfl) ?_
                  refine WL_val (dd := some 121) rfl rfl rfl (r_fieldAddr (b := _) (o := _) rfl tb_fo65_1) ?_
                  refine WL_step (dd := none) rfl rfl rfl (Y_store1 (v := .int .i64 5) rfl rfl tb_sc3 rfl hrd (by simp) (fun W127 hG128 hm129 => ?_))
                  replace hlv := OwT.grownAt hlv hrd hG128 (by decide)
                  replace hls := LsO.grownAt hls hrd hG128 (by decide)
                  replace hX := Dx.trans hX (Dx.grown hG128 (by simp) lob)
                  replace hB := below_grown hB hG128 hN0 (fun j hj => by cases hj; exact lob)
                  clear hG128 hrd
                  have hrd := hm129
                  clear hm129
                  replace hrd : At _ _ #[_, _, _, _, _, _] _ := hrd
                  refine WL_nil ?_
                  refine hK126 _ _ ?_
                  clear hK126 K125
                  refine WC_seq (fun K130 hK131 => ?_)
                  refine WC_draw Ext tb_mix (fun W132 hE133 => ?_)
                  replace hrd := hE133.at hrd
                  replace hlv := hE133.ow hlv
                  replace hls := LsO.ext hE133 hls
                  replace hX := Dx.trans hX (Dx.ext hE133)
                  replace hB := below_ext hB hE133 hN0
                  have hS := Ext.refl W132
                  refine WT_take (dd := some 122) 0 rfl (by kernel_rfl) (by kernel_rfl) (by kernel_rfl) rfl rfl rfl (fun _wq _hq => r_move (v := .func (.func 51) #[] #[]) rfl) hS ?_
                  refine WT_take (dd := some 123) 1 rfl (by kernel_rfl) (by kernel_rfl) (by kernel_rfl) rfl rfl rfl (fun _wq _hq => r_move (v := .pointer (some ⟨br, 0, none⟩)) rfl) hS ?_
                  refine WT_take (dd := some 124) 2 rfl (by kernel_rfl) (by kernel_rfl) (by kernel_rfl) rfl rfl rfl (fun _wq _hq => r_nilCheck_ptr rfl) hS ?_
                  refine WT_take (dd := some 125) 3 rfl (by kernel_rfl) (by kernel_rfl) (by kernel_rfl) rfl rfl rfl (fun _wq _hq => r_fieldAddr (b := _) (o := _) rfl tb_fo65_2) hS ?_
                  refine WT_take (dd := some 126) 4 rfl (by kernel_rfl) (by kernel_rfl) (by kernel_rfl) rfl rfl rfl (fun _wq hq => r_load1 (v := .int .i64 _) rfl tb_sc3 (At.cell (hq.at hrd) rfl)) hS ?_
                  refine WT_take (dd := some 127) 5 rfl (by kernel_rfl) (by kernel_rfl) (by kernel_rfl) rfl rfl rfl (fun _wq _hq => r_lss rfl rfl) hS ?_
                  refine WT_split (dd := some 128) 6 rfl (by kernel_rfl) (by kernel_rfl) (by kernel_rfl) rfl rfl rfl (fun wq hq => r_move (v := .bool _) rfl) hS (fun hs31_6 => ?_) (fun hs31_6 => ?_)
                  ·
                    try with_reducible replace hs31_6 := dec_t hs31_6
                    refine WT_pass (dd := some 129) 7 rfl (by kernel_rfl) (by kernel_rfl) (by kernel_rfl) rfl rfl rfl hS ?_
                    refine WT_pass (dd := some 130) 8 rfl (by kernel_rfl) (by kernel_rfl) (by kernel_rfl) rfl rfl rfl hS ?_
                    refine WT_pass (dd := some 131) 9 rfl (by kernel_rfl) (by kernel_rfl) (by kernel_rfl) rfl rfl rfl hS ?_
                    refine WT_pass (dd := some 132) 10 rfl (by kernel_rfl) (by kernel_rfl) (by kernel_rfl) rfl rfl rfl hS ?_
                    refine WT_pass (dd := some 133) 11 rfl (by kernel_rfl) (by kernel_rfl) (by kernel_rfl) rfl rfl rfl hS ?_
                    refine WT_pass (dd := some 134) 12 rfl (by kernel_rfl) (by kernel_rfl) (by kernel_rfl) rfl rfl rfl hS ?_
                    refine WT_pass (dd := some 135) 13 rfl (by kernel_rfl) (by kernel_rfl) (by kernel_rfl) rfl rfl rfl hS ?_
                    refine WT_pass (dd := some 136) 14 rfl (by kernel_rfl) (by kernel_rfl) (by kernel_rfl) rfl rfl rfl hS ?_
                    refine WT_pass (dd := some 137) 15 rfl (by kernel_rfl) (by kernel_rfl) (by kernel_rfl) rfl rfl rfl hS ?_
                    refine WT_pass (dd := some 138) 16 rfl (by kernel_rfl) (by kernel_rfl) (by kernel_rfl) rfl rfl rfl hS ?_
                    refine WT_pass (dd := some 139) 17 rfl (by kernel_rfl) (by kernel_rfl) (by kernel_rfl) rfl rfl rfl hS ?_
                    refine WT_take (dd := some 140) 18 rfl (by kernel_rfl) (by kernel_rfl) (by kernel_rfl) rfl rfl rfl (fun _wq _hq => r_pick_t rfl (v := .bool true) rfl) hS ?_
                    refine WT_one (dd := some 141) 19 (by kernel_rfl) rfl rfl rfl rfl (Yd.call (r_call (q := 51) (first := #[]) (cap := #[]) (vs := #[.bool true]) rfl tb_c51 (by simp only [List.map_toArray, List.map_cons, List.map_nil, List.append_toArray, List.nil_append, List.cons_append]; rfl)) (C___pla_reader__take_1 _ _) (fun v31_19 W134 hE135 hP31_19 => ⟨.inl (hS.trans hE135), ?_⟩))
                    have hsz136 := (Nat.le_trans hN0 (Below.size hB))
                    have sv137_hrd := hrd
                    have sv137_hlv := hlv
                    have sv137_hB := hB
                    replace hrd := hE135.at hrd
                    replace hlv := hE135.ow hlv
                    replace hls := LsO.ext hE135 hls
                    replace hX := Dx.trans hX (Dx.ext hE135)
                    replace hB := below_ext hB hE135 hN0
                    replace hS := hS.trans hE135
                    clear hE135
                    clear hsz136
                    obtain rfl := hP31_19
                    refine WT_take (dd := some 4) 20 rfl (by kernel_rfl) (by kernel_rfl) (by kernel_rfl) rfl rfl rfl (fun _wq _hq => r_assign (v := .int .i64 _) rfl) hS ?_
                    refine WT_done (by kernel_rfl) ?_
                    try clear sv137_hrd sv137_hlv sv137_hB
                    refine hK131 _ _ ?_
                    clear hK131 K130
                    refine WC_ret ?_
                    repeat (first | refine thenQ_ret ?_ | refine blockQ_ret ?_)
                    try clear hK122 K121
                    refine ret_t (v := .int .i64 _) rfl ?_
                    have hpn : ¬ (Lib.hasPrefix line typeW = true ∧ r.st = 2) := by first | exact fun e => hc3 e.2 | exact fun e => Bool.noConfusion (hs14_1.symm.trans e.1)
                    first | (rw [tk_p hc0 hc1 hc2 hpn hs25_2 hc6]; exact ⟨hX, rfl, ⟨lv, vs, hrd, hlv, hls⟩⟩) | (have hpp : ¬ (numP line [46, 112] 0 64 ≥ 0 ∧ r.st ≤ 3) := (by first | exact fun e => hc6 e.2 | exact fun e => hs25_2 e.1); first | (rw [tk_e hc0 hc1 hc2 hpn hpp hc7]; refine ⟨hX, congrArg (Value.int .i64) ?_, ⟨lv, vs, hrd, hlv, hls⟩⟩; first | (rw [decide_eq_true hs31_6]; rfl) | (rw [decide_eq_false hs31_6, Bool.false_or, ← hlen]; rfl)) | (rw [tk_r hc0 hc1 hc2 hpn hpp hc7 hrk33_2]; refine ⟨hX, congrArg (Value.int .i64) ?_, hR33_2⟩; first | exact (if_pos (by omega)).symm | exact (if_neg (by omega)).symm) | (rw [tk_rn hc0 hc1 hc2 hpn hpp hc7 hrk33_2]; exact ⟨hX, rfl, hR33_2⟩))
                  ·
                    try with_reducible replace hs31_6 := dec_f hs31_6
                    refine WT_take (dd := some 129) 7 rfl (by kernel_rfl) (by kernel_rfl) (by kernel_rfl) rfl rfl rfl (fun _wq _hq => r_move (v := .pointer (some ⟨br, 0, none⟩)) rfl) hS ?_
                    refine WT_take (dd := some 130) 8 rfl (by kernel_rfl) (by kernel_rfl) (by kernel_rfl) rfl rfl rfl (fun _wq _hq => r_nilCheck_ptr rfl) hS ?_
                    refine WT_take (dd := some 131) 9 rfl (by kernel_rfl) (by kernel_rfl) (by kernel_rfl) rfl rfl rfl (fun _wq _hq => r_fieldAddr (b := _) (o := _) rfl tb_fo65_2) hS ?_
                    refine WT_take (dd := some 132) 10 rfl (by kernel_rfl) (by kernel_rfl) (by kernel_rfl) rfl rfl rfl (fun _wq hq => r_load1 (v := .int .i64 _) rfl tb_sc3 (At.cell (hq.at hrd) rfl)) hS ?_
                    refine WT_take (dd := some 133) 11 rfl (by kernel_rfl) (by kernel_rfl) (by kernel_rfl) rfl rfl rfl (fun _wq _hq => r_move (v := .pointer (some ⟨br, 0, none⟩)) rfl) hS ?_
                    refine WT_take (dd := some 134) 12 rfl (by kernel_rfl) (by kernel_rfl) (by kernel_rfl) rfl rfl rfl (fun _wq _hq => r_nilCheck_ptr rfl) hS ?_
                    refine WT_take (dd := some 135) 13 rfl (by kernel_rfl) (by kernel_rfl) (by kernel_rfl) rfl rfl rfl (fun _wq _hq => r_fieldAddr (b := _) (o := _) rfl tb_fo65_0) hS ?_
                    refine WT_take (dd := some 136) 14 rfl (by kernel_rfl) (by kernel_rfl) (by kernel_rfl) rfl rfl rfl (fun _wq _hq => r_fieldAddr (b := _) (o := _) rfl tb_fo24_3) hS ?_
                    refine WT_take (dd := some 137) 15 rfl (by kernel_rfl) (by kernel_rfl) (by kernel_rfl) rfl rfl rfl (fun _wq hq => r_load1 (v := lv) rfl tb_sc22 (At.cell (hq.at hrd) rfl)) hS ?_
                    refine WT_take (dd := some 138) 16 rfl (by kernel_rfl) (by kernel_rfl) (by kernel_rfl) rfl rfl rfl (fun _wq hq => r_lenS (v := lv) rfl ((hq.ow hlv)).sl tb_el22) hS ?_
                    refine WT_take (dd := some 139) 17 rfl (by kernel_rfl) (by kernel_rfl) (by kernel_rfl) rfl rfl rfl (fun _wq _hq => r_eql rfl rfl) hS ?_
                    refine WT_take (dd := some 140) 18 rfl (by kernel_rfl) (by kernel_rfl) (by kernel_rfl) rfl rfl rfl (fun _wq _hq => r_pick_f rfl (v := .bool _) rfl) hS ?_
                    refine WT_one (dd := some 141) 19 (by kernel_rfl) rfl rfl rfl rfl (Yd.call (r_call (q := 51) (first := #[]) (cap := #[]) (vs := #[.bool _]) rfl tb_c51 (by simp only [List.map_toArray, List.map_cons, List.map_nil, List.append_toArray, List.nil_append, List.cons_append]; rfl)) (C___pla_reader__take_1 _ _) (fun v31_19 W138 hE139 hP31_19 => ⟨.inl (hS.trans hE139), ?_⟩))
                    have hsz140 := (Nat.le_trans hN0 (Below.size hB))
                    have sv141_hrd := hrd
                    have sv141_hlv := hlv
                    have sv141_hB := hB
                    replace hrd := hE139.at hrd
                    replace hlv := hE139.ow hlv
                    replace hls := LsO.ext hE139 hls
                    replace hX := Dx.trans hX (Dx.ext hE139)
                    replace hB := below_ext hB hE139 hN0
                    replace hS := hS.trans hE139
                    clear hE139
                    clear hsz140
                    obtain rfl := hP31_19
                    refine WT_take (dd := some 4) 20 rfl (by kernel_rfl) (by kernel_rfl) (by kernel_rfl) rfl rfl rfl (fun _wq _hq => r_assign (v := .int .i64 _) rfl) hS ?_
                    refine WT_done (by kernel_rfl) ?_
                    try clear sv141_hrd sv141_hlv sv141_hB
                    refine hK131 _ _ ?_
                    clear hK131 K130
                    refine WC_ret ?_
                    repeat (first | refine thenQ_ret ?_ | refine blockQ_ret ?_)
                    try clear hK122 K121
                    refine ret_t (v := .int .i64 _) rfl ?_
                    have hpn : ¬ (Lib.hasPrefix line typeW = true ∧ r.st = 2) := by first | exact fun e => hc3 e.2 | exact fun e => Bool.noConfusion (hs14_1.symm.trans e.1)
                    first | (rw [tk_p hc0 hc1 hc2 hpn hs25_2 hc6]; exact ⟨hX, rfl, ⟨lv, vs, hrd, hlv, hls⟩⟩) | (have hpp : ¬ (numP line [46, 112] 0 64 ≥ 0 ∧ r.st ≤ 3) := (by first | exact fun e => hc6 e.2 | exact fun e => hs25_2 e.1); first | (rw [tk_e hc0 hc1 hc2 hpn hpp hc7]; refine ⟨hX, congrArg (Value.int .i64) ?_, ⟨lv, vs, hrd, hlv, hls⟩⟩; first | (rw [decide_eq_true hs31_6]; rfl) | (rw [decide_eq_false hs31_6, Bool.false_or, ← hlen]; rfl)) | (rw [tk_r hc0 hc1 hc2 hpn hpp hc7 hrk33_2]; refine ⟨hX, congrArg (Value.int .i64) ?_, hR33_2⟩; first | exact (if_pos (by omega)).symm | exact (if_neg (by omega)).symm) | (rw [tk_rn hc0 hc1 hc2 hpn hpp hc7 hrk33_2]; exact ⟨hX, rfl, hR33_2⟩))
                ·
                  try with_reducible replace hc7 := dec_f hc7
                  refine WC_skip ?_
                  refine hK122 _ _ ?_
                  clear hK122 K121
                  refine WC_seq (fun K142 hK143 => ?_)
                  refine WC_region ?_
                  refine WL_val (dd := some 142) rfl rfl rfl (r_move (v := .pointer (some ⟨br, 0, none⟩)) rfl) ?_
                  refine WL_val (dd := some 143) rfl rfl rfl (r_nilCheck_ptr rfl) ?_
                  refine WL_val (dd := some 144) rfl rfl rfl (r_fieldAddr (b := _) (o := _) rfl tb_fo65_0) ?_
                  refine WL_val (dd := some 145) rfl rfl rfl (r_fieldAddr (b := _) (o := _) rfl tb_fo24_3) ?_
                  refine WL_val (dd := some 146) rfl rfl rfl (r_load1 (v := lv) rfl tb_sc22 (At.cell hrd rfl)) ?_
                  refine WL_val (dd := some 147) rfl rfl rfl (r_lenS (v := lv) rfl hlv.sl tb_el22) ?_
                  refine WL_val (dd := some 148) rfl rfl rfl (r_eql rfl rfl) ?_
                  refine WL_val (dd := some 11) rfl rfl rfl (r_assign (v := .bool _) rfl) ?_
                  refine WL_nil ?_
                  refine hK143 _ _ ?_
                  clear hK143 K142
                  refine WC_seq (fun K144 hK145 => ?_)
                  refine WC_seq (fun K146 hK147 => ?_)
                  refine WC_region ?_
                  refine WL_val (dd := some 149) rfl rfl rfl (r_move (v := .pointer (some ⟨br, 0, none⟩)) rfl) ?_
                  refine WL_val (dd := some 150) rfl rfl rfl (r_move (v := .string _) rfl) ?_
                  refine WL_callG (dd := some 151) rfl rfl rfl (r_call2 tb_c54 (v0 := .pointer (some ⟨br, 0, none⟩)) rfl (v1 := .string _) rfl) (C___pla_reader__row N br ⟨r.T, 4, r.told⟩ line _ (Nat.le_trans hN0 (Below.size hB)) (fun _ h => hgl _ (Below.trans hB h)) hl lob h64 ⟨lv, vs, hrd, hlv, hls⟩) (fun v33_2 W148 hP33_2 => ?_)
                  obtain ⟨hX33_2, hP33_2⟩ := hP33_2
                  replace hB := Below.dx hB (Nat.le_refl _) hN0 hX33_2
                  replace hX := hX.trans hX33_2
                  clear hrd
                  clear hlv
                  clear hls
                  rcases hP33_2 with hP33_2 | hP33_2
                  ·
                    obtain ⟨hrk33_2, rfl, hR33_2⟩ := hP33_2
                    refine WL_val (dd := some 152) rfl rfl rfl (r_not rfl) ?_
                    refine WL_nil ?_
                    refine hK147 _ _ ?_
                    clear hK147 K146
                    refine WC_cond_false rfl ?_
                    refine WC_skip ?_
                    refine hK145 _ _ ?_
                    clear hK145 K144
                    refine WC_seq (fun K150 hK151 => ?_)
                    refine WC_seq (fun K152 hK153 => ?_)
                    refine WC_region ?_
                    refine WL_val (dd := some 153) rfl rfl rfl (r_move (v := .bool _) rfl) ?_
                    refine WL_nil ?_
                    refine hK153 _ _ ?_
                    clear hK153 K152
                    refine WC_cond (b := _) rfl (fun hc9 => ?_) (fun hc9 => ?_)
                    ·
                      try with_reducible replace hc9 := dec_t hc9
                      refine WC_seq (fun K154 hK155 => ?_)
                      refine WC_region ?_
                      refine WL_val (dd := some 4) rfl rfl rfl (r_assign (v := .int .i64 3) rfl) ?_
                      refine WL_nil ?_
                      refine hK155 _ _ ?_
                      clear hK155 K154
                      refine WC_ret ?_
                      repeat (first | refine thenQ_ret ?_ | refine blockQ_ret ?_)
                      try clear hK151 K150
                      refine ret_t (v := .int .i64 3) rfl ?_
                      have hpn : ¬ (Lib.hasPrefix line typeW = true ∧ r.st = 2) := by first | exact fun e => hc3 e.2 | exact fun e => Bool.noConfusion (hs14_1.symm.trans e.1)
                      first | (rw [tk_p hc0 hc1 hc2 hpn hs25_2 hc6]; exact ⟨hX, rfl, ⟨lv, vs, hrd, hlv, hls⟩⟩) | (have hpp : ¬ (numP line [46, 112] 0 64 ≥ 0 ∧ r.st ≤ 3) := (by first | exact fun e => hc6 e.2 | exact fun e => hs25_2 e.1); first | (rw [tk_e hc0 hc1 hc2 hpn hpp hc7]; refine ⟨hX, congrArg (Value.int .i64) ?_, ⟨lv, vs, hrd, hlv, hls⟩⟩; first | (rw [decide_eq_true hs31_6]; rfl) | (rw [decide_eq_false hs31_6, Bool.false_or, ← hlen]; rfl)) | (rw [tk_r hc0 hc1 hc2 hpn hpp hc7 hrk33_2]; refine ⟨hX, congrArg (Value.int .i64) ?_, hR33_2⟩; first | exact (if_pos (by omega)).symm | exact (if_neg (by omega)).symm) | (rw [tk_rn hc0 hc1 hc2 hpn hpp hc7 hrk33_2]; exact ⟨hX, rfl, hR33_2⟩))
                    ·
                      try with_reducible replace hc9 := dec_f hc9
                      refine WC_skip ?_
                      refine hK151 _ _ ?_
                      clear hK151 K150
                      refine WC_seq (fun K156 hK157 => ?_)
                      refine WC_region ?_
                      refine WL_val (dd := some 4) rfl rfl rfl (r_assign (v := .int .i64 0) rfl) ?_
                      refine WL_nil ?_
                      refine hK157 _ _ ?_
                      clear hK157 K156
                      refine WC_ret ?_
                      repeat (first | refine thenQ_ret ?_ | refine blockQ_ret ?_)
                      refine ret_t (v := .int .i64 0) rfl ?_
                      have hpn : ¬ (Lib.hasPrefix line typeW = true ∧ r.st = 2) := by first | exact fun e => hc3 e.2 | exact fun e => Bool.noConfusion (hs14_1.symm.trans e.1)
                      first | (rw [tk_p hc0 hc1 hc2 hpn hs25_2 hc6]; exact ⟨hX, rfl, ⟨lv, vs, hrd, hlv, hls⟩⟩) | (have hpp : ¬ (numP line [46, 112] 0 64 ≥ 0 ∧ r.st ≤ 3) := (by first | exact fun e => hc6 e.2 | exact fun e => hs25_2 e.1); first | (rw [tk_e hc0 hc1 hc2 hpn hpp hc7]; refine ⟨hX, congrArg (Value.int .i64) ?_, ⟨lv, vs, hrd, hlv, hls⟩⟩; first | (rw [decide_eq_true hs31_6]; rfl) | (rw [decide_eq_false hs31_6, Bool.false_or, ← hlen]; rfl)) | (rw [tk_r hc0 hc1 hc2 hpn hpp hc7 hrk33_2]; refine ⟨hX, congrArg (Value.int .i64) ?_, hR33_2⟩; first | exact (if_pos (by omega)).symm | exact (if_neg (by omega)).symm) | (rw [tk_rn hc0 hc1 hc2 hpn hpp hc7 hrk33_2]; exact ⟨hX, rfl, hR33_2⟩))
                  ·
                    obtain ⟨hrk33_2, rfl, hR33_2⟩ := hP33_2
                    refine WL_val (dd := some 152) rfl rfl rfl (r_not rfl) ?_
                    refine WL_nil ?_
                    refine hK147 _ _ ?_
                    clear hK147 K146
                    refine WC_cond_true rfl ?_
                    refine WC_seq (fun K158 hK159 => ?_)
                    refine WC_region ?_
                    refine WL_val (dd := some 4) rfl rfl rfl (r_assign (v := .int .i64 2) rfl) ?_
                    refine WL_nil ?_
                    refine hK159 _ _ ?_
                    clear hK159 K158
                    refine WC_ret ?_
                    repeat (first | refine thenQ_ret ?_ | refine blockQ_ret ?_)
                    try clear hK145 K144
                    refine ret_t (v := .int .i64 2) rfl ?_
                    have hpn : ¬ (Lib.hasPrefix line typeW = true ∧ r.st = 2) := by first | exact fun e => hc3 e.2 | exact fun e => Bool.noConfusion (hs14_1.symm.trans e.1)
                    first | (rw [tk_p hc0 hc1 hc2 hpn hs25_2 hc6]; exact ⟨hX, rfl, ⟨lv, vs, hrd, hlv, hls⟩⟩) | (have hpp : ¬ (numP line [46, 112] 0 64 ≥ 0 ∧ r.st ≤ 3) := (by first | exact fun e => hc6 e.2 | exact fun e => hs25_2 e.1); first | (rw [tk_e hc0 hc1 hc2 hpn hpp hc7]; refine ⟨hX, congrArg (Value.int .i64) ?_, ⟨lv, vs, hrd, hlv, hls⟩⟩; first | (rw [decide_eq_true hs31_6]; rfl) | (rw [decide_eq_false hs31_6, Bool.false_or, ← hlen]; rfl)) | (rw [tk_r hc0 hc1 hc2 hpn hpp hc7 hrk33_2]; refine ⟨hX, congrArg (Value.int .i64) ?_, hR33_2⟩; first | exact (if_pos (by omega)).symm | exact (if_neg (by omega)).symm) | (rw [tk_rn hc0 hc1 hc2 hpn hpp hc7 hrk33_2]; exact ⟨hX, rfl, hR33_2⟩))
            ·
              try with_reducible replace hs25_2 := dec_f hs25_2
              refine WL_skip (dd := some 101) rfl rfl rfl ?_
              refine WL_skip (dd := some 102) rfl rfl rfl ?_
              refine WL_skip (dd := some 103) rfl rfl rfl ?_
              refine WL_skip (dd := some 104) rfl rfl rfl ?_
              refine WL_skip (dd := some 105) rfl rfl rfl ?_
              refine WL_val (dd := some 106) rfl rfl rfl (r_pick_f rfl (v := .bool false) rfl) ?_
              refine WL_nil ?_
              refine hK105 _ _ ?_
              clear hK105 K104
              refine WC_cond_false rfl ?_
              refine WC_skip ?_
              refine hK98 _ _ ?_
              clear hK98 K97
              refine WC_seq (fun K160 hK161 => ?_)
              refine WC_region ?_
              refine WL_val (dd := some 114) rfl rfl rfl (r_move (v := .pointer (some ⟨br, 0, none⟩)) rfl) ?_
              refine WL_val (dd := some 115) rfl rfl rfl (r_nilCheck_ptr rfl) ?_
              refine WL_val (dd := some 116) rfl rfl rfl (r_fieldAddr (b := _) (o := _) rfl tb_fo65_1) ?_
              refine WL_step (dd := none) rfl rfl rfl (Y_store1 (v := .int .i64 4) rfl rfl tb_sc3 rfl hrd (by simp) (fun W162 hG163 hm164 => ?_))
              replace hlv := OwT.grownAt hlv hrd hG163 (by decide)
              replace hls := LsO.grownAt hls hrd hG163 (by decide)
              replace hX := Dx.trans hX (Dx.grown hG163 (by simp) lob)
              replace hB := below_grown hB hG163 hN0 (fun j hj => by cases hj; exact lob)
              clear hG163 hrd
              have hrd := hm164
              clear hm164
              replace hrd : At _ _ #[_, _, _, _, _, _] _ := hrd
              refine WL_nil ?_
              refine hK161 _ _ ?_
              clear hK161 K160
              refine WC_seq (fun K165 hK166 => ?_)
              refine WC_seq (fun K167 hK168 => ?_)
              refine WC_region ?_
              refine WL_val (dd := some 117) rfl rfl rfl (r_move (v := .string _) rfl) ?_
              refine WL_val (dd := some 118) rfl rfl rfl (r_eqlW rfl rfl) ?_
              refine WL_nil ?_
              refine hK168 _ _ ?_
              clear hK168 K167
              refine WC_cond (b := _) rfl (fun hc7 => ?_) (fun hc7 => ?_)
              ·
                try with_reducible replace hc7 := dec_t hc7
                refine WC_seq (fun K169 hK170 => ?_)
                refine WC_region ?_
                refine WL_val (dd := some 119) rfl rfl rfl (r_move (v := .pointer (some ⟨br, 0, none⟩)) rfl) ?_
                refine WL_val (dd := some 120) rfl rfl rfl (r_nilCheck_ptr rfl) ?_
                refine WL_val (dd := some 121) rfl rfl rfl (r_fieldAddr (b := _) (o := _) rfl tb_fo65_1) ?_
                refine WL_step (dd := none) rfl rfl rfl (Y_store1 (v := .int .i64 5) rfl rfl tb_sc3 rfl hrd (by simp) (fun W171 hG172 hm173 => ?_))
                replace hlv := OwT.grownAt hlv hrd hG172 (by decide)
                replace hls := LsO.grownAt hls hrd hG172 (by decide)
                replace hX := Dx.trans hX (Dx.grown hG172 (by simp) lob)
                replace hB := below_grown hB hG172 hN0 (fun j hj => by cases hj; exact lob)
                clear hG172 hrd
                have hrd := hm173
                clear hm173
                replace hrd : At _ _ #[_, _, _, _, _, _] _ := hrd
                refine WL_nil ?_
                refine hK170 _ _ ?_
                clear hK170 K169
                refine WC_seq (fun K174 hK175 => ?_)
                refine WC_draw Ext tb_mix (fun W176 hE177 => ?_)
                replace hrd := hE177.at hrd
                replace hlv := hE177.ow hlv
                replace hls := LsO.ext hE177 hls
                replace hX := Dx.trans hX (Dx.ext hE177)
                replace hB := below_ext hB hE177 hN0
                have hS := Ext.refl W176
                refine WT_take (dd := some 122) 0 rfl (by kernel_rfl) (by kernel_rfl) (by kernel_rfl) rfl rfl rfl (fun _wq _hq => r_move (v := .func (.func 51) #[] #[]) rfl) hS ?_
                refine WT_take (dd := some 123) 1 rfl (by kernel_rfl) (by kernel_rfl) (by kernel_rfl) rfl rfl rfl (fun _wq _hq => r_move (v := .pointer (some ⟨br, 0, none⟩)) rfl) hS ?_
                refine WT_take (dd := some 124) 2 rfl (by kernel_rfl) (by kernel_rfl) (by kernel_rfl) rfl rfl rfl (fun _wq _hq => r_nilCheck_ptr rfl) hS ?_
                refine WT_take (dd := some 125) 3 rfl (by kernel_rfl) (by kernel_rfl) (by kernel_rfl) rfl rfl rfl (fun _wq _hq => r_fieldAddr (b := _) (o := _) rfl tb_fo65_2) hS ?_
                refine WT_take (dd := some 126) 4 rfl (by kernel_rfl) (by kernel_rfl) (by kernel_rfl) rfl rfl rfl (fun _wq hq => r_load1 (v := .int .i64 _) rfl tb_sc3 (At.cell (hq.at hrd) rfl)) hS ?_
                refine WT_take (dd := some 127) 5 rfl (by kernel_rfl) (by kernel_rfl) (by kernel_rfl) rfl rfl rfl (fun _wq _hq => r_lss rfl rfl) hS ?_
                refine WT_split (dd := some 128) 6 rfl (by kernel_rfl) (by kernel_rfl) (by kernel_rfl) rfl rfl rfl (fun wq hq => r_move (v := .bool _) rfl) hS (fun hs31_6 => ?_) (fun hs31_6 => ?_)
                ·
                  try with_reducible replace hs31_6 := dec_t hs31_6
                  refine WT_pass (dd := some 129) 7 rfl (by kernel_rfl) (by kernel_rfl) (by kernel_rfl) rfl rfl rfl hS ?_
                  refine WT_pass (dd := some 130) 8 rfl (by kernel_rfl) (by kernel_rfl) (by kernel_rfl) rfl rfl rfl hS ?_
                  refine WT_pass (dd := some 131) 9 rfl (by kernel_rfl) (by kernel_rfl) (by kernel_rfl) rfl rfl rfl hS ?_
                  refine WT_pass (dd := some 132) 10 rfl (by kernel_rfl) (by kernel_rfl) (by kernel_rfl) rfl rfl rfl hS ?_
                  refine WT_pass (dd := some 133) 11 rfl (by kernel_rfl) (by kernel_rfl) (by kernel_rfl) rfl rfl rfl hS ?_
                  refine WT_pass (dd := some 134) 12 rfl (by kernel_rfl) (by kernel_rfl) (by kernel_rfl) rfl rfl rfl hS ?_
                  refine WT_pass (dd := some 135) 13 rfl (by kernel_rfl) (by kernel_rfl) (by kernel_rfl) rfl rfl rfl hS ?_
                  refine WT_pass (dd := some 136) 14 rfl (by kernel_rfl) (by kernel_rfl) (by kernel_rfl) rfl rfl rfl hS ?_
                  refine WT_pass (dd := some 137) 15 rfl (by kernel_rfl) (by kernel_rfl) (by kernel_rfl) rfl rfl rfl hS ?_
                  refine WT_pass (dd := some 138) 16 rfl (by kernel_rfl) (by kernel_rfl) (by kernel_rfl) rfl rfl rfl hS ?_
                  refine WT_pass (dd := some 139) 17 rfl (by kernel_rfl) (by kernel_rfl) (by kernel_rfl) rfl rfl rfl hS ?_
                  refine WT_take (dd := some 140) 18 rfl (by kernel_rfl) (by kernel_rfl) (by kernel_rfl) rfl rfl rfl (fun _wq _hq => r_pick_t rfl (v := .bool true) rfl) hS ?_
                  refine WT_one (dd := some 141) 19 (by kernel_rfl) rfl rfl rfl rfl (Yd.call (r_call (q := 51) (first := #[]) (cap := #[]) (vs := #[.bool true]) rfl tb_c51 (by simp only [List.map_toArray, List.map_cons, List.map_nil, List.append_toArray, List.nil_append, List.cons_append]; rfl)) (C___pla_reader__take_1 _ _) (fun v31_19 W178 hE179 hP31_19 => ⟨.inl (hS.trans hE179), ?_⟩))
                  have hsz180 := (Nat.le_trans hN0 (Below.size hB))
                  have sv181_hrd := hrd
                  have sv181_hlv := hlv
                  have sv181_hB := hB
                  replace hrd := hE179.at hrd
                  replace hlv := hE179.ow hlv
                  replace hls := LsO.ext hE179 hls
                  replace hX := Dx.trans hX (Dx.ext hE179)
                  replace hB := below_ext hB hE179 hN0
                  replace hS := hS.trans hE179
                  clear hE179
                  clear hsz180
                  obtain rfl := hP31_19
                  refine WT_take (dd := some 4) 20 rfl (by kernel_rfl) (by kernel_rfl) (by kernel_rfl) rfl rfl rfl (fun _wq _hq => r_assign (v := .int .i64 _) rfl) hS ?_
                  refine WT_done (by kernel_rfl) ?_
                  try clear sv181_hrd sv181_hlv sv181_hB
                  refine hK175 _ _ ?_
                  clear hK175 K174
                  refine WC_ret ?_
                  repeat (first | refine thenQ_ret ?_ | refine blockQ_ret ?_)
                  try clear hK166 K165
                  refine ret_t (v := .int .i64 _) rfl ?_
                  have hpn : ¬ (Lib.hasPrefix line typeW = true ∧ r.st = 2) := by first | exact fun e => hc3 e.2 | exact fun e => Bool.noConfusion (hs14_1.symm.trans e.1)
                  first | (rw [tk_p hc0 hc1 hc2 hpn hs25_2 hc6]; exact ⟨hX, rfl, ⟨lv, vs, hrd, hlv, hls⟩⟩) | (have hpp : ¬ (numP line [46, 112] 0 64 ≥ 0 ∧ r.st ≤ 3) := (by first | exact fun e => hc6 e.2 | exact fun e => hs25_2 e.1); first | (rw [tk_e hc0 hc1 hc2 hpn hpp hc7]; refine ⟨hX, congrArg (Value.int .i64) ?_, ⟨lv, vs, hrd, hlv, hls⟩⟩; first | (rw [decide_eq_true hs31_6]; rfl) | (rw [decide_eq_false hs31_6, Bool.false_or, ← hlen]; rfl)) | (rw [tk_r hc0 hc1 hc2 hpn hpp hc7 hrk33_2]; refine ⟨hX, congrArg (Value.int .i64) ?_, hR33_2⟩; first | exact (if_pos (by omega)).symm | exact (if_neg (by omega)).symm) | (rw [tk_rn hc0 hc1 hc2 hpn hpp hc7 hrk33_2]; exact ⟨hX, rfl, hR33_2⟩))
                ·
                  try with_reducible replace hs31_6 := dec_f hs31_6
                  refine WT_take (dd := some 129) 7 rfl (by kernel_rfl) (by kernel_rfl) (by kernel_rfl) rfl rfl rfl (fun _wq _hq => r_move (v := .pointer (some ⟨br, 0, none⟩)) rfl) hS ?_
                  refine WT_take (dd := some 130) 8 rfl (by kernel_rfl) (by kernel_rfl) (by kernel_rfl) rfl rfl rfl (fun _wq _hq => r_nilCheck_ptr rfl) hS ?_
                  refine WT_take (dd := some 131) 9 rfl (by kernel_rfl) (by kernel_rfl) (by kernel_rfl) rfl rfl rfl (fun _wq _hq => r_fieldAddr (b := _) (o := _) rfl tb_fo65_2) hS ?_
                  refine WT_take (dd := some 132) 10 rfl (by kernel_rfl) (by kernel_rfl) (by kernel_rfl) rfl rfl rfl (fun _wq hq => r_load1 (v := .int .i64 _) rfl tb_sc3 (At.cell (hq.at hrd) rfl)) hS ?_
                  refine WT_take (dd := some 133) 11 rfl (by kernel_rfl) (by kernel_rfl) (by kernel_rfl) rfl rfl rfl (fun _wq _hq => r_move (v := .pointer (some ⟨br, 0, none⟩)) rfl) hS ?_
                  refine WT_take (dd := some 134) 12 rfl (by kernel_rfl) (by kernel_rfl) (by kernel_rfl) rfl rfl rfl (fun _wq _hq => r_nilCheck_ptr rfl) hS ?_
                  refine WT_take (dd := some 135) 13 rfl (by kernel_rfl) (by kernel_rfl) (by kernel_rfl) rfl rfl rfl (fun _wq _hq => r_fieldAddr (b := _) (o := _) rfl tb_fo65_0) hS ?_
                  refine WT_take (dd := some 136) 14 rfl (by kernel_rfl) (by kernel_rfl) (by kernel_rfl) rfl rfl rfl (fun _wq _hq => r_fieldAddr (b := _) (o := _) rfl tb_fo24_3) hS ?_
                  refine WT_take (dd := some 137) 15 rfl (by kernel_rfl) (by kernel_rfl) (by kernel_rfl) rfl rfl rfl (fun _wq hq => r_load1 (v := lv) rfl tb_sc22 (At.cell (hq.at hrd) rfl)) hS ?_
                  refine WT_take (dd := some 138) 16 rfl (by kernel_rfl) (by kernel_rfl) (by kernel_rfl) rfl rfl rfl (fun _wq hq => r_lenS (v := lv) rfl ((hq.ow hlv)).sl tb_el22) hS ?_
                  refine WT_take (dd := some 139) 17 rfl (by kernel_rfl) (by kernel_rfl) (by kernel_rfl) rfl rfl rfl (fun _wq _hq => r_eql rfl rfl) hS ?_
                  refine WT_take (dd := some 140) 18 rfl (by kernel_rfl) (by kernel_rfl) (by kernel_rfl) rfl rfl rfl (fun _wq _hq => r_pick_f rfl (v := .bool _) rfl) hS ?_
                  refine WT_one (dd := some 141) 19 (by kernel_rfl) rfl rfl rfl rfl (Yd.call (r_call (q := 51) (first := #[]) (cap := #[]) (vs := #[.bool _]) rfl tb_c51 (by simp only [List.map_toArray, List.map_cons, List.map_nil, List.append_toArray, List.nil_append, List.cons_append]; rfl)) (C___pla_reader__take_1 _ _) (fun v31_19 W182 hE183 hP31_19 => ⟨.inl (hS.trans hE183), ?_⟩))
                  have hsz184 := (Nat.le_trans hN0 (Below.size hB))
                  have sv185_hrd := hrd
                  have sv185_hlv := hlv
                  have sv185_hB := hB
                  replace hrd := hE183.at hrd
                  replace hlv := hE183.ow hlv
                  replace hls := LsO.ext hE183 hls
                  replace hX := Dx.trans hX (Dx.ext hE183)
                  replace hB := below_ext hB hE183 hN0
                  replace hS := hS.trans hE183
                  clear hE183
                  clear hsz184
                  obtain rfl := hP31_19
                  refine WT_take (dd := some 4) 20 rfl (by kernel_rfl) (by kernel_rfl) (by kernel_rfl) rfl rfl rfl (fun _wq _hq => r_assign (v := .int .i64 _) rfl) hS ?_
                  refine WT_done (by kernel_rfl) ?_
                  try clear sv185_hrd sv185_hlv sv185_hB
                  refine hK175 _ _ ?_
                  clear hK175 K174
                  refine WC_ret ?_
                  repeat (first | refine thenQ_ret ?_ | refine blockQ_ret ?_)
                  try clear hK166 K165
                  refine ret_t (v := .int .i64 _) rfl ?_
                  have hpn : ¬ (Lib.hasPrefix line typeW = true ∧ r.st = 2) := by first | exact fun e => hc3 e.2 | exact fun e => Bool.noConfusion (hs14_1.symm.trans e.1)
                  first | (rw [tk_p hc0 hc1 hc2 hpn hs25_2 hc6]; exact ⟨hX, rfl, ⟨lv, vs, hrd, hlv, hls⟩⟩) | (have hpp : ¬ (numP line [46, 112] 0 64 ≥ 0 ∧ r.st ≤ 3) := (by first | exact fun e => hc6 e.2 | exact fun e => hs25_2 e.1); first | (rw [tk_e hc0 hc1 hc2 hpn hpp hc7]; refine ⟨hX, congrArg (Value.int .i64) ?_, ⟨lv, vs, hrd, hlv, hls⟩⟩; first | (rw [decide_eq_true hs31_6]; rfl) | (rw [decide_eq_false hs31_6, Bool.false_or, ← hlen]; rfl)) | (rw [tk_r hc0 hc1 hc2 hpn hpp hc7 hrk33_2]; refine ⟨hX, congrArg (Value.int .i64) ?_, hR33_2⟩; first | exact (if_pos (by omega)).symm | exact (if_neg (by omega)).symm) | (rw [tk_rn hc0 hc1 hc2 hpn hpp hc7 hrk33_2]; exact ⟨hX, rfl, hR33_2⟩))
              ·
                try with_reducible replace hc7 := dec_f hc7
                refine WC_skip ?_
                refine hK166 _ _ ?_
                clear hK166 K165
                refine WC_seq (fun K186 hK187 => ?_)
                refine WC_region ?_
                refine WL_val (dd := some 142) rfl rfl rfl (r_move (v := .pointer (some ⟨br, 0, none⟩)) rfl) ?_
                refine WL_val (dd := some 143) rfl rfl rfl (r_nilCheck_ptr rfl) ?_
                refine WL_val (dd := some 144) rfl rfl rfl (r_fieldAddr (b := _) (o := _) rfl tb_fo65_0) ?_
                refine WL_val (dd := some 145) rfl rfl rfl (r_fieldAddr (b := _) (o := _) rfl tb_fo24_3) ?_
                refine WL_val (dd := some 146) rfl rfl rfl (r_load1 (v := lv) rfl tb_sc22 (At.cell hrd rfl)) ?_
                refine WL_val (dd := some 147) rfl rfl rfl (r_lenS (v := lv) rfl hlv.sl tb_el22) ?_
                refine WL_val (dd := some 148) rfl rfl rfl (r_eql rfl rfl) ?_
                refine WL_val (dd := some 11) rfl rfl rfl (r_assign (v := .bool _) rfl) ?_
                refine WL_nil ?_
                refine hK187 _ _ ?_
                clear hK187 K186
                refine WC_seq (fun K188 hK189 => ?_)
                refine WC_seq (fun K190 hK191 => ?_)
                refine WC_region ?_
                refine WL_val (dd := some 149) rfl rfl rfl (r_move (v := .pointer (some ⟨br, 0, none⟩)) rfl) ?_
                refine WL_val (dd := some 150) rfl rfl rfl (r_move (v := .string _) rfl) ?_
                refine WL_callG (dd := some 151) rfl rfl rfl (r_call2 tb_c54 (v0 := .pointer (some ⟨br, 0, none⟩)) rfl (v1 := .string _) rfl) (C___pla_reader__row N br ⟨r.T, 4, r.told⟩ line _ (Nat.le_trans hN0 (Below.size hB)) (fun _ h => hgl _ (Below.trans hB h)) hl lob h64 ⟨lv, vs, hrd, hlv, hls⟩) (fun v33_2 W192 hP33_2 => ?_)
                obtain ⟨hX33_2, hP33_2⟩ := hP33_2
                replace hB := Below.dx hB (Nat.le_refl _) hN0 hX33_2
                replace hX := hX.trans hX33_2
                clear hrd
                clear hlv
                clear hls
                rcases hP33_2 with hP33_2 | hP33_2
                ·
                  obtain ⟨hrk33_2, rfl, hR33_2⟩ := hP33_2
                  refine WL_val (dd := some 152) rfl rfl rfl (r_not rfl) ?_
                  refine WL_nil ?_
                  refine hK191 _ _ ?_
                  clear hK191 K190
                  refine WC_cond_false rfl ?_
                  refine WC_skip ?_
                  refine hK189 _ _ ?_
                  clear hK189 K188
                  refine WC_seq (fun K194 hK195 => ?_)
                  refine WC_seq (fun K196 hK197 => ?_)
                  refine WC_region ?_
                  refine WL_val (dd := some 153) rfl rfl rfl (r_move (v := .bool _) rfl) ?_
                  refine WL_nil ?_
                  refine hK197 _ _ ?_
                  clear hK197 K196
                  refine WC_cond (b := _) rfl (fun hc9 => ?_) (fun hc9 => ?_)
                  ·
                    try with_reducible replace hc9 := dec_t hc9
                    refine WC_seq (fun K198 hK199 => ?_)
                    refine WC_region ?_
                    refine WL_val (dd := some 4) rfl rfl rfl (r_assign (v := .int .i64 3) rfl) ?_
                    refine WL_nil ?_
                    refine hK199 _ _ ?_
                    clear hK199 K198
                    refine WC_ret ?_
                    repeat (first | refine thenQ_ret ?_ | refine blockQ_ret ?_)
                    try clear hK195 K194
                    refine ret_t (v := .int .i64 3) rfl ?_
                    have hpn : ¬ (Lib.hasPrefix line typeW = true ∧ r.st = 2) := by first | exact fun e => hc3 e.2 | exact fun e => Bool.noConfusion (hs14_1.symm.trans e.1)
                    first | (rw [tk_p hc0 hc1 hc2 hpn hs25_2 hc6]; exact ⟨hX, rfl, ⟨lv, vs, hrd, hlv, hls⟩⟩) | (have hpp : ¬ (numP line [46, 112] 0 64 ≥ 0 ∧ r.st ≤ 3) := (by first | exact fun e => hc6 e.2 | exact fun e => hs25_2 e.1); first | (rw [tk_e hc0 hc1 hc2 hpn hpp hc7]; refine ⟨hX, congrArg (Value.int .i64) ?_, ⟨lv, vs, hrd, hlv, hls⟩⟩; first | (rw [decide_eq_true hs31_6]; rfl) | (rw [decide_eq_false hs31_6, Bool.false_or, ← hlen]; rfl)) | (rw [tk_r hc0 hc1 hc2 hpn hpp hc7 hrk33_2]; refine ⟨hX, congrArg (Value.int .i64) ?_, hR33_2⟩; first | exact (if_pos (by omega)).symm | exact (if_neg (by omega)).symm) | (rw [tk_rn hc0 hc1 hc2 hpn hpp hc7 hrk33_2]; exact ⟨hX, rfl, hR33_2⟩))
                  ·
                    try with_reducible replace hc9 := dec_f hc9
                    refine WC_skip ?_
                    refine hK195 _ _ ?_
                    clear hK195 K194
                    refine WC_seq (fun K200 hK201 => ?_)
                    refine WC_region ?_
                    refine WL_val (dd := some 4) rfl rfl rfl (r_assign (v := .int .i64 0) rfl) ?_
                    refine WL_nil ?_
                    refine hK201 _ _ ?_
                    clear hK201 K200
                    refine WC_ret ?_
                    repeat (first | refine thenQ_ret ?_ | refine blockQ_ret ?_)
                    refine ret_t (v := .int .i64 0) rfl ?_
                    have hpn : ¬ (Lib.hasPrefix line typeW = true ∧ r.st = 2) := by first | exact fun e => hc3 e.2 | exact fun e => Bool.noConfusion (hs14_1.symm.trans e.1)
                    first | (rw [tk_p hc0 hc1 hc2 hpn hs25_2 hc6]; exact ⟨hX, rfl, ⟨lv, vs, hrd, hlv, hls⟩⟩) | (have hpp : ¬ (numP line [46, 112] 0 64 ≥ 0 ∧ r.st ≤ 3) := (by first | exact fun e => hc6 e.2 | exact fun e => hs25_2 e.1); first | (rw [tk_e hc0 hc1 hc2 hpn hpp hc7]; refine ⟨hX, congrArg (Value.int .i64) ?_, ⟨lv, vs, hrd, hlv, hls⟩⟩; first | (rw [decide_eq_true hs31_6]; rfl) | (rw [decide_eq_false hs31_6, Bool.false_or, ← hlen]; rfl)) | (rw [tk_r hc0 hc1 hc2 hpn hpp hc7 hrk33_2]; refine ⟨hX, congrArg (Value.int .i64) ?_, hR33_2⟩; first | exact (if_pos (by omega)).symm | exact (if_neg (by omega)).symm) | (rw [tk_rn hc0 hc1 hc2 hpn hpp hc7 hrk33_2]; exact ⟨hX, rfl, hR33_2⟩))
                ·
                  obtain ⟨hrk33_2, rfl, hR33_2⟩ := hP33_2
                  refine WL_val (dd := some 152) rfl rfl rfl (r_not rfl) ?_
                  refine WL_nil ?_
                  refine hK191 _ _ ?_
                  clear hK191 K190
                  refine WC_cond_true rfl ?_
                  refine WC_seq (fun K202 hK203 => ?_)
                  refine WC_region ?_
                  refine WL_val (dd := some 4) rfl rfl rfl (r_assign (v := .int .i64 2) rfl) ?_
                  refine WL_nil ?_
                  refine hK203 _ _ ?_
                  clear hK203 K202
                  refine WC_ret ?_
                  repeat (first | refine thenQ_ret ?_ | refine blockQ_ret ?_)
                  try clear hK189 K188
                  refine ret_t (v := .int .i64 2) rfl ?_
                  have hpn : ¬ (Lib.hasPrefix line typeW = true ∧ r.st = 2) := by first | exact fun e => hc3 e.2 | exact fun e => Bool.noConfusion (hs14_1.symm.trans e.1)
                  first | (rw [tk_p hc0 hc1 hc2 hpn hs25_2 hc6]; exact ⟨hX, rfl, ⟨lv, vs, hrd, hlv, hls⟩⟩) | (have hpp : ¬ (numP line [46, 112] 0 64 ≥ 0 ∧ r.st ≤ 3) := (by first | exact fun e => hc6 e.2 | exact fun e => hs25_2 e.1); first | (rw [tk_e hc0 hc1 hc2 hpn hpp hc7]; refine ⟨hX, congrArg (Value.int .i64) ?_, ⟨lv, vs, hrd, hlv, hls⟩⟩; first | (rw [decide_eq_true hs31_6]; rfl) | (rw [decide_eq_false hs31_6, Bool.false_or, ← hlen]; rfl)) | (rw [tk_r hc0 hc1 hc2 hpn hpp hc7 hrk33_2]; refine ⟨hX, congrArg (Value.int .i64) ?_, hR33_2⟩; first | exact (if_pos (by omega)).symm | exact (if_neg (by omega)).symm) | (rw [tk_rn hc0 hc1 hc2 hpn hpp hc7 hrk33_2]; exact ⟨hX, rfl, hR33_2⟩))
        ·
          try with_reducible replace hs14_1 := dec_f hs14_1
          refine WL_skip (dd := some 71) rfl rfl rfl ?_
          refine WL_skip (dd := some 72) rfl rfl rfl ?_
          refine WL_skip (dd := some 73) rfl rfl rfl ?_
          refine WL_skip (dd := some 74) rfl rfl rfl ?_
          refine WL_skip (dd := some 75) rfl rfl rfl ?_
          refine WL_val (dd := some 76) rfl rfl rfl (r_pick_f rfl (v := .bool false) rfl) ?_
          refine WL_nil ?_
          refine hK61 _ _ ?_
          clear hK61 K60
          refine WC_cond_false rfl ?_
          refine WC_skip ?_
          refine hK54 _ _ ?_
          clear hK54 K53
          refine WC_seq (fun K204 hK205 => ?_)
          refine WC_seq (fun K206 hK207 => ?_)
          refine WC_region ?_
          refine WL_val (dd := some 96) rfl rfl rfl (r_move (v := .string _) rfl) ?_
          refine WL_call (dd := some 97) rfl rfl rfl (r_call4 tb_c52 (v0 := .string _) rfl (v1 := .string _) rfl (v2 := .int .i64 0) rfl (v3 := .int .i64 64) rfl) (C_pla_number _ _ _ _ _ (hgl _ hB) (by first | assumption | omega | (simp; omega) | simp) (by first | assumption | omega | (simp; omega) | simp) (by first | assumption | omega)) (fun v24_1 W208 hE209 hP24_1 => ?_)
          have hsz210 := (Nat.le_trans hN0 (Below.size hB))
          replace hrd := hE209.at hrd
          replace hlv := hE209.ow hlv
          replace hls := LsO.ext hE209 hls
          replace hX := Dx.trans hX (Dx.ext hE209)
          replace hB := below_ext hB hE209 hN0
          clear hE209
          clear hsz210
          obtain rfl := hP24_1
          refine WL_val (dd := some 10) rfl rfl rfl (r_assign (v := .int .i64 _) rfl) ?_
          refine WL_nil ?_
          refine hK207 _ _ ?_
          clear hK207 K206
          refine WC_seq (fun K211 hK212 => ?_)
          refine WC_region ?_
          refine WL_val (dd := some 98) rfl rfl rfl (r_move (v := .int .i64 _) rfl) ?_
          refine WL_val (dd := some 99) rfl rfl rfl (r_geq rfl rfl) ?_
          refine WL_split (dd := some 100) rfl rfl rfl (r_move (v := .bool _) rfl) (fun hs25_2 => ?_) (fun hs25_2 => ?_)
          ·
            try with_reducible replace hs25_2 := dec_t hs25_2
            refine WL_val (dd := some 101) rfl rfl rfl (r_move (v := .pointer (some ⟨br, 0, none⟩)) rfl) ?_
            refine WL_val (dd := some 102) rfl rfl rfl (r_nilCheck_ptr rfl) ?_
            refine WL_val (dd := some 103) rfl rfl rfl (r_fieldAddr (b := _) (o := _) rfl tb_fo65_1) ?_
            refine WL_val (dd := some 104) rfl rfl rfl (r_load1 (v := .int .i64 _) rfl tb_sc3 (At.cell hrd rfl)) ?_
            refine WL_val (dd := some 105) rfl rfl rfl (r_leq rfl rfl) ?_
            refine WL_val (dd := some 106) rfl rfl rfl (r_pick_t rfl (v := .bool _) rfl) ?_
            refine WL_nil ?_
            refine hK212 _ _ ?_
            clear hK212 K211
            refine WC_cond (b := _) rfl (fun hc6 => ?_) (fun hc6 => ?_)
            ·
              try with_reducible replace hc6 := dec_t hc6
              refine WC_seq (fun K213 hK214 => ?_)
              refine WC_region ?_
              refine WL_val (dd := some 107) rfl rfl rfl (r_move (v := .pointer (some ⟨br, 0, none⟩)) rfl) ?_
              refine WL_val (dd := some 108) rfl rfl rfl (r_move (v := .pointer (some ⟨br, 0, none⟩)) rfl) ?_
              refine WL_val (dd := some 109) rfl rfl rfl (r_move (v := .int .i64 _) rfl) ?_
              refine WL_val (dd := some 110) rfl rfl rfl (r_nilCheck_ptr rfl) ?_
              refine WL_val (dd := some 111) rfl rfl rfl (r_fieldAddr (b := _) (o := _) rfl tb_fo65_2) ?_
              refine WL_step (dd := none) rfl rfl rfl (Y_store1 (v := .int .i64 _) rfl rfl tb_sc3 rfl hrd (by simp) (fun W215 hG216 hm217 => ?_))
              replace hlv := OwT.grownAt hlv hrd hG216 (by decide)
              replace hls := LsO.grownAt hls hrd hG216 (by decide)
              replace hX := Dx.trans hX (Dx.grown hG216 (by simp) lob)
              replace hB := below_grown hB hG216 hN0 (fun j hj => by cases hj; exact lob)
              clear hG216 hrd
              have hrd := hm217
              clear hm217
              replace hrd : At _ _ #[_, _, _, _, _, _] _ := hrd
              refine WL_val (dd := some 112) rfl rfl rfl (r_nilCheck_ptr rfl) ?_
              refine WL_val (dd := some 113) rfl rfl rfl (r_fieldAddr (b := _) (o := _) rfl tb_fo65_1) ?_
              refine WL_step (dd := none) rfl rfl rfl (Y_store1 (v := .int .i64 4) rfl rfl tb_sc3 rfl hrd (by simp) (fun W218 hG219 hm220 => ?_))
              replace hlv := OwT.grownAt hlv hrd hG219 (by decide)
              replace hls := LsO.grownAt hls hrd hG219 (by decide)
              replace hX := Dx.trans hX (Dx.grown hG219 (by simp) lob)
              replace hB := below_grown hB hG219 hN0 (fun j hj => by cases hj; exact lob)
              clear hG219 hrd
              have hrd := hm220
              clear hm220
              replace hrd : At _ _ #[_, _, _, _, _, _] _ := hrd
              refine WL_nil ?_
              refine hK214 _ _ ?_
              clear hK214 K213
              refine WC_seq (fun K221 hK222 => ?_)
              refine WC_region ?_
              refine WL_val (dd := some 4) rfl rfl rfl (r_assign (v := .int .i64 0) rfl) ?_
              refine WL_nil ?_
              refine hK222 _ _ ?_
              clear hK222 K221
              refine WC_ret ?_
              repeat (first | refine thenQ_ret ?_ | refine blockQ_ret ?_)
              try clear hK205 K204
              refine ret_t (v := .int .i64 0) rfl ?_
              have hpn : ¬ (Lib.hasPrefix line typeW = true ∧ r.st = 2) := by first | exact fun e => hc3 e.2 | exact fun e => Bool.noConfusion (hs14_1.symm.trans e.1)
              first | (rw [tk_p hc0 hc1 hc2 hpn hs25_2 hc6]; exact ⟨hX, rfl, ⟨lv, vs, hrd, hlv, hls⟩⟩) | (have hpp : ¬ (numP line [46, 112] 0 64 ≥ 0 ∧ r.st ≤ 3) := (by first | exact fun e => hc6 e.2 | exact fun e => hs25_2 e.1); first | (rw [tk_e hc0 hc1 hc2 hpn hpp hc7]; refine ⟨hX, congrArg (Value.int .i64) ?_, ⟨lv, vs, hrd, hlv, hls⟩⟩; first | (rw [decide_eq_true hs31_6]; rfl) | (rw [decide_eq_false hs31_6, Bool.false_or, ← hlen]; rfl)) | (rw [tk_r hc0 hc1 hc2 hpn hpp hc7 hrk33_2]; refine ⟨hX, congrArg (Value.int .i64) ?_, hR33_2⟩; first | exact (if_pos (by omega)).symm | exact (if_neg (by omega)).symm) | (rw [tk_rn hc0 hc1 hc2 hpn hpp hc7 hrk33_2]; exact ⟨hX, rfl, hR33_2⟩))
            ·
              try with_reducible replace hc6 := dec_f hc6
              refine WC_skip ?_
              refine hK205 _ _ ?_
              clear hK205 K204
              refine WC_seq (fun K223 hK224 => ?_)
              refine WC_region ?_
              refine WL_val (dd := some 114) rfl rfl rfl (r_move (v := .pointer (some ⟨br, 0, none⟩)) rfl) ?_
              refine WL_val (dd := some 115) rfl rfl rfl (r_nilCheck_ptr rfl) ?_
              refine WL_val (dd := some 116) rfl rfl rfl (r_fieldAddr (b := _) (o := _) rfl tb_fo65_1) ?_
              refine WL_step (dd := none) rfl rfl rfl (Y_store1 (v := .int .i64 4) rfl rfl tb_sc3 rfl hrd (by simp) (fun W225 hG226 hm227 => ?_))
              replace hlv := OwT.grownAt hlv hrd hG226 (by decide)
              replace hls := LsO.grownAt hls hrd hG226 (by decide)
              replace hX := Dx.trans hX (Dx.grown hG226 (by simp) lob)
              replace hB := below_grown hB hG226 hN0 (fun j hj => by cases hj; exact lob)
              clear hG226 hrd
              have hrd := hm227
              clear hm227
              replace hrd : At _ _ #[_, _, _, _, _, _] _ := hrd
              refine WL_nil ?_
              refine hK224 _ _ ?_
              clear hK224 K223
              refine WC_seq (fun K228 hK229 => ?_)
              refine WC_seq (fun K230 hK231 => ?_)
              refine WC_region ?_
              refine WL_val (dd := some 117) rfl rfl rfl (r_move (v := .string _) rfl) ?_
              refine WL_val (dd := some 118) rfl rfl rfl (r_eqlW rfl rfl) ?_
              refine WL_nil ?_
              refine hK231 _ _ ?_
              clear hK231 K230
              refine WC_cond (b := _) rfl (fun hc7 => ?_) (fun hc7 => ?_)
              ·
                try with_reducible replace hc7 := dec_t hc7
                refine WC_seq (fun K232 hK233 => ?_)
                refine WC_region ?_
                refine WL_val (dd := some 119) rfl rfl rfl (r_move (v := .pointer (some ⟨br, 0, none⟩)) rfl) ?_
                refine WL_val (dd := some 120) rfl rfl rfl (r_nilCheck_ptr rfl) ?_
                refine WL_val (dd := some 121) rfl rfl rfl (r_fieldAddr (b := _) (o := _) rfl tb_fo65_1) ?_
                refine WL_step (dd := none) rfl rfl rfl (Y_store1 (v := .int .i64 5) rfl rfl tb_sc3 rfl hrd (by simp) (fun W234 hG235 hm236 => ?_))
                replace hlv := OwT.grownAt hlv hrd hG235 (by decide)
                replace hls := LsO.grownAt hls hrd hG235 (by decide)
                replace hX := Dx.trans hX (Dx.grown hG235 (by simp) lob)
                replace hB := below_grown hB hG235 hN0 (fun j hj => by cases hj; exact lob)
                clear hG235 hrd
                have hrd := hm236
                clear hm236
                replace hrd : At _ _ #[_, _, _, _, _, _] _ := hrd
                refine WL_nil ?_
                refine hK233 _ _ ?_
                clear hK233 K232
                refine WC_seq (fun K237 hK238 => ?_)
                refine WC_draw Ext tb_mix (fun W239 hE240 => ?_)
                replace hrd := hE240.at hrd
                replace hlv := hE240.ow hlv
                replace hls := LsO.ext hE240 hls
                replace hX := Dx.trans hX (Dx.ext hE240)
                replace hB := below_ext hB hE240 hN0
                have hS := Ext.refl W239
                refine WT_take (dd := some 122) 0 rfl (by kernel_rfl) (by kernel_rfl) (by kernel_rfl) rfl rfl rfl (fun _wq _hq => r_move (v := .func (.func 51) #[] #[]) rfl) hS ?_
                refine WT_take (dd := some 123) 1 rfl (by kernel_rfl) (by kernel_rfl) (by kernel_rfl) rfl rfl rfl (fun _wq _hq => r_move (v := .pointer (some ⟨br, 0, none⟩)) rfl) hS ?_
                refine WT_take (dd := some 124) 2 rfl (by kernel_rfl) (by kernel_rfl) (by kernel_rfl) rfl rfl rfl (fun _wq _hq => r_nilCheck_ptr rfl) hS ?_
                refine WT_take (dd := some 125) 3 rfl (by kernel_rfl) (by kernel_rfl) (by kernel_rfl) rfl rfl rfl (fun _wq _hq => r_fieldAddr (b := _) (o := _) rfl tb_fo65_2) hS ?_
                refine WT_take (dd := some 126) 4 rfl (by kernel_rfl) (by kernel_rfl) (by kernel_rfl) rfl rfl rfl (fun _wq hq => r_load1 (v := .int .i64 _) rfl tb_sc3 (At.cell (hq.at hrd) rfl)) hS ?_
                refine WT_take (dd := some 127) 5 rfl (by kernel_rfl) (by kernel_rfl) (by kernel_rfl) rfl rfl rfl (fun _wq _hq => r_lss rfl rfl) hS ?_
                refine WT_split (dd := some 128) 6 rfl (by kernel_rfl) (by kernel_rfl) (by kernel_rfl) rfl rfl rfl (fun wq hq => r_move (v := .bool _) rfl) hS (fun hs31_6 => ?_) (fun hs31_6 => ?_)
                ·
                  try with_reducible replace hs31_6 := dec_t hs31_6
                  refine WT_pass (dd := some 129) 7 rfl (by kernel_rfl) (by kernel_rfl) (by kernel_rfl) rfl rfl rfl hS ?_
                  refine WT_pass (dd := some 130) 8 rfl (by kernel_rfl) (by kernel_rfl) (by kernel_rfl) rfl rfl rfl hS ?_
                  refine WT_pass (dd := some 131) 9 rfl (by kernel_rfl) (by kernel_rfl) (by kernel_rfl) rfl rfl rfl hS ?_
                  refine WT_pass (dd := some 132) 10 rfl (by kernel_rfl) (by kernel_rfl) (by kernel_rfl) rfl rfl rfl hS ?_
                  refine WT_pass (dd := some 133) 11 rfl (by kernel_rfl) (by kernel_rfl) (by kernel_rfl) rfl rfl rfl hS ?_
                  refine WT_pass (dd := some 134) 12 rfl (by kernel_rfl) (by kernel_rfl) (by kernel_rfl) rfl rfl rfl hS ?_
                  refine WT_pass (dd := some 135) 13 rfl (by kernel_rfl) (by kernel_rfl) (by kernel_rfl) rfl rfl rfl hS ?_
                  refine WT_pass (dd := some 136) 14 rfl (by kernel_rfl) (by kernel_rfl) (by kernel_rfl) rfl rfl rfl hS ?_
                  refine WT_pass (dd := some 137) 15 rfl (by kernel_rfl) (by kernel_rfl) (by kernel_rfl) rfl rfl rfl hS ?_
                  refine WT_pass (dd := some 138) 16 rfl (by kernel_rfl) (by kernel_rfl) (by kernel_rfl) rfl rfl rfl hS ?_
                  refine WT_pass (dd := some 139) 17 rfl (by kernel_rfl) (by kernel_rfl) (by kernel_rfl) rfl rfl rfl hS ?_
                  refine WT_take (dd := some 140) 18 rfl (by kernel_rfl) (by kernel_rfl) (by kernel_rfl) rfl rfl rfl (fun _wq _hq => r_pick_t rfl (v := .bool true) rfl) hS ?_
                  refine WT_one (dd := some 141) 19 (by kernel_rfl) rfl rfl rfl rfl (Yd.call (r_call (q := 51) (first := #[]) (cap := #[]) (vs := #[.bool true]) rfl tb_c51 (by simp only [List.map_toArray, List.map_cons, List.map_nil, List.append_toArray, List.nil_append, List.cons_append]; rfl)) (C___pla_reader__take_1 _ _) (fun v31_19 W241 hE242 hP31_19 => ⟨.inl (hS.trans hE242), ?_⟩))
                  have hsz243 := (Nat.le_trans hN0 (Below.size hB))
                  have sv244_hrd := hrd
                  have sv244_hlv := hlv
                  have sv244_hB := hB
                  replace hrd := hE242.at hrd
                  replace hlv := hE242.ow hlv
                  replace hls := LsO.ext hE242 hls
                  replace hX := Dx.trans hX (Dx.ext hE242)
                  replace hB := below_ext hB hE242 hN0
                  replace hS := hS.trans hE242
                  clear hE242
                  clear hsz243
                  obtain rfl := hP31_19
                  refine WT_take (dd := some 4) 20 rfl (by kernel_rfl) (by kernel_rfl) (by kernel_rfl) rfl rfl rfl (fun _wq _hq => r_assign (v := .int .i64 _) rfl) hS ?_
                  refine WT_done (by kernel_rfl) ?_
                  try clear sv244_hrd sv244_hlv sv244_hB
                  refine hK238 _ _ ?_
                  clear hK238 K237
                  refine WC_ret ?_
                  repeat (first | refine thenQ_ret ?_ | refine blockQ_ret ?_)
                  try clear hK229 K228
                  refine ret_t (v := .int .i64 _) rfl ?_
                  have hpn : ¬ (Lib.hasPrefix line typeW = true ∧ r.st = 2) := by first | exact fun e => hc3 e.2 | exact fun e => Bool.noConfusion (hs14_1.symm.trans e.1)
                  first | (rw [tk_p hc0 hc1 hc2 hpn hs25_2 hc6]; exact ⟨hX, rfl, ⟨lv, vs, hrd, hlv, hls⟩⟩) | (have hpp : ¬ (numP line [46, 112] 0 64 ≥ 0 ∧ r.st ≤ 3) := (by first | exact fun e => hc6 e.2 | exact fun e => hs25_2 e.1); first | (rw [tk_e hc0 hc1 hc2 hpn hpp hc7]; refine ⟨hX, congrArg (Value.int .i64) ?_, ⟨lv, vs, hrd, hlv, hls⟩⟩; first | (rw [decide_eq_true hs31_6]; rfl) | (rw [decide_eq_false hs31_6, Bool.false_or, ← hlen]; rfl)) | (rw [tk_r hc0 hc1 hc2 hpn hpp hc7 hrk33_2]; refine ⟨hX, congrArg (Value.int .i64) ?_, hR33_2⟩; first | exact (if_pos (by omega)).symm | exact (if_neg (by omega)).symm) | (rw [tk_rn hc0 hc1 hc2 hpn hpp hc7 hrk33_2]; exact ⟨hX, rfl, hR33_2⟩))
                ·
                  try with_reducible replace hs31_6 := dec_f hs31_6
                  refine WT_take (dd := some 129) 7 rfl (by kernel_rfl) (by kernel_rfl) (by kernel_rfl) rfl rfl rfl (fun _wq _hq => r_move (v := .pointer (some ⟨br, 0, none⟩)) rfl) hS ?_
                  refine WT_take (dd := some 130) 8 rfl (by kernel_rfl) (by kernel_rfl) (by kernel_rfl) rfl rfl rfl (fun _wq _hq => r_nilCheck_ptr rfl) hS ?_
                  refine WT_take (dd := some 131) 9 rfl (by kernel_rfl) (by kernel_rfl) (by kernel_rfl) rfl rfl rfl (fun _wq _hq => r_fieldAddr (b := _) (o := _) rfl tb_fo65_2) hS ?_
                  refine WT_take (dd := some 132) 10 rfl (by kernel_rfl) (by kernel_rfl) (by kernel_rfl) rfl rfl rfl (fun _wq hq => r_load1 (v := .int .i64 _) rfl tb_sc3 (At.cell (hq.at hrd) rfl)) hS ?_
                  refine WT_take (dd := some 133) 11 rfl (by kernel_rfl) (by kernel_rfl) (by kernel_rfl) rfl rfl rfl (fun _wq _hq => r_move (v := .pointer (some ⟨br, 0, none⟩)) rfl) hS ?_
                  refine WT_take (dd := some 134) 12 rfl (by kernel_rfl) (by kernel_rfl) (by kernel_rfl) rfl rfl rfl (fun _wq _hq => r_nilCheck_ptr rfl) hS ?_
                  refine WT_take (dd := some 135) 13 rfl (by kernel_rfl) (by kernel_rfl) (by kernel_rfl) rfl rfl rfl (fun _wq _hq => r_fieldAddr (b := _) (o := _) rfl tb_fo65_0) hS ?_
                  refine WT_take (dd := some 136) 14 rfl (by kernel_rfl) (by kernel_rfl) (by kernel_rfl) rfl rfl rfl (fun _wq _hq => r_fieldAddr (b := _) (o := _) rfl tb_fo24_3) hS ?_
                  refine WT_take (dd := some 137) 15 rfl (by kernel_rfl) (by kernel_rfl) (by kernel_rfl) rfl rfl rfl (fun _wq hq => r_load1 (v := lv) rfl tb_sc22 (At.cell (hq.at hrd) rfl)) hS ?_
                  refine WT_take (dd := some 138) 16 rfl (by kernel_rfl) (by kernel_rfl) (by kernel_rfl) rfl rfl rfl (fun _wq hq => r_lenS (v := lv) rfl ((hq.ow hlv)).sl tb_el22) hS ?_
                  refine WT_take (dd := some 139) 17 rfl (by kernel_rfl) (by kernel_rfl) (by kernel_rfl) rfl rfl rfl (fun _wq _hq => r_eql rfl rfl) hS ?_
                  refine WT_take (dd := some 140) 18 rfl (by kernel_rfl) (by kernel_rfl) (by kernel_rfl) rfl rfl rfl (fun _wq _hq => r_pick_f rfl (v := .bool _) rfl) hS ?_
                  refine WT_one (dd := some 141) 19 (by kernel_rfl) rfl rfl rfl rfl (Yd.call (r_call (q := 51) (first := #[]) (cap := #[]) (vs := #[.bool _]) rfl tb_c51 (by simp only [List.map_toArray, List.map_cons, List.map_nil, List.append_toArray, List.nil_append, List.cons_append]; rfl)) (C___pla_reader__take_1 _ _) (fun v31_19 W245 hE246 hP31_19 => ⟨.inl (hS.trans hE246), ?_⟩))
                  have hsz247 := (Nat.le_trans hN0 (Below.size hB))
                  have sv248_hrd := hrd
                  have sv248_hlv := hlv
                  have sv248_hB := hB
                  replace hrd := hE246.at hrd
                  replace hlv := hE246.ow hlv
                  replace hls := LsO.ext hE246 hls
                  replace hX := Dx.trans hX (Dx.ext hE246)
                  replace hB := below_ext hB hE246 hN0
                  replace hS := hS.trans hE246
                  clear hE246
                  clear hsz247
                  obtain rfl := hP31_19
                  refine WT_take (dd := some 4) 20 rfl (by kernel_rfl) (by kernel_rfl) (by kernel_rfl) rfl rfl rfl (fun _wq _hq => r_assign (v := .int .i64 _) rfl) hS ?_
                  refine WT_done (by kernel_rfl) ?_
                  try clear sv248_hrd sv248_hlv sv248_hB
                  refine hK238 _ _ ?_
                  clear hK238 K237
                  refine WC_ret ?_
                  repeat (first | refine thenQ_ret ?_ | refine blockQ_ret ?_)
                  try clear hK229 K228
                  refine ret_t (v := .int .i64 _) rfl ?_
                  have hpn : ¬ (Lib.hasPrefix line typeW = true ∧ r.st = 2) := by first | exact fun e => hc3 e.2 | exact fun e => Bool.noConfusion (hs14_1.symm.trans e.1)
                  first | (rw [tk_p hc0 hc1 hc2 hpn hs25_2 hc6]; exact ⟨hX, rfl, ⟨lv, vs, hrd, hlv, hls⟩⟩) | (have hpp : ¬ (numP line [46, 112] 0 64 ≥ 0 ∧ r.st ≤ 3) := (by first | exact fun e => hc6 e.2 | exact fun e => hs25_2 e.1); first | (rw [tk_e hc0 hc1 hc2 hpn hpp hc7]; refine ⟨hX, congrArg (Value.int .i64) ?_, ⟨lv, vs, hrd, hlv, hls⟩⟩; first | (rw [decide_eq_true hs31_6]; rfl) | (rw [decide_eq_false hs31_6, Bool.false_or, ← hlen]; rfl)) | (rw [tk_r hc0 hc1 hc2 hpn hpp hc7 hrk33_2]; refine ⟨hX, congrArg (Value.int .i64) ?_, hR33_2⟩; first | exact (if_pos (by omega)).symm | exact (if_neg (by omega)).symm) | (rw [tk_rn hc0 hc1 hc2 hpn hpp hc7 hrk33_2]; exact ⟨hX, rfl, hR33_2⟩))
              ·
                try with_reducible replace hc7 := dec_f hc7
                refine WC_skip ?_
                refine hK229 _ _ ?_
                clear hK229 K228
                refine WC_seq (fun K249 hK250 => ?_)
                refine WC_region ?_
                refine WL_val (dd := some 142) rfl rfl rfl (r_move (v := .pointer (some ⟨br, 0, none⟩)) rfl) ?_
                refine WL_val (dd := some 143) rfl rfl rfl (r_nilCheck_ptr rfl) ?_
                refine WL_val (dd := some 144) rfl rfl rfl (r_fieldAddr (b := _) (o := _) rfl tb_fo65_0) ?_
                refine WL_val (dd := some 145) rfl rfl rfl (r_fieldAddr (b := _) (o := _) rfl tb_fo24_3) ?_
                refine WL_val (dd := some 146) rfl rfl rfl (r_load1 (v := lv) rfl tb_sc22 (At.cell hrd rfl)) ?_
                refine WL_val (dd := some 147) rfl rfl rfl (r_lenS (v := lv) rfl hlv.sl tb_el22) ?_
                refine WL_val (dd := some 148) rfl rfl rfl (r_eql rfl rfl) ?_
                refine WL_val (dd := some 11) rfl rfl rfl (r_assign (v := .bool _) rfl) ?_
                refine WL_nil ?_
                refine hK250 _ _ ?_
                clear hK250 K249
                refine WC_seq (fun K251 hK252 => ?_)
                refine WC_seq (fun K253 hK254 => ?_)
                refine WC_region ?_
                refine WL_val (dd := some 149) rfl rfl rfl (r_move (v := .pointer (some ⟨br, 0, none⟩)) rfl) ?_
                refine WL_val (dd := some 150) rfl rfl rfl (r_move (v := .string _) rfl) ?_
                refine WL_callG (dd := some 151) rfl rfl rfl (r_call2 tb_c54 (v0 := .pointer (some ⟨br, 0, none⟩)) rfl (v1 := .string _) rfl) (C___pla_reader__row N br ⟨r.T, 4, r.told⟩ line _ (Nat.le_trans hN0 (Below.size hB)) (fun _ h => hgl _ (Below.trans hB h)) hl lob h64 ⟨lv, vs, hrd, hlv, hls⟩) (fun v33_2 W255 hP33_2 => ?_)
                obtain ⟨hX33_2, hP33_2⟩ := hP33_2
                replace hB := Below.dx hB (Nat.le_refl _) hN0 hX33_2
                replace hX := hX.trans hX33_2
                clear hrd
                clear hlv
                clear hls
                rcases hP33_2 with hP33_2 | hP33_2
                ·
                  obtain ⟨hrk33_2, rfl, hR33_2⟩ := hP33_2
                  refine WL_val (dd := some 152) rfl rfl rfl (r_not rfl) ?_
                  refine WL_nil ?_
                  refine hK254 _ _ ?_
                  clear hK254 K253
                  refine WC_cond_false rfl ?_
                  refine WC_skip ?_
                  refine hK252 _ _ ?_
                  clear hK252 K251
                  refine WC_seq (fun K257 hK258 => ?_)
                  refine WC_seq (fun K259 hK260 => ?_)
                  refine WC_region ?_
                  refine WL_val (dd := some 153) rfl rfl rfl (r_move (v := .bool _) rfl) ?_
                  refine WL_nil ?_
                  refine hK260 _ _ ?_
                  clear hK260 K259
                  refine WC_cond (b := _) rfl (fun hc9 => ?_) (fun hc9 => ?_)
                  ·
                    try with_reducible replace hc9 := dec_t hc9
                    refine WC_seq (fun K261 hK262 => ?_)
                    refine WC_region ?_
                    refine WL_val (dd := some 4) rfl rfl rfl (r_assign (v := .int .i64 3) rfl) ?_
                    refine WL_nil ?_
                    refine hK262 _ _ ?_
                    clear hK262 K261
                    refine WC_ret ?_
                    repeat (first | refine thenQ_ret ?_ | refine blockQ_ret ?_)
                    try clear hK258 K257
                    refine ret_t (v := .int .i64 3) rfl ?_
                    have hpn : ¬ (Lib.hasPrefix line typeW = true ∧ r.st = 2) := by first | exact fun e => hc3 e.2 | exact fun e => Bool.noConfusion (hs14_1.symm.trans e.1)
                    first | (rw [tk_p hc0 hc1 hc2 hpn hs25_2 hc6]; exact ⟨hX, rfl, ⟨lv, vs, hrd, hlv, hls⟩⟩) | (have hpp : ¬ (numP line [46, 112] 0 64 ≥ 0 ∧ r.st ≤ 3) := (by first | exact fun e => hc6 e.2 | exact fun e => hs25_2 e.1); first | (rw [tk_e hc0 hc1 hc2 hpn hpp hc7]; refine ⟨hX, congrArg (Value.int .i64) ?_, ⟨lv, vs, hrd, hlv, hls⟩⟩; first | (rw [decide_eq_true hs31_6]; rfl) | (rw [decide_eq_false hs31_6, Bool.false_or, ← hlen]; rfl)) | (rw [tk_r hc0 hc1 hc2 hpn hpp hc7 hrk33_2]; refine ⟨hX, congrArg (Value.int .i64) ?_, hR33_2⟩; first | exact (if_pos (by omega)).symm | exact (if_neg (by omega)).symm) | (rw [tk_rn hc0 hc1 hc2 hpn hpp hc7 hrk33_2]; exact ⟨hX, rfl, hR33_2⟩))
                  ·
                    try with_reducible replace hc9 := dec_f hc9
                    refine WC_skip ?_
                    refine hK258 _ _ ?_
                    clear hK258 K257
                    refine WC_seq (fun K263 hK264 => ?_)
                    refine WC_region ?_
                    refine WL_val (dd := some 4) rfl rfl rfl (r_assign (v := .int .i64 0) rfl) ?_
                    refine WL_nil ?_
                    refine hK264 _ _ ?_
                    clear hK264 K263
                    refine WC_ret ?_
                    repeat (first | refine thenQ_ret ?_ | refine blockQ_ret ?_)
                    refine ret_t (v := .int .i64 0) rfl ?_
                    have hpn : ¬ (Lib.hasPrefix line typeW = true ∧ r.st = 2) := by first | exact fun e => hc3 e.2 | exact fun e => Bool.noConfusion (hs14_1.symm.trans e.1)
                    first | (rw [tk_p hc0 hc1 hc2 hpn hs25_2 hc6]; exact ⟨hX, rfl, ⟨lv, vs, hrd, hlv, hls⟩⟩) | (have hpp : ¬ (numP line [46, 112] 0 64 ≥ 0 ∧ r.st ≤ 3) := (by first | exact fun e => hc6 e.2 | exact fun e => hs25_2 e.1); first | (rw [tk_e hc0 hc1 hc2 hpn hpp hc7]; refine ⟨hX, congrArg (Value.int .i64) ?_, ⟨lv, vs, hrd, hlv, hls⟩⟩; first | (rw [decide_eq_true hs31_6]; rfl) | (rw [decide_eq_false hs31_6, Bool.false_or, ← hlen]; rfl)) | (rw [tk_r hc0 hc1 hc2 hpn hpp hc7 hrk33_2]; refine ⟨hX, congrArg (Value.int .i64) ?_, hR33_2⟩; first | exact (if_pos (by omega)).symm | exact (if_neg (by omega)).symm) | (rw [tk_rn hc0 hc1 hc2 hpn hpp hc7 hrk33_2]; exact ⟨hX, rfl, hR33_2⟩))
                ·
                  obtain ⟨hrk33_2, rfl, hR33_2⟩ := hP33_2
                  refine WL_val (dd := some 152) rfl rfl rfl (r_not rfl) ?_
                  refine WL_nil ?_
                  refine hK254 _ _ ?_
                  clear hK254 K253
                  refine WC_cond_true rfl ?_
                  refine WC_seq (fun K265 hK266 => ?_)
                  refine WC_region ?_
                  refine WL_val (dd := some 4) rfl rfl rfl (r_assign (v := .int .i64 2) rfl) ?_
                  refine WL_nil ?_
                  refine hK266 _ _ ?_
                  clear hK266 K265
                  refine WC_ret ?_
                  repeat (first | refine thenQ_ret ?_ | refine blockQ_ret ?_)
                  try clear hK252 K251
                  refine ret_t (v := .int .i64 2) rfl ?_
                  have hpn : ¬ (Lib.hasPrefix line typeW = true ∧ r.st = 2) := by first | exact fun e => hc3 e.2 | exact fun e => Bool.noConfusion (hs14_1.symm.trans e.1)
                  first | (rw [tk_p hc0 hc1 hc2 hpn hs25_2 hc6]; exact ⟨hX, rfl, ⟨lv, vs, hrd, hlv, hls⟩⟩) | (have hpp : ¬ (numP line [46, 112] 0 64 ≥ 0 ∧ r.st ≤ 3) := (by first | exact fun e => hc6 e.2 | exact fun e => hs25_2 e.1); first | (rw [tk_e hc0 hc1 hc2 hpn hpp hc7]; refine ⟨hX, congrArg (Value.int .i64) ?_, ⟨lv, vs, hrd, hlv, hls⟩⟩; first | (rw [decide_eq_true hs31_6]; rfl) | (rw [decide_eq_false hs31_6, Bool.false_or, ← hlen]; rfl)) | (rw [tk_r hc0 hc1 hc2 hpn hpp hc7 hrk33_2]; refine ⟨hX, congrArg (Value.int .i64) ?_, hR33_2⟩; first | exact (if_pos (by omega)).symm | exact (if_neg (by omega)).symm) | (rw [tk_rn hc0 hc1 hc2 hpn hpp hc7 hrk33_2]; exact ⟨hX, rfl, hR33_2⟩))
          ·
            try with_reducible replace hs25_2 := dec_f hs25_2
            refine WL_skip (dd := some 101) rfl rfl rfl ?_
            refine WL_skip (dd := some 102) rfl rfl rfl ?_
            refine WL_skip (dd := some 103) rfl rfl rfl ?_
            refine WL_skip (dd := some 104) rfl rfl rfl ?_
            refine WL_skip (dd := some 105) rfl rfl rfl ?_
            refine WL_val (dd := some 106) rfl rfl rfl (r_pick_f rfl (v := .bool false) rfl) ?_
            refine WL_nil ?_
            refine hK212 _ _ ?_
            clear hK212 K211
            refine WC_cond_false rfl ?_
            refine WC_skip ?_
            refine hK205 _ _ ?_
            clear hK205 K204
            refine WC_seq (fun K267 hK268 => ?_)
            refine WC_region ?_
            refine WL_val (dd := some 114) rfl rfl rfl (r_move (v := .pointer (some ⟨br, 0, none⟩)) rfl) ?_
            refine WL_val (dd := some 115) rfl rfl rfl (r_nilCheck_ptr rfl) ?_
            refine WL_val (dd := some 116) rfl rfl rfl (r_fieldAddr (b := _) (o := _) rfl tb_fo65_1) ?_
            refine WL_step (dd := none) rfl rfl rfl (Y_store1 (v := .int .i64 4) rfl rfl tb_sc3 rfl hrd (by simp) (fun W269 hG270 hm271 => ?_))
            replace hlv := OwT.grownAt hlv hrd hG270 (by decide)
            replace hls := LsO.grownAt hls hrd hG270 (by decide)
            replace hX := Dx.trans hX (Dx.grown hG270 (by simp) lob)
            replace hB := below_grown hB hG270 hN0 (fun j hj => by cases hj; exact lob)
            clear hG270 hrd
            have hrd := hm271
            clear hm271
            replace hrd : At _ _ #[_, _, _, _, _, _] _ := hrd
            refine WL_nil ?_
            refine hK268 _ _ ?_
            clear hK268 K267
            refine WC_seq (fun K272 hK273 => ?_)
            refine WC_seq (fun K274 hK275 => ?_)
            refine WC_region ?_
            refine WL_val (dd := some 117) rfl rfl rfl (r_move (v := .string _) rfl) ?_
            refine WL_val (dd := some 118) rfl rfl rfl (r_eqlW rfl rfl) ?_
            refine WL_nil ?_
            refine hK275 _ _ ?_
            clear hK275 K274
            refine WC_cond (b := _) rfl (fun hc7 => ?_) (fun hc7 => ?_)
            ·
              try with_reducible replace hc7 := dec_t hc7
              refine WC_seq (fun K276 hK277 => ?_)
              refine WC_region ?_
              refine WL_val (dd := some 119) rfl rfl rfl (r_move (v := .pointer (some ⟨br, 0, none⟩)) rfl) ?_
              refine WL_val (dd := some 120) rfl rfl rfl (r_nilCheck_ptr rfl) ?_
              refine WL_val (dd := some 121) rfl rfl rfl (r_fieldAddr (b := _) (o := _) rfl tb_fo65_1) ?_
              refine WL_step (dd := none) rfl rfl rfl (Y_store1 (v := .int .i64 5) rfl rfl tb_sc3 rfl hrd (by simp) (fun W278 hG279 hm280 => ?_))
              replace hlv := OwT.grownAt hlv hrd hG279 (by decide)
              replace hls := LsO.grownAt hls hrd hG279 (by decide)
              replace hX := Dx.trans hX (Dx.grown hG279 (by simp) lob)
              replace hB := below_grown hB hG279 hN0 (fun j hj => by cases hj; exact lob)
              clear hG279 hrd
              have hrd := hm280
              clear hm280
              replace hrd : At _ _ #[_, _, _, _, _, _] _ := hrd
              refine WL_nil ?_
              refine hK277 _ _ ?_
              clear hK277 K276
              refine WC_seq (fun K281 hK282 => ?_)
              refine WC_draw Ext tb_mix (fun W283 hE284 => ?_)
              replace hrd := hE284.at hrd
              replace hlv := hE284.ow hlv
              replace hls := LsO.ext hE284 hls
              replace hX := Dx.trans hX (Dx.ext hE284)
              replace hB := below_ext hB hE284 hN0
              have hS := Ext.refl W283
              refine WT_take (dd := some 122) 0 rfl (by kernel_rfl) (by kernel_rfl) (by kernel_rfl) rfl rfl rfl (fun _wq _hq => r_move (v := .func (.func 51) #[] #[]) rfl) hS ?_
              refine WT_take (dd := some 123) 1 rfl (by kernel_rfl) (by kernel_rfl) (by kernel_rfl) rfl rfl rfl (fun _wq _hq => r_move (v := .pointer (some ⟨br, 0, none⟩)) rfl) hS ?_
              refine WT_take (dd := some 124) 2 rfl (by kernel_rfl) (by kernel_rfl) (by kernel_rfl) rfl rfl rfl (fun _wq _hq => r_nilCheck_ptr rfl) hS ?_
              refine WT_take (dd := some 125) 3 rfl (by kernel_rfl) (by kernel_rfl) (by kernel_rfl) rfl rfl rfl (fun _wq _hq => r_fieldAddr (b := _) (o := _) rfl tb_fo65_2) hS ?_
              refine WT_take (dd := some 126) 4 rfl (by kernel_rfl) (by kernel_rfl) (by kernel_rfl) rfl rfl rfl (fun _wq hq => r_load1 (v := .int .i64 _) rfl tb_sc3 (At.cell (hq.at hrd) rfl)) hS ?_
              refine WT_take (dd := some 127) 5 rfl (by kernel_rfl) (by kernel_rfl) (by kernel_rfl) rfl rfl rfl (fun _wq _hq => r_lss rfl rfl) hS ?_
              refine WT_split (dd := some 128) 6 rfl (by kernel_rfl) (by kernel_rfl) (by kernel_rfl) rfl rfl rfl (fun wq hq => r_move (v := .bool _) rfl) hS (fun hs31_6 => ?_) (fun hs31_6 => ?_)
              ·
                try with_reducible replace hs31_6 := dec_t hs31_6
                refine WT_pass (dd := some 129) 7 rfl (by kernel_rfl) (by kernel_rfl) (by kernel_rfl) rfl rfl rfl hS ?_
                refine WT_pass (dd := some 130) 8 rfl (by kernel_rfl) (by kernel_rfl) (by kernel_rfl) rfl rfl rfl hS ?_
                refine WT_pass (dd := some 131) 9 rfl (by kernel_rfl) (by kernel_rfl) (by kernel_rfl) rfl rfl rfl hS ?_
                refine WT_pass (dd := some 132) 10 rfl (by kernel_rfl) (by kernel_rfl) (by kernel_rfl) rfl rfl rfl hS ?_
                refine WT_pass (dd := some 133) 11 rfl (by kernel_rfl) (by kernel_rfl) (by kernel_rfl) rfl rfl rfl hS ?_
                refine WT_pass (dd := some 134) 12 rfl (by kernel_rfl) (by kernel_rfl) (by kernel_rfl) rfl rfl rfl hS ?_
                refine WT_pass (dd := some 135) 13 rfl (by kernel_rfl) (by kernel_rfl) (by kernel_rfl) rfl rfl rfl hS ?_
                refine WT_pass (dd := some 136) 14 rfl (by kernel_rfl) (by kernel_rfl) (by kernel_rfl) rfl rfl rfl hS ?_
                refine WT_pass (dd := some 137) 15 rfl (by kernel_rfl) (by kernel_rfl) (by kernel_rfl) rfl rfl rfl hS ?_
                refine WT_pass (dd := some 138) 16 rfl (by kernel_rfl) (by kernel_rfl) (by kernel_rfl) rfl rfl rfl hS ?_
                refine WT_pass (dd := some 139) 17 rfl (by kernel_rfl) (by kernel_rfl) (by kernel_rfl) rfl rfl rfl hS ?_
                refine WT_take (dd := some 140) 18 rfl (by kernel_rfl) (by kernel_rfl) (by kernel_rfl) rfl rfl rfl (fun _wq _hq => r_pick_t rfl (v := .bool true) rfl) hS ?_
                refine WT_one (dd := some 141) 19 (by kernel_rfl) rfl rfl rfl rfl (Yd.call (r_call (q := 51) (first := #[]) (cap := #[]) (vs := #[.bool true]) rfl tb_c51 (by simp only [List.map_toArray, List.map_cons, List.map_nil, List.append_toArray, List.nil_append, List.cons_append]; rfl)) (C___pla_reader__take_1 _ _) (fun v31_19 W285 hE286 hP31_19 => ⟨.inl (hS.trans hE286), ?_⟩))
                have hsz287 := (Nat.le_trans hN0 (Below.size hB))
                have sv288_hrd := hrd
                have sv288_hlv := hlv
                have sv288_hB := hB
                replace hrd := hE286.at hrd
                replace hlv := hE286.ow hlv
                replace hls := LsO.ext hE286 hls
                replace hX := Dx.trans hX (Dx.ext hE286)
                replace hB := below_ext hB hE286 hN0
                replace hS := hS.trans hE286
                clear hE286
                clear hsz287
                obtain rfl := hP31_19
                refine WT_take (dd := some 4) 20 rfl (by kernel_rfl) (by kernel_rfl) (by kernel_rfl) rfl rfl rfl (fun _wq _hq => r_assign (v := .int .i64 _) rfl) hS ?_
                refine WT_done (by kernel_rfl) ?_
                try clear sv288_hrd sv288_hlv sv288_hB
                refine hK282 _ _ ?_
                clear hK282 K281
                refine WC_ret ?_
                repeat (first | refine thenQ_ret ?_ | refine blockQ_ret ?_)
                try clear hK273 K272
                refine ret_t (v := .int .i64 _) rfl ?_
                have hpn : ¬ (Lib.hasPrefix line typeW = true ∧ r.st = 2) := by first | exact fun e => hc3 e.2 | exact fun e => Bool.noConfusion (hs14_1.symm.trans e.1)
                first | (rw [tk_p hc0 hc1 hc2 hpn hs25_2 hc6]; exact ⟨hX, rfl, ⟨lv, vs, hrd, hlv, hls⟩⟩) | (have hpp : ¬ (numP line [46, 112] 0 64 ≥ 0 ∧ r.st ≤ 3) := (by first | exact fun e => hc6 e.2 | exact fun e => hs25_2 e.1); first | (rw [tk_e hc0 hc1 hc2 hpn hpp hc7]; refine ⟨hX, congrArg (Value.int .i64) ?_, ⟨lv, vs, hrd, hlv, hls⟩⟩; first | (rw [decide_eq_true hs31_6]; rfl) | (rw [decide_eq_false hs31_6, Bool.false_or, ← hlen]; rfl)) | (rw [tk_r hc0 hc1 hc2 hpn hpp hc7 hrk33_2]; refine ⟨hX, congrArg (Value.int .i64) ?_, hR33_2⟩; first | exact (if_pos (by omega)).symm | exact (if_neg (by omega)).symm) | (rw [tk_rn hc0 hc1 hc2 hpn hpp hc7 hrk33_2]; exact ⟨hX, rfl, hR33_2⟩))
              ·
                try with_reducible replace hs31_6 := dec_f hs31_6
                refine WT_take (dd := some 129) 7 rfl (by kernel_rfl) (by kernel_rfl) (by kernel_rfl) rfl rfl rfl (fun _wq _hq => r_move (v := .pointer (some ⟨br, 0, none⟩)) rfl) hS ?_
                refine WT_take (dd := some 130) 8 rfl (by kernel_rfl) (by kernel_rfl) (by kernel_rfl) rfl rfl rfl (fun _wq _hq => r_nilCheck_ptr rfl) hS ?_
                refine WT_take (dd := some 131) 9 rfl (by kernel_rfl) (by kernel_rfl) (by kernel_rfl) rfl rfl rfl (fun _wq _hq => r_fieldAddr (b := _) (o := _) rfl tb_fo65_2) hS ?_
                refine WT_take (dd := some 132) 10 rfl (by kernel_rfl) (by kernel_rfl) (by kernel_rfl) rfl rfl rfl (fun _wq hq => r_load1 (v := .int .i64 _) rfl tb_sc3 (At.cell (hq.at hrd) rfl)) hS ?_
                refine WT_take (dd := some 133) 11 rfl (by kernel_rfl) (by kernel_rfl) (by kernel_rfl) rfl rfl rfl (fun _wq _hq => r_move (v := .pointer (some ⟨br, 0, none⟩)) rfl) hS ?_
                refine WT_take (dd := some 134) 12 rfl (by kernel_rfl) (by kernel_rfl) (by kernel_rfl) rfl rfl rfl (fun _wq _hq => r_nilCheck_ptr rfl) hS ?_
                refine WT_take (dd := some 135) 13 rfl (by kernel_rfl) (by kernel_rfl) (by kernel_rfl) rfl rfl rfl (fun _wq _hq => r_fieldAddr (b := _) (o := _) rfl tb_fo65_0) hS ?_
                refine WT_take (dd := some 136) 14 rfl (by kernel_rfl) (by kernel_rfl) (by kernel_rfl) rfl rfl rfl (fun _wq _hq => r_fieldAddr (b := _) (o := _) rfl tb_fo24_3) hS ?_
                refine WT_take (dd := some 137) 15 rfl (by kernel_rfl) (by kernel_rfl) (by kernel_rfl) rfl rfl rfl (fun _wq hq => r_load1 (v := lv) rfl tb_sc22 (At.cell (hq.at hrd) rfl)) hS ?_
                refine WT_take (dd := some 138) 16 rfl (by kernel_rfl) (by kernel_rfl) (by kernel_rfl) rfl rfl rfl (fun _wq hq => r_lenS (v := lv) rfl ((hq.ow hlv)).sl tb_el22) hS ?_
                refine WT_take (dd := some 139) 17 rfl (by kernel_rfl) (by kernel_rfl) (by kernel_rfl) rfl rfl rfl (fun _wq _hq => r_eql rfl rfl) hS ?_
                refine WT_take (dd := some 140) 18 rfl (by kernel_rfl) (by kernel_rfl) (by kernel_rfl) rfl rfl rfl (fun _wq _hq => r_pick_f rfl (v := .bool _) rfl) hS ?_
                refine WT_one (dd := some 141) 19 (by kernel_rfl) rfl rfl rfl rfl (Yd.call (r_call (q := 51) (first := #[]) (cap := #[]) (vs := #[.bool _]) rfl tb_c51 (by simp only [List.map_toArray, List.map_cons, List.map_nil, List.append_toArray, List.nil_append, List.cons_append]; rfl)) (C___pla_reader__take_1 _ _) (fun v31_19 W289 hE290 hP31_19 => ⟨.inl (hS.trans hE290), ?_⟩))
                have hsz291 := (Nat.le_trans hN0 (Below.size hB))
                have sv292_hrd := hrd
                have sv292_hlv := hlv
                have sv292_hB := hB
                replace hrd := hE290.at hrd
                replace hlv := hE290.ow hlv
                replace hls := LsO.ext hE290 hls
                replace hX := Dx.trans hX (Dx.ext hE290)
                replace hB := below_ext hB hE290 hN0
                replace hS := hS.trans hE290
                clear hE290
                clear hsz291
                obtain rfl := hP31_19
                refine WT_take (dd := some 4) 20 rfl (by kernel_rfl) (by kernel_rfl) (by kernel_rfl) rfl rfl rfl (fun _wq _hq => r_assign (v := .int .i64 _) rfl) hS ?_
                refine WT_done (by kernel_rfl) ?_
                try clear sv292_hrd sv292_hlv sv292_hB
                refine hK282 _ _ ?_
                clear hK282 K281
                refine WC_ret ?_
                repeat (first | refine thenQ_ret ?_ | refine blockQ_ret ?_)
                try clear hK273 K272
                refine ret_t (v := .int .i64 _) rfl ?_
                have hpn : ¬ (Lib.hasPrefix line typeW = true ∧ r.st = 2) := by first | exact fun e => hc3 e.2 | exact fun e => Bool.noConfusion (hs14_1.symm.trans e.1)
                first | (rw [tk_p hc0 hc1 hc2 hpn hs25_2 hc6]; exact ⟨hX, rfl, ⟨lv, vs, hrd, hlv, hls⟩⟩) | (have hpp : ¬ (numP line [46, 112] 0 64 ≥ 0 ∧ r.st ≤ 3) := (by first | exact fun e => hc6 e.2 | exact fun e => hs25_2 e.1); first | (rw [tk_e hc0 hc1 hc2 hpn hpp hc7]; refine ⟨hX, congrArg (Value.int .i64) ?_, ⟨lv, vs, hrd, hlv, hls⟩⟩; first | (rw [decide_eq_true hs31_6]; rfl) | (rw [decide_eq_false hs31_6, Bool.false_or, ← hlen]; rfl)) | (rw [tk_r hc0 hc1 hc2 hpn hpp hc7 hrk33_2]; refine ⟨hX, congrArg (Value.int .i64) ?_, hR33_2⟩; first | exact (if_pos (by omega)).symm | exact (if_neg (by omega)).symm) | (rw [tk_rn hc0 hc1 hc2 hpn hpp hc7 hrk33_2]; exact ⟨hX, rfl, hR33_2⟩))
            ·
              try with_reducible replace hc7 := dec_f hc7
              refine WC_skip ?_
              refine hK273 _ _ ?_
              clear hK273 K272
              refine WC_seq (fun K293 hK294 => ?_)
              refine WC_region ?_
              refine WL_val (dd := some 142) rfl rfl rfl (r_move (v := .pointer (some ⟨br, 0, none⟩)) rfl) ?_
              refine WL_val (dd := some 143) rfl rfl rfl (r_nilCheck_ptr rfl) ?_
              refine WL_val (dd := some 144) rfl rfl rfl (r_fieldAddr (b := _) (o := _) rfl tb_fo65_0) ?_
              refine WL_val (dd := some 145) rfl rfl rfl (r_fieldAddr (b := _) (o := _) rfl tb_fo24_3) ?_
              refine WL_val (dd := some 146) rfl rfl rfl (r_load1 (v := lv) rfl tb_sc22 (At.cell hrd rfl)) ?_
              refine WL_val (dd := some 147) rfl rfl rfl (r_lenS (v := lv) rfl hlv.sl tb_el22) ?_
              refine WL_val (dd := some 148) rfl rfl rfl (r_eql rfl rfl) ?_
              refine WL_val (dd := some 11) rfl rfl rfl (r_assign (v := .bool _) rfl) ?_
              refine WL_nil ?_
              refine hK294 _ _ ?_
              clear hK294 K293
              refine WC_seq (fun K295 hK296 => ?_)
              refine WC_seq (fun K297 hK298 => ?_)
              refine WC_region ?_
              refine WL_val (dd := some 149) rfl rfl rfl (r_move (v := .pointer (some ⟨br, 0, none⟩)) rfl) ?_
              refine WL_val (dd := some 150) rfl rfl rfl (r_move (v := .string _) rfl) ?_
              refine WL_callG (dd := some 151) rfl rfl rfl (r_call2 tb_c54 (v0 := .pointer (some ⟨br, 0, none⟩)) rfl (v1 := .string _) rfl) (C___pla_reader__row N br ⟨r.T, 4, r.told⟩ line _ (Nat.le_trans hN0 (Below.size hB)) (fun _ h => hgl _ (Below.trans hB h)) hl lob h64 ⟨lv, vs, hrd, hlv, hls⟩) (fun v33_2 W299 hP33_2 => ?_)
              obtain ⟨hX33_2, hP33_2⟩ := hP33_2
              replace hB := Below.dx hB (Nat.le_refl _) hN0 hX33_2
              replace hX := hX.trans hX33_2
              clear hrd
              clear hlv
              clear hls
              rcases hP33_2 with hP33_2 | hP33_2
              ·
                obtain ⟨hrk33_2, rfl, hR33_2⟩ := hP33_2
                refine WL_val (dd := some 152) rfl rfl rfl (r_not rfl) ?_
                refine WL_nil ?_
                refine hK298 _ _ ?_
                clear hK298 K297
                refine WC_cond_false rfl ?_
                refine WC_skip ?_
                refine hK296 _ _ ?_
                clear hK296 K295
                refine WC_seq (fun K301 hK302 => ?_)
                refine WC_seq (fun K303 hK304 => ?_)
                refine WC_region ?_
                refine WL_val (dd := some 153) rfl rfl rfl (r_move (v := .bool _) rfl) ?_
                refine WL_nil ?_
                refine hK304 _ _ ?_
                clear hK304 K303
                refine WC_cond (b := _) rfl (fun hc9 => ?_) (fun hc9 => ?_)
                ·
                  try with_reducible replace hc9 := dec_t hc9
                  refine WC_seq (fun K305 hK306 => ?_)
                  refine WC_region ?_
                  refine WL_val (dd := some 4) rfl rfl rfl (r_assign (v := .int .i64 3) rfl) ?_
                  refine WL_nil ?_
                  refine hK306 _ _ ?_
                  clear hK306 K305
                  refine WC_ret ?_
                  repeat (first | refine thenQ_ret ?_ | refine blockQ_ret ?_)
                  try clear hK302 K301
                  refine ret_t (v := .int .i64 3) rfl ?_
                  have hpn : ¬ (Lib.hasPrefix line typeW = true ∧ r.st = 2) := by first | exact fun e => hc3 e.2 | exact fun e => Bool.noConfusion (hs14_1.symm.trans e.1)
                  first | (rw [tk_p hc0 hc1 hc2 hpn hs25_2 hc6]; exact ⟨hX, rfl, ⟨lv, vs, hrd, hlv, hls⟩⟩) | (have hpp : ¬ (numP line [46, 112] 0 64 ≥ 0 ∧ r.st ≤ 3) := (by first | exact fun e => hc6 e.2 | exact fun e => hs25_2 e.1); first | (rw [tk_e hc0 hc1 hc2 hpn hpp hc7]; refine ⟨hX, congrArg (Value.int .i64) ?_, ⟨lv, vs, hrd, hlv, hls⟩⟩; first | (rw [decide_eq_true hs31_6]; rfl) | (rw [decide_eq_false hs31_6, Bool.false_or, ← hlen]; rfl)) | (rw [tk_r hc0 hc1 hc2 hpn hpp hc7 hrk33_2]; refine ⟨hX, congrArg (Value.int .i64) ?_, hR33_2⟩; first | exact (if_pos (by omega)).symm | exact (if_neg (by omega)).symm) | (rw [tk_rn hc0 hc1 hc2 hpn hpp hc7 hrk33_2]; exact ⟨hX, rfl, hR33_2⟩))
                ·
                  try with_reducible replace hc9 := dec_f hc9
                  refine WC_skip ?_
                  refine hK302 _ _ ?_
                  clear hK302 K301
                  refine WC_seq (fun K307 hK308 => ?_)
                  refine WC_region ?_
                  refine WL_val (dd := some 4) rfl rfl rfl (r_assign (v := .int .i64 0) rfl) ?_
                  refine WL_nil ?_
                  refine hK308 _ _ ?_
                  clear hK308 K307
                  refine WC_ret ?_
                  repeat (first | refine thenQ_ret ?_ | refine blockQ_ret ?_)
                  refine ret_t (v := .int .i64 0) rfl ?_
                  have hpn : ¬ (Lib.hasPrefix line typeW = true ∧ r.st = 2) := by first | exact fun e => hc3 e.2 | exact fun e => Bool.noConfusion (hs14_1.symm.trans e.1)
                  first | (rw [tk_p hc0 hc1 hc2 hpn hs25_2 hc6]; exact ⟨hX, rfl, ⟨lv, vs, hrd, hlv, hls⟩⟩) | (have hpp : ¬ (numP line [46, 112] 0 64 ≥ 0 ∧ r.st ≤ 3) := (by first | exact fun e => hc6 e.2 | exact fun e => hs25_2 e.1); first | (rw [tk_e hc0 hc1 hc2 hpn hpp hc7]; refine ⟨hX, congrArg (Value.int .i64) ?_, ⟨lv, vs, hrd, hlv, hls⟩⟩; first | (rw [decide_eq_true hs31_6]; rfl) | (rw [decide_eq_false hs31_6, Bool.false_or, ← hlen]; rfl)) | (rw [tk_r hc0 hc1 hc2 hpn hpp hc7 hrk33_2]; refine ⟨hX, congrArg (Value.int .i64) ?_, hR33_2⟩; first | exact (if_pos (by omega)).symm | exact (if_neg (by omega)).symm) | (rw [tk_rn hc0 hc1 hc2 hpn hpp hc7 hrk33_2]; exact ⟨hX, rfl, hR33_2⟩))
              ·
                obtain ⟨hrk33_2, rfl, hR33_2⟩ := hP33_2
                refine WL_val (dd := some 152) rfl rfl rfl (r_not rfl) ?_
                refine WL_nil ?_
                refine hK298 _ _ ?_
                clear hK298 K297
                refine WC_cond_true rfl ?_
                refine WC_seq (fun K309 hK310 => ?_)
                refine WC_region ?_
                refine WL_val (dd := some 4) rfl rfl rfl (r_assign (v := .int .i64 2) rfl) ?_
                refine WL_nil ?_
                refine hK310 _ _ ?_
                clear hK310 K309
                refine WC_ret ?_
                repeat (first | refine thenQ_ret ?_ | refine blockQ_ret ?_)
                try clear hK296 K295
                refine ret_t (v := .int .i64 2) rfl ?_
                have hpn : ¬ (Lib.hasPrefix line typeW = true ∧ r.st = 2) := by first | exact fun e => hc3 e.2 | exact fun e => Bool.noConfusion (hs14_1.symm.trans e.1)
                first | (rw [tk_p hc0 hc1 hc2 hpn hs25_2 hc6]; exact ⟨hX, rfl, ⟨lv, vs, hrd, hlv, hls⟩⟩) | (have hpp : ¬ (numP line [46, 112] 0 64 ≥ 0 ∧ r.st ≤ 3) := (by first | exact fun e => hc6 e.2 | exact fun e => hs25_2 e.1); first | (rw [tk_e hc0 hc1 hc2 hpn hpp hc7]; refine ⟨hX, congrArg (Value.int .i64) ?_, ⟨lv, vs, hrd, hlv, hls⟩⟩; first | (rw [decide_eq_true hs31_6]; rfl) | (rw [decide_eq_false hs31_6, Bool.false_or, ← hlen]; rfl)) | (rw [tk_r hc0 hc1 hc2 hpn hpp hc7 hrk33_2]; refine ⟨hX, congrArg (Value.int .i64) ?_, hR33_2⟩; first | exact (if_pos (by omega)).symm | exact (if_neg (by omega)).symm) | (rw [tk_rn hc0 hc1 hc2 hpn hpp hc7 hrk33_2]; exact ⟨hX, rfl, hR33_2⟩))

theorem C_pla_Parse (s : List UInt8) (w : World) (hgl : Gl w) (hsl : s.length ≤ 100000) :
    Fn Tryd.prog 15 #[keyW s] w fun v w' => ∃ lv vs, v = .tuple #[.agg #[.int .i64 (parseT s).1.kind, .int .i64 (parseT s).1.ni, .int .i64 (parseT s).1.no, lv], .int .i64 ((parseT s).2.1 : Int), .int .i64 (parseT s).2.2] ∧ SlT encLn 3 w' lv vs ∧ LsAt w' vs (parseT s).1.ls := by
  refine Fn_intro (n := 68) Tryd.func15 rfl rfl (Nat.le_of_ble_eq_true rfl) ?_
  have hB : Below w.heap.size w w := Below.refl _ _
  have hlc := lines_count s
  obtain ⟨n, hn⟩ : ∃ n, (linesL s).length = n + 1 := ⟨(linesL s).length - 1, by have := List.length_pos_iff.2 (linesL_ne s); omega⟩
  refine WC_seq (fun K1 hK2 => ?_)
  refine WC_region ?_
  refine WL_step (dd := some 2) rfl rfl rfl (Y_alloc tb_z24 rfl (fun b0_0 W3 hb4 hE5 hm0_0 => ?_))
  have lo_b0_0 : w.heap.size ≤ b0_0 := hb4 ▸ (Below.size hB)
  clear hb4
  replace hB := below_ext hB hE5 (Nat.le_refl _)
  clear hE5
  refine WL_val (dd := some 3) rfl rfl rfl (r_assign (v := .int .i64 0) rfl) ?_
  refine WL_val (dd := some 4) rfl rfl rfl (r_assign (v := .int .i64 0) rfl) ?_
  refine WL_nil ?_
  refine hK2 _ _ ?_
  clear hK2 K1
  refine WC_seq (fun K6 hK7 => ?_)
  refine WC_seq (fun K8 hK9 => ?_)
  refine WC_region ?_
  refine WL_val (dd := some 11) rfl rfl rfl (r_move (v := .string _) rfl) ?_
  refine WL_val (dd := some 12) rfl rfl rfl (r_lenW rfl Tryd.underlying9) ?_
  refine WL_val (dd := some 13) rfl rfl rfl (r_gtr rfl rfl) ?_
  refine WL_nil ?_
  refine hK9 _ _ ?_
  clear hK9 K8
  refine WC_cond (b := _) rfl (fun hc0 => ?_) (fun hc0 => ?_)
  ·
    try with_reducible replace hc0 := dec_t hc0
    refine WC_seq (fun K10 hK11 => ?_)
    refine WC_region ?_
    refine WL_val (dd := some 14) rfl rfl rfl (tb_build24_ ) ?_
    refine WL_step (dd := none) rfl rfl rfl (Y_storeW rfl rfl tb_ag24 rfl hm0_0 rfl (by rfl) (fun W12 hG13 hm14 => ?_))
    replace hB := below_grown hB hG13 (Nat.le_refl _) (fun j hj => by cases hj; exact lo_b0_0)
    clear hG13 hm0_0
    have hm0_0 := hm14
    clear hm14
    refine WL_val (dd := some 3) rfl rfl rfl (r_assign (v := .int .i64 0) rfl) ?_
    refine WL_val (dd := some 4) rfl rfl rfl (r_assign (v := .int .i64 3) rfl) ?_
    refine WL_nil ?_
    refine hK11 _ _ ?_
    clear hK11 K10
    refine WC_ret ?_
    repeat (first | refine thenQ_ret ?_ | refine blockQ_ret ?_)
    try clear hK7 K6
    refine ret_ctt rfl tb_ag24 hm0_0 rfl (v1 := .int .i64 0) rfl (v2 := .int .i64 3) rfl ?_
    refine ⟨hB, ?_⟩
    rw [prs_long (by omega)]
    exact ⟨_, [], rfl, SlT.nil, LsAt.nil⟩
  ·
    try with_reducible replace hc0 := dec_f hc0
    refine WC_skip ?_
    refine hK7 _ _ ?_
    clear hK7 K6
    refine WC_seq (fun K15 hK16 => ?_)
    refine WC_region ?_
    refine WL_val (dd := some 15) rfl rfl rfl (tb_build24_0 (h0 := rfl) (k0 := rfl) (c0_0 := .int .i64 1)) ?_
    refine WL_val (dd := some 16) rfl rfl rfl (tb_build65_0_2 (h0 := rfl) (h1 := rfl) (k1 := rfl) (c1_0 := .int .i64 _)) ?_
    refine WL_step (dd := some 17) rfl rfl rfl (Y_box (c := #[_, _, _, _, _, _]) rfl rfl (fun b3_2 W17 hb18 hE19 hm3_2 => ?_))
    have lo_b3_2 : w.heap.size ≤ b3_2 := hb18 ▸ (Below.size hB)
    clear hb18
    replace hB := below_ext hB hE19 (Nat.le_refl _)
    replace hm0_0 := hE19.at hm0_0
    clear hE19
    refine WL_val (dd := some 5) rfl rfl rfl (r_assign (v := .pointer (some ⟨b3_2, 0, none⟩)) rfl) ?_
    refine WL_nil ?_
    refine hK16 _ _ ?_
    clear hK16 K15
    refine WC_seq (fun K20 hK21 => ?_)
    have hR : RdAt 65 45 3 w.heap.size W17 b3_2 (rd0) := ⟨_, [], hm3_2, OwT.nil, LsO.nil⟩
    clear hm3_2
    refine WC_region ?_
    refine WL_val (dd := some 18) rfl rfl rfl (r_move (v := .string _) rfl) ?_
    refine WL_call (dd := some 19) rfl rfl rfl (r_call2 tb_c31 (v0 := .string _) rfl (v1 := .string _) rfl) (C_strings_Split _ _ (Gl.below hB hgl) (by first | assumption | omega | (simp; omega) | simp)) (fun v4_1 W22 hE23 hP4_1 => ?_)
    have hsz24 := (Below.size hB)
    replace hB := below_ext hB hE23 (Nat.le_refl _)
    replace hm0_0 := hE23.at hm0_0
    replace hR := RdAt.ext hE23 hR
    clear hE23
    replace hP4_1 := OwT.mono hP4_1 hsz24
    clear hsz24
    refine WL_val (dd := some 6) rfl rfl rfl (r_assign (v := v4_1) rfl) ?_
    refine WL_nil ?_
    refine hK21 _ _ ?_
    clear hK21 K20
    refine WC_seq (fun K25 hK26 => ?_)
    refine WC_region ?_
    refine WL_val (dd := some 20) rfl rfl rfl (r_move (v := v4_1) rfl) ?_
    refine WL_val (dd := some 21) rfl rfl rfl (r_lenS (v := v4_1) rfl hP4_1.sl tb_el59) ?_
    refine WL_val (dd := some 22) rfl rfl rfl (r_pred rfl rfl hn (by omega)) ?_
    refine WL_val (dd := some 7) rfl rfl rfl (r_assign (v := .int .i64 _) rfl) ?_
    refine WL_nil ?_
    refine hK26 _ _ ?_
    clear hK26 K25
    refine WC_seq (fun K27 hK28 => ?_)
    refine WC_seq (fun K29 hK30 => ?_)
    have hC : (linesL s).length ≤ slC v4_1 := (Sl.eqv (OwT.sl hP4_1)).2.1
    refine WC_region ?_
    refine WL_val (dd := some 23) rfl rfl rfl (r_move (v := v4_1) rfl) ?_
    refine WL_val (dd := some 24) rfl rfl rfl (r_move (v := .int .i64 _) rfl) ?_
    refine WL_val (dd := some 25) rfl rfl rfl (r_sliceHi (v := v4_1) rfl hP4_1.sl tb_el59 rfl (by omega) (by omega)) ?_
    have hp6_2 : SlT encW 1 W22 (slOf 1 v4_1 0 n (slC v4_1)) (((linesL s).drop 0).take (n - 0)) := SlT.part encW_len hP4_1.sl (by omega) (by omega) (by omega) (by omega)
    refine WL_val (dd := some 26) rfl rfl rfl (r_lenS (v := slOf 1 v4_1 0 n (slC v4_1)) rfl hp6_2 tb_el59) ?_
    refine WL_val (dd := some 27) rfl rfl rfl (r_move (v := .int .i64 0) rfl) ?_
    refine WL_nil ?_
    refine hK30 _ _ ?_
    clear hK30 K29
    refine WC_block ?_
    refine WC_loop (σ := (Nat)) [3, 4, 8, 9, 10, 27, 28, 29, 30, 31, 32, 33, 34, 35, 36, 37, 38, 39, 40, 41, 42, 43, 44, 45, 46, 47] (fun k => [(27, .int .i64 (k : Int))]) (fun k W => (Below w.heap.size w W) ∧ (At W b0_0 _ 24) ∧ (OwT encW 1 9 W w.heap.size v4_1 _) ∧ (SlT encW 1 W (slOf 1 v4_1 0 n (slC v4_1)) _) ∧ (RdAt 65 45 3 w.heap.size W b3_2 (rdK (linesL s) k)) ∧ (k ≤ n) ∧ (∀ q, q < k → errT (rdK (linesL s) q) ((linesL s).getD q []) = 0) ∧ (True)) (fun k => n - k) (0) ⟨rfl, trivial⟩ ⟨hB, hm0_0, hP4_1, hp6_2, hR, (Nat.zero_le _), upTo_zero, trivial⟩ ?_
    clear hB hm0_0 hR hP4_1 hp6_2
    rintro k g32 W31 ⟨hB, hm0_0, hP4_1, hp6_2, hR, hk, herr, _⟩ J33 hJ34
    refine WC_seq (fun K35 hK36 => ?_)
    refine WC_region ?_
    refine WL_val (dd := some 28) rfl rfl rfl (r_lss rfl rfl) ?_
    refine WL_nil ?_
    refine hK36 _ _ ?_
    clear hK36 K35
    refine WC_seq (fun K37 hK38 => ?_)
    refine WC_cond (b := _) rfl (fun hc1 => ?_) (fun hc1 => ?_)
    ·
      try with_reducible replace hc1 := dec_t hc1
      refine WC_skip ?_
      refine hK38 _ _ ?_
      clear hK38 K37
      refine WC_seq (fun K39 hK40 => ?_)
      refine WC_block ?_
      refine WC_seq (fun K41 hK42 => ?_)
      have hpl := part_len (ls := linesL s) hn
      rw [hpl] at hc1
      refine WC_region ?_
      refine WL_val (dd := some 29) rfl rfl rfl (r_move (v := .int .i64 _) rfl) ?_
      refine WL_val (dd := some 30) rfl rfl rfl (r_idxS (v := slOf 1 v4_1 0 n (slC v4_1)) rfl hp6_2 rfl tb_el59 (by omega) (by first | omega | (simp only [kindsL_len]; omega))) ?_
      refine WL_val (dd := some 31) rfl rfl rfl (r_load1 (v := .string _) rfl tb_sc9 (SlT.cell hp6_2 encW_len [] (by omega) (by first | omega | (simp only [kindsL_len]; omega)) 0 rfl)) ?_
      refine WL_val (dd := some 8) rfl rfl rfl (r_assign (v := .int .i64 _) rfl) ?_
      refine WL_val (dd := some 9) rfl rfl rfl (r_assign (v := .string _) rfl) ?_
      refine WL_nil ?_
      refine hK42 _ _ ?_
      clear hK42 K41
      refine WC_seq (fun K43 hK44 => ?_)
      refine WC_seq (fun K45 hK46 => ?_)
      have hline : (((linesL s).drop 0).take (n - 0)).getD (k : Int).toNat [] = (linesL s).getD k [] := take_part _ (by omega)
      rw [hline]
      refine WC_region ?_
      refine WL_val (dd := some 32) rfl rfl rfl (r_move (v := .string _) rfl) ?_
      refine WL_val (dd := some 33) rfl rfl rfl (r_eqlW rfl rfl) ?_
      refine WL_split (dd := some 34) rfl rfl rfl (r_move (v := .bool _) rfl) (fun hs9_2 => ?_) (fun hs9_2 => ?_)
      ·
        try with_reducible replace hs9_2 := dec_t hs9_2
        refine WL_skip (dd := some 35) rfl rfl rfl ?_
        refine WL_skip (dd := some 36) rfl rfl rfl ?_
        refine WL_skip (dd := some 37) rfl rfl rfl ?_
        refine WL_val (dd := some 38) rfl rfl rfl (r_pick_t rfl (v := .bool true) rfl) ?_
        refine WL_nil ?_
        refine hK46 _ _ ?_
        clear hK46 K45
        refine WC_cond_true rfl ?_
        refine WC_exit ?_
        refine hK40 _ _ ?_
        clear hK44 K43
        clear hK40 K39
        refine WC_region ?_
        refine WL_val (dd := some 47) rfl rfl rfl (r_addI rfl rfl (by omega) (by omega)) ?_
        refine WL_val (dd := some 27) rfl rfl rfl (r_move (v := .int .i64 _) rfl) ?_
        refine WL_nil ?_
        refine hJ34 _ _ (k + 1) ?_ ?_ ?_ ?_
        · repeat (first | exact agree.mask _ _ _ | refine agree.updo ?_ rfl _ | refine agree.updL ?_ _ rfl | refine agree.maskS rfl ?_)
        · exact ⟨rfl, trivial⟩
        · exact ⟨hB, hm0_0, hP4_1, hp6_2, (by rw [rdK_succ (by omega)]; first | (rw [(step_skip (skip_nil hs9_2)).1]; exact hR) | (rw [(step_skip (skip_hash hc2)).1]; exact hR) | (rw [(step_take (skip_not hs9_2 hc2)).1]; exact hR)), (by omega), (upTo_succ herr (by first | exact (step_skip (skip_nil hs9_2)).2 | exact (step_skip (skip_hash hc2)).2 | exact (step_take (skip_not hs9_2 hc2)).2.trans (Decidable.of_not_not hc3))), trivial⟩
        · first | omega | (dsimp only; omega)
      ·
        try with_reducible replace hs9_2 := dec_f hs9_2
        refine WL_val (dd := some 35) rfl rfl rfl (r_move (v := .string _) rfl) ?_
        refine WL_val (dd := some 36) rfl rfl rfl (r_indexW (i := 0) rfl rfl Tryd.underlying9 (by exact List.length_pos_iff.2 hs9_2)) ?_
        refine WL_val (dd := some 37) rfl rfl rfl (r_eql rfl rfl) ?_
        refine WL_val (dd := some 38) rfl rfl rfl (r_pick_f rfl (v := .bool _) rfl) ?_
        refine WL_nil ?_
        refine hK46 _ _ ?_
        clear hK46 K45
        refine WC_cond (b := _) rfl (fun hc2 => ?_) (fun hc2 => ?_)
        ·
          try with_reducible replace hc2 := dec_t hc2
          refine WC_exit ?_
          refine hK40 _ _ ?_
          clear hK44 K43
          clear hK40 K39
          refine WC_region ?_
          refine WL_val (dd := some 47) rfl rfl rfl (r_addI rfl rfl (by omega) (by omega)) ?_
          refine WL_val (dd := some 27) rfl rfl rfl (r_move (v := .int .i64 _) rfl) ?_
          refine WL_nil ?_
          refine hJ34 _ _ (k + 1) ?_ ?_ ?_ ?_
          · repeat (first | exact agree.mask _ _ _ | refine agree.updo ?_ rfl _ | refine agree.updL ?_ _ rfl | refine agree.maskS rfl ?_)
          · exact ⟨rfl, trivial⟩
          · exact ⟨hB, hm0_0, hP4_1, hp6_2, (by rw [rdK_succ (by omega)]; first | (rw [(step_skip (skip_nil hs9_2)).1]; exact hR) | (rw [(step_skip (skip_hash hc2)).1]; exact hR) | (rw [(step_take (skip_not hs9_2 hc2)).1]; exact hR)), (by omega), (upTo_succ herr (by first | exact (step_skip (skip_nil hs9_2)).2 | exact (step_skip (skip_hash hc2)).2 | exact (step_take (skip_not hs9_2 hc2)).2.trans (Decidable.of_not_not hc3))), trivial⟩
          · first | omega | (dsimp only; omega)
        ·
          try with_reducible replace hc2 := dec_f hc2
          refine WC_skip ?_
          refine hK44 _ _ ?_
          clear hK44 K43
          refine WC_seq (fun K47 hK48 => ?_)
          refine WC_region ?_
          refine WL_val (dd := some 39) rfl rfl rfl (r_move (v := .pointer (some ⟨b3_2, 0, none⟩)) rfl) ?_
          refine WL_val (dd := some 40) rfl rfl rfl (r_move (v := .string _) rfl) ?_
          refine WL_callG (dd := some 41) rfl rfl rfl (r_call2 tb_c32 (v0 := .pointer (some ⟨b3_2, 0, none⟩)) rfl (v1 := .string _) rfl) (C___pla_reader__take w.heap.size b3_2 (rdK (linesL s) k) ((linesL s).getD k []) _ (Below.size hB) (fun _ h => Gl.below (Below.trans hB h) hgl) (by have := lines_getD s k; omega) lo_b3_2 (ls_len_k herr (by omega)) hR) (fun v10_2 W49 hP10_2 => ?_)
          obtain ⟨hX10_2, rfl, hR10_2⟩ := hP10_2
          replace hB := Below.dx hB (Nat.le_refl _) (Nat.le_refl _) hX10_2
          replace hm0_0 := At.rd hR hX10_2 hm0_0 (by decide) (by decide)
          replace hP4_1 := OwT.rd hR hX10_2 hP4_1 (by decide) (by decide)
          replace hp6_2 := SlT.part (l := 0) (h := n) (m := slC v4_1) encW_len (OwT.sl hP4_1) (Nat.zero_le _) (by omega) (by omega) (Nat.le_refl _)
          replace hR := hR10_2
          refine WL_val (dd := some 10) rfl rfl rfl (r_assign (v := .int .i64 _) rfl) ?_
          refine WL_nil ?_
          refine hK48 _ _ ?_
          clear hK48 K47
          refine WC_seq (fun K51 hK52 => ?_)
          refine WC_region ?_
          refine WL_val (dd := some 42) rfl rfl rfl (r_move (v := .int .i64 _) rfl) ?_
          refine WL_val (dd := some 43) rfl rfl rfl (r_neq rfl rfl) ?_
          refine WL_nil ?_
          refine hK52 _ _ ?_
          clear hK52 K51
          refine WC_cond (b := _) rfl (fun hc3 => ?_) (fun hc3 => ?_)
          ·
            try with_reducible replace hc3 := dec_t hc3
            refine WC_seq (fun K53 hK54 => ?_)
            refine WC_region ?_
            refine WL_val (dd := some 44) rfl rfl rfl (tb_build24_ ) ?_
            refine WL_val (dd := some 45) rfl rfl rfl (r_move (v := .int .i64 _) rfl) ?_
            refine WL_val (dd := some 46) rfl rfl rfl (r_move (v := .int .i64 _) rfl) ?_
            refine WL_step (dd := none) rfl rfl rfl (Y_storeW rfl rfl tb_ag24 rfl hm0_0 rfl (by rfl) (fun W55 hG56 hm57 => ?_))
            replace hB := below_grown hB hG56 (Nat.le_refl _) (fun j hj => by cases hj; exact lo_b0_0)
            replace hP4_1 := OwT.grownAt hP4_1 hm0_0 hG56 (by decide)
            replace hR := RdAt.grownAt hR hm0_0 hG56 (by decide) (by decide) (by decide)
            clear hp6_2
            clear hG56 hm0_0
            have hm0_0 := hm57
            clear hm57
            refine WL_val (dd := some 3) rfl rfl rfl (r_assign (v := .int .i64 _) rfl) ?_
            refine WL_val (dd := some 4) rfl rfl rfl (r_assign (v := .int .i64 _) rfl) ?_
            refine WL_nil ?_
            refine hK54 _ _ ?_
            clear hK54 K53
            refine WC_ret ?_
            repeat (first | refine thenQ_ret ?_ | refine blockQ_ret ?_)
            try clear hK40 K39
            try clear hJ34 J33
            try clear hK28 K27
            refine ret_ctt rfl tb_ag24 hm0_0 rfl (v1 := .int .i64 _) rfl (v2 := .int .i64 _) rfl ?_
            refine ⟨hB, ?_⟩
            rw [prs_bad (k := k) (by omega) hn (by omega) herr (by rw [(step_take (skip_not hs9_2 hc2)).2]; exact hc3), (step_take (skip_not hs9_2 hc2)).2]
            exact ⟨_, [], rfl, SlT.nil, LsAt.nil⟩
          ·
            try with_reducible replace hc3 := dec_f hc3
            refine WC_skip ?_
            refine hK40 _ _ ?_
            clear hK40 K39
            refine WC_region ?_
            refine WL_val (dd := some 47) rfl rfl rfl (r_addI rfl rfl (by omega) (by omega)) ?_
            refine WL_val (dd := some 27) rfl rfl rfl (r_move (v := .int .i64 _) rfl) ?_
            refine WL_nil ?_
            refine hJ34 _ _ (k + 1) ?_ ?_ ?_ ?_
            · repeat (first | exact agree.mask _ _ _ | refine agree.updo ?_ rfl _ | refine agree.updL ?_ _ rfl | refine agree.maskS rfl ?_)
            · exact ⟨rfl, trivial⟩
            · exact ⟨hB, hm0_0, hP4_1, hp6_2, (by rw [rdK_succ (by omega)]; first | (rw [(step_skip (skip_nil hs9_2)).1]; exact hR) | (rw [(step_skip (skip_hash hc2)).1]; exact hR) | (rw [(step_take (skip_not hs9_2 hc2)).1]; exact hR)), (by omega), (upTo_succ herr (by first | exact (step_skip (skip_nil hs9_2)).2 | exact (step_skip (skip_hash hc2)).2 | exact (step_take (skip_not hs9_2 hc2)).2.trans (Decidable.of_not_not hc3))), trivial⟩
            · first | omega | (dsimp only; omega)
    ·
      try with_reducible replace hc1 := dec_f hc1
      refine WC_exit ?_
      refine hK28 _ _ ?_
      clear hK38 K37
      clear hJ34 J33
      clear hK28 K27
      refine WC_seq (fun K58 hK59 => ?_)
      refine WC_block ?_
      refine WC_seq (fun K60 hK61 => ?_)
      obtain ⟨lv, vs, hrd, hlv, hls⟩ := hR
      rw [part_len hn] at hc1
      obtain rfl : k = n := by omega
      refine WC_region ?_
      refine WL_val (dd := some 49) rfl rfl rfl (r_move (v := v4_1) rfl) ?_
      refine WL_val (dd := some 50) rfl rfl rfl (r_move (v := .int .i64 _) rfl) ?_
      refine WL_val (dd := some 51) rfl rfl rfl (r_idxS (v := v4_1) rfl hP4_1.sl rfl tb_el59 (by omega) (by first | omega | (simp only [kindsL_len]; omega))) ?_
      refine WL_val (dd := some 52) rfl rfl rfl (r_load1 (v := .string _) rfl tb_sc9 (SlT.cell hP4_1.sl encW_len [] (by omega) (by first | omega | (simp only [kindsL_len]; omega)) 0 rfl)) ?_
      refine WL_val (dd := some 53) rfl rfl rfl (r_neqW rfl rfl) ?_
      refine WL_val (dd := some 48) rfl rfl rfl (r_assign (v := .bool _) rfl) ?_
      refine WL_nil ?_
      refine hK61 _ _ ?_
      clear hK61 K60
      refine WC_cond (b := _) rfl (fun hc4 => ?_) (fun hc4 => ?_)
      ·
        try with_reducible replace hc4 := dec_t hc4
        refine WC_seq (fun K62 hK63 => ?_)
        refine WC_region ?_
        refine WL_val (dd := some 54) rfl rfl rfl (tb_build24_ ) ?_
        refine WL_val (dd := some 55) rfl rfl rfl (r_move (v := .int .i64 _) rfl) ?_
        refine WL_step (dd := none) rfl rfl rfl (Y_storeW rfl rfl tb_ag24 rfl hm0_0 rfl (by rfl) (fun W64 hG65 hm66 => ?_))
        replace hB := below_grown hB hG65 (Nat.le_refl _) (fun j hj => by cases hj; exact lo_b0_0)
        replace hP4_1 := OwT.grownAt hP4_1 hm0_0 hG65 (by decide)
        replace hrd := At.grownAt hrd hm0_0 hG65 (by decide)
        replace hlv := OwT.grownAt hlv hm0_0 hG65 (by decide)
        replace hls := LsO.grownAt hls hm0_0 hG65 (by decide)
        clear hp6_2
        clear hG65 hm0_0
        have hm0_0 := hm66
        clear hm66
        refine WL_val (dd := some 3) rfl rfl rfl (r_assign (v := .int .i64 _) rfl) ?_
        refine WL_val (dd := some 4) rfl rfl rfl (r_assign (v := .int .i64 2) rfl) ?_
        refine WL_nil ?_
        refine hK63 _ _ ?_
        clear hK63 K62
        refine WC_ret ?_
        repeat (first | refine thenQ_ret ?_ | refine blockQ_ret ?_)
        try clear hK59 K58
        refine ret_ctt rfl tb_ag24 hm0_0 rfl (v1 := .int .i64 _) rfl (v2 := .int .i64 2) rfl ?_
        refine ⟨hB, ?_⟩
        rw [prs_tail (by omega) hn herr hc4]
        exact ⟨_, [], rfl, SlT.nil, LsAt.nil⟩
      ·
        try with_reducible replace hc4 := dec_f hc4
        refine WC_seq (fun K67 hK68 => ?_)
        refine WC_region ?_
        refine WL_val (dd := some 57) rfl rfl rfl (r_move (v := .pointer (some ⟨b3_2, 0, none⟩)) rfl) ?_
        refine WL_val (dd := some 58) rfl rfl rfl (r_nilCheck_ptr rfl) ?_
        refine WL_val (dd := some 59) rfl rfl rfl (r_fieldAddr (b := _) (o := _) rfl tb_fo65_1) ?_
        refine WL_val (dd := some 60) rfl rfl rfl (r_load1 (v := .int .i64 _) rfl tb_sc3 (At.cell hrd rfl)) ?_
        refine WL_val (dd := some 61) rfl rfl rfl (r_neq rfl rfl) ?_
        refine WL_val (dd := some 56) rfl rfl rfl (r_assign (v := .bool _) rfl) ?_
        refine WL_nil ?_
        refine hK68 _ _ ?_
        clear hK68 K67
        refine WC_cond (b := _) rfl (fun hc5 => ?_) (fun hc5 => ?_)
        ·
          try with_reducible replace hc5 := dec_t hc5
          refine WC_seq (fun K69 hK70 => ?_)
          refine WC_region ?_
          refine WL_val (dd := some 62) rfl rfl rfl (tb_build24_ ) ?_
          refine WL_val (dd := some 63) rfl rfl rfl (r_move (v := .int .i64 _) rfl) ?_
          refine WL_step (dd := none) rfl rfl rfl (Y_storeW rfl rfl tb_ag24 rfl hm0_0 rfl (by rfl) (fun W71 hG72 hm73 => ?_))
          replace hB := below_grown hB hG72 (Nat.le_refl _) (fun j hj => by cases hj; exact lo_b0_0)
          replace hP4_1 := OwT.grownAt hP4_1 hm0_0 hG72 (by decide)
          replace hrd := At.grownAt hrd hm0_0 hG72 (by decide)
          replace hlv := OwT.grownAt hlv hm0_0 hG72 (by decide)
          replace hls := LsO.grownAt hls hm0_0 hG72 (by decide)
          clear hp6_2
          clear hG72 hm0_0
          have hm0_0 := hm73
          clear hm73
          refine WL_val (dd := some 3) rfl rfl rfl (r_assign (v := .int .i64 _) rfl) ?_
          refine WL_val (dd := some 4) rfl rfl rfl (r_assign (v := .int .i64 7) rfl) ?_
          refine WL_nil ?_
          refine hK70 _ _ ?_
          clear hK70 K69
          refine WC_ret ?_
          repeat (first | refine thenQ_ret ?_ | refine blockQ_ret ?_)
          try clear hK59 K58
          refine ret_ctt rfl tb_ag24 hm0_0 rfl (v1 := .int .i64 _) rfl (v2 := .int .i64 7) rfl ?_
          refine ⟨hB, ?_⟩
          rw [prs_none (by omega) hn herr (Decidable.of_not_not hc4) hc5]
          exact ⟨_, [], rfl, SlT.nil, LsAt.nil⟩
        ·
          try with_reducible replace hc5 := dec_f hc5
          refine WC_skip ?_
          refine hK59 _ _ ?_
          clear hK59 K58
          refine WC_seq (fun K74 hK75 => ?_)
          refine WC_region ?_
          refine WL_val (dd := some 64) rfl rfl rfl (r_move (v := .pointer (some ⟨b3_2, 0, none⟩)) rfl) ?_
          refine WL_val (dd := some 65) rfl rfl rfl (r_nilCheck_ptr rfl) ?_
          refine WL_val (dd := some 66) rfl rfl rfl (r_fieldAddr (b := _) (o := _) rfl tb_fo65_0) ?_
          refine WL_val (dd := some 67) rfl rfl rfl (r_load4 rfl tb_ag24 (At.cell hrd rfl) (At.cell hrd rfl) (At.cell hrd rfl) (At.cell hrd rfl)) ?_
          refine WL_step (dd := none) rfl rfl rfl (Y_storeW rfl rfl tb_ag24 rfl hm0_0 rfl (by exact one_tb (SlT.one (OwT.sl hlv))) (fun W76 hG77 hm78 => ?_))
          replace hB := below_grown hB hG77 (Nat.le_refl _) (fun j hj => by cases hj; exact lo_b0_0)
          replace hP4_1 := OwT.grownAt hP4_1 hm0_0 hG77 (by decide)
          replace hrd := At.grownAt hrd hm0_0 hG77 (by decide)
          replace hlv := OwT.grownAt hlv hm0_0 hG77 (by decide)
          replace hls := LsO.grownAt hls hm0_0 hG77 (by decide)
          clear hp6_2
          clear hG77 hm0_0
          have hm0_0 := hm78
          clear hm78
          refine WL_val (dd := some 3) rfl rfl rfl (r_assign (v := .int .i64 0) rfl) ?_
          refine WL_val (dd := some 4) rfl rfl rfl (r_assign (v := .int .i64 0) rfl) ?_
          refine WL_nil ?_
          refine hK75 _ _ ?_
          clear hK75 K74
          refine WC_ret ?_
          repeat (first | refine thenQ_ret ?_ | refine blockQ_ret ?_)
          refine ret_ctt rfl tb_ag24 hm0_0 rfl (v1 := .int .i64 0) rfl (v2 := .int .i64 0) rfl ?_
          refine ⟨hB, ?_⟩
          rw [prs_ok (by omega) hn herr (Decidable.of_not_not hc4) (Decidable.of_not_not hc5)]
          exact ⟨lv, vs, rfl, OwT.sl hlv, hls.at⟩

end Go.Proofs.YtnkaebjaeaecmaaDoor
