/-
  The walks of texts of tables.
-/
import Derived.Test.YtnkaebjaeaecmaaDoorProg
import Derived.Test.YtnkaebjaeaecmaaDoorWPla2
import Derived.Test.YtnkaebjaeaecmaaDoorLit
import Derived.Test.YtnkaebjaeaecmaaDoorText
namespace Go.Proofs.YtnkaebjaeaecmaaDoor
set_option linter.unusedVariables false
set_option linter.unusedSimpArgs false
open Go Go.RowKit

theorem tb_el85 : elemI Tryd.prog 85 = some (5, 1, 1) := by kernel_rfl
theorem tb_zs5 : (zeroI Tryd.prog 5).map (fun z => z.cells.size) = some 1 := by kernel_rfl
theorem tb_el59 : elemI Tryd.prog 59 = some (9, 1, 16) := by kernel_rfl
theorem tb_zs9 : (zeroI Tryd.prog 9).map (fun z => z.cells.size) = some 1 := by kernel_rfl

theorem C___pla_reader__take_1 (b : Bool) (w : World) :
    Fn Tryd.prog 51 #[.bool b] w fun v w' => v = .int .i64 (if b = true then 0 else 2) := by
  refine Fn_intro (n := 4) Tryd.func51 rfl rfl (Nat.le_of_ble_eq_true rfl) ?_
  have hB : Below w.heap.size w w := Below.refl _ _
  refine WC_seq (fun K1 hK2 => ?_)
  refine WC_region ?_
  refine WL_val (dd := some 2) rfl rfl rfl (r_assign (v := .int .i64 0) rfl) ?_
  refine WL_nil ?_
  refine hK2 _ _ ?_
  clear hK2 K1
  refine WC_seq (fun K3 hK4 => ?_)
  refine WC_seq (fun K5 hK6 => ?_)
  refine WC_region ?_
  refine WL_val (dd := some 3) rfl rfl rfl (r_move (v := .bool _) rfl) ?_
  refine WL_nil ?_
  refine hK6 _ _ ?_
  clear hK6 K5
  refine WC_cond (b := _) rfl (fun hc0 => ?_) (fun hc0 => ?_)
  ·
    try with_reducible replace hc0 := dec_t hc0
    refine WC_seq (fun K7 hK8 => ?_)
    refine WC_region ?_
    refine WL_val (dd := some 2) rfl rfl rfl (r_assign (v := .int .i64 0) rfl) ?_
    refine WL_nil ?_
    refine hK8 _ _ ?_
    clear hK8 K7
    refine WC_ret ?_
    repeat (first | refine thenQ_ret ?_ | refine blockQ_ret ?_)
    try clear hK4 K3
    refine ret_t (v := .int .i64 0) rfl ?_
    refine ⟨hB, ?_⟩
    rw [if_pos hc0]
  ·
    try with_reducible replace hc0 := dec_f hc0
    refine WC_skip ?_
    refine hK4 _ _ ?_
    clear hK4 K3
    refine WC_seq (fun K9 hK10 => ?_)
    refine WC_region ?_
    refine WL_val (dd := some 2) rfl rfl rfl (r_assign (v := .int .i64 2) rfl) ?_
    refine WL_nil ?_
    refine hK10 _ _ ?_
    clear hK10 K9
    refine WC_ret ?_
    repeat (first | refine thenQ_ret ?_ | refine blockQ_ret ?_)
    refine ret_t (v := .int .i64 2) rfl ?_
    refine ⟨hB, ?_⟩
    rw [if_neg (by rw [hc0]; decide)]

theorem C_drawkniferef03_Digits (n : Nat) (w : World) (hn : n < 100) :
    Fn Tryd.prog 28 #[.int .i64 (n : Int)] w fun v w' => v = keyW (dig2 n) := by
  refine Fn_intro (n := 21) Tryd.func28 rfl rfl (Nat.le_of_ble_eq_true rfl) ?_
  have hB : Below w.heap.size w w := Below.refl _ _
  refine WC_seq (fun K1 hK2 => ?_)
  refine WC_region ?_
  refine WL_val (dd := some 2) rfl rfl rfl (r_assign (v := .string _) rfl) ?_
  refine WL_nil ?_
  refine hK2 _ _ ?_
  clear hK2 K1
  refine WC_seq (fun K3 hK4 => ?_)
  refine WC_region ?_
  refine WL_val (dd := some 4) rfl rfl rfl (r_move (v := .int .i64 _) rfl) ?_
  refine WL_val (dd := some 5) rfl rfl rfl (r_remN (n := 10) rfl rfl rfl (by omega)) ?_
  refine WL_val (dd := some 6) rfl rfl rfl (r_addI rfl rfl (by omega) (by omega)) ?_
  refine WL_val (dd := some 7) rfl rfl rfl (r_convN (m := 48 + n % 10) rfl Tryd.underlying3 Tryd.underlying5 (by simp only [topN]; omega)) ?_
  refine WL_step (dd := some 8) rfl rfl rfl (Y_lit1 (u := .int .u8 _) rfl tb_el85 tb_zs5 rfl (by decide) (by decide) (fun b1_4 W5 hb6 hE7 hm1_4 => ?_))
  have lo_b1_4 : w.heap.size ≤ b1_4 := hb6 ▸ (Below.size hB)
  clear hb6
  replace hB := below_ext hB hE7 (Nat.le_refl _)
  clear hE7
  have ho8 := own_lit1 (enc := encY) (a := ((48 + n % 10 : Nat) : Int)) hm1_4 rfl rfl lo_b1_4
  clear hm1_4
  refine WL_val (dd := some 9) rfl rfl rfl (r_bytesStr (v := .slice (some ⟨b1_4, 0, none⟩) 1 1) rfl ho8.sl Tryd.underlying85 Tryd.underlying5 Tryd.underlying9) ?_
  refine WL_val (dd := some 3) rfl rfl rfl (r_assign (v := keyW _) rfl) ?_
  refine WL_nil ?_
  refine hK4 _ _ ?_
  clear hK4 K3
  refine WC_seq (fun K9 hK10 => ?_)
  refine WC_seq (fun K11 hK12 => ?_)
  refine WC_region ?_
  refine WL_val (dd := some 10) rfl rfl rfl (r_move (v := .int .i64 _) rfl) ?_
  refine WL_val (dd := some 11) rfl rfl rfl (r_lss rfl rfl) ?_
  refine WL_nil ?_
  refine hK12 _ _ ?_
  clear hK12 K11
  refine WC_cond (b := _) rfl (fun hc0 => ?_) (fun hc0 => ?_)
  ·
    try with_reducible replace hc0 := dec_t hc0
    refine WC_seq (fun K13 hK14 => ?_)
    refine WC_region ?_
    refine WL_val (dd := some 12) rfl rfl rfl (r_move (v := keyW _) rfl) ?_
    refine WL_val (dd := some 2) rfl rfl rfl (r_assign (v := keyW _) rfl) ?_
    refine WL_nil ?_
    refine hK14 _ _ ?_
    clear hK14 K13
    refine WC_ret ?_
    repeat (first | refine thenQ_ret ?_ | refine blockQ_ret ?_)
    try clear hK10 K9
    refine ret_t (v := keyW _) rfl ?_
    refine ⟨hB, ?_⟩
    exact congrArg keyW (dig_1 (by omega))
  ·
    try with_reducible replace hc0 := dec_f hc0
    refine WC_skip ?_
    refine hK10 _ _ ?_
    clear hK10 K9
    refine WC_seq (fun K15 hK16 => ?_)
    refine WC_region ?_
    refine WL_val (dd := some 13) rfl rfl rfl (r_move (v := .int .i64 _) rfl) ?_
    refine WL_val (dd := some 14) rfl rfl rfl (r_quoN (n := 10) rfl rfl rfl (by omega) (by first | assumption | (simp only [topN]; omega) | (simp only [topN]; decide))) ?_
    refine WL_val (dd := some 15) rfl rfl rfl (r_addI rfl rfl (by omega) (by omega)) ?_
    refine WL_val (dd := some 16) rfl rfl rfl (r_convN (m := 48 + n / 10) rfl Tryd.underlying3 Tryd.underlying5 (by simp only [topN]; omega)) ?_
    refine WL_step (dd := some 17) rfl rfl rfl (Y_lit1 (u := .int .u8 _) rfl tb_el85 tb_zs5 rfl (by decide) (by decide) (fun b4_4 W17 hb18 hE19 hm4_4 => ?_))
    have lo_b4_4 : w.heap.size ≤ b4_4 := hb18 ▸ (Below.size hB)
    have no20 := OwT.neB (b := b4_4) ho8 (Nat.le_of_eq hb18.symm)
    clear hb18
    replace hB := below_ext hB hE19 (Nat.le_refl _)
    replace ho8 := hE19.ow ho8
    clear hE19
    have ho21 := own_lit1 (enc := encY) (a := ((48 + n / 10 : Nat) : Int)) hm4_4 rfl rfl lo_b4_4
    clear hm4_4
    refine WL_val (dd := some 18) rfl rfl rfl (r_bytesStr (v := .slice (some ⟨b4_4, 0, none⟩) 1 1) rfl ho21.sl Tryd.underlying85 Tryd.underlying5 Tryd.underlying9) ?_
    refine WL_val (dd := some 19) rfl rfl rfl (r_move (v := keyW _) rfl) ?_
    refine WL_val (dd := some 20) rfl rfl rfl (r_addW rfl rfl (by simp [bytesL])) ?_
    refine WL_val (dd := some 2) rfl rfl rfl (r_assign (v := .string _) rfl) ?_
    refine WL_nil ?_
    refine hK16 _ _ ?_
    clear hK16 K15
    refine WC_ret ?_
    repeat (first | refine thenQ_ret ?_ | refine blockQ_ret ?_)
    refine ret_t (v := .string _) rfl ?_
    refine ⟨hB, ?_⟩
    exact congrArg keyW (dig_2 (by omega))

theorem C_pla_kinds  (w : World) :
    Fn Tryd.prog 25 #[] w fun v w' => OwT encW 1 9 w' w.heap.size v kindsL := by
  refine Fn_intro (n := 2) Tryd.func25 rfl rfl (Nat.le_of_ble_eq_true rfl) ?_
  have hB : Below w.heap.size w w := Below.refl _ _
  refine WC_seq (fun K1 hK2 => ?_)
  refine WC_region ?_
  refine WL_val (dd := some 0) rfl rfl rfl (r_assign (v := .slice none 0 0) rfl) ?_
  refine WL_nil ?_
  refine hK2 _ _ ?_
  clear hK2 K1
  refine WC_seq (fun K3 hK4 => ?_)
  refine WC_region ?_
  refine WL_step (dd := some 1) rfl rfl rfl (Y_lit4w rfl rfl rfl rfl tb_el59 tb_zs9 rfl rfl rfl rfl (fun b1_0 W5 hb6 hE7 hm1_0 => ?_))
  have lo_b1_0 : w.heap.size ≤ b1_0 := hb6 ▸ (Below.size hB)
  clear hb6
  replace hB := below_ext hB hE7 (Nat.le_refl _)
  clear hE7
  have ho1_0 : OwT encW 1 9 W5 w.heap.size (.slice (some ⟨b1_0, 0, none⟩) 4 4) kindsL := own_row (l := kindsL) hm1_0 lo_b1_0 encW_len (by decide)
  clear hm1_0
  refine WL_val (dd := some 0) rfl rfl rfl (r_assign (v := .slice (some ⟨b1_0, 0, none⟩) 4 4) rfl) ?_
  refine WL_nil ?_
  refine hK4 _ _ ?_
  clear hK4 K3
  refine WC_ret ?_
  repeat (first | refine thenQ_ret ?_ | refine blockQ_ret ?_)
  refine ret_t (v := .slice (some ⟨b1_0, 0, none⟩) 4 4) rfl ?_
  refine ⟨hB, ?_⟩
  exact ho1_0

theorem C_drawkniferef03_Kinds  (w : World) :
    Fn Tryd.prog 29 #[] w fun v w' => OwT encW 1 9 w' w.heap.size v kindsL := by
  refine Fn_intro (n := 2) Tryd.func29 rfl rfl (Nat.le_of_ble_eq_true rfl) ?_
  have hB : Below w.heap.size w w := Below.refl _ _
  refine WC_seq (fun K1 hK2 => ?_)
  refine WC_region ?_
  refine WL_val (dd := some 0) rfl rfl rfl (r_assign (v := .slice none 0 0) rfl) ?_
  refine WL_nil ?_
  refine hK2 _ _ ?_
  clear hK2 K1
  refine WC_seq (fun K3 hK4 => ?_)
  refine WC_region ?_
  refine WL_step (dd := some 1) rfl rfl rfl (Y_lit4w rfl rfl rfl rfl tb_el59 tb_zs9 rfl rfl rfl rfl (fun b1_0 W5 hb6 hE7 hm1_0 => ?_))
  have lo_b1_0 : w.heap.size ≤ b1_0 := hb6 ▸ (Below.size hB)
  clear hb6
  replace hB := below_ext hB hE7 (Nat.le_refl _)
  clear hE7
  have ho1_0 : OwT encW 1 9 W5 w.heap.size (.slice (some ⟨b1_0, 0, none⟩) 4 4) kindsL := own_row (l := kindsL) hm1_0 lo_b1_0 encW_len (by decide)
  clear hm1_0
  refine WL_val (dd := some 0) rfl rfl rfl (r_assign (v := .slice (some ⟨b1_0, 0, none⟩) 4 4) rfl) ?_
  refine WL_nil ?_
  refine hK4 _ _ ?_
  clear hK4 K3
  refine WC_ret ?_
  repeat (first | refine thenQ_ret ?_ | refine blockQ_ret ?_)
  refine ret_t (v := .slice (some ⟨b1_0, 0, none⟩) 4 4) rfl ?_
  refine ⟨hB, ?_⟩
  exact ho1_0

end Go.Proofs.YtnkaebjaeaecmaaDoor
