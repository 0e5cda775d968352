/-
  The walks of texts of tables.
-/
import Derived.Test.YtnkaebjaeaecmaaDoorProg
import Derived.Test.YtnkaebjaeaecmaaDoorWPla2
import Derived.Test.YtnkaebjaeaecmaaDoorLit
import Derived.Test.YtnkaebjaeaecmaaDoorText
namespace Go.Proofs.YtnkaebjaeaecmaaDoor
set_option linter.unusedVariables false
set_option linter.unusedSimpArgs false
open Go Go.RowKit

theorem tb_el59 : elemI Tryd.prog 59 = some (9, 1, 16) := by kernel_rfl
theorem tb_zs9 : (zeroI Tryd.prog 9).map (fun z => z.cells.size) = some 1 := by kernel_rfl

theorem C___pla_reader__take_1 (b : Bool) (w : World) :
    Fn Tryd.prog 51 #[.bool b] w fun v w' => v = .int .i64 (if b = true then 0 else 2) := by
  refine Fn_intro (n := 4) Tryd.func51 rfl rfl (Nat.le_of_ble_eq_true rfl) ?_
  have hB : Below w.heap.size w w := Below.refl _ _
  refine WC_seq (fun K1 hK2 => ?_)
  refine WC_region ?_
  refine WL_val (dd := some 2) rfl rfl rfl (r_assign (v := .int .i64 0) rfl) ?_
  refine WL_nil ?_
  refine hK2 _ _ ?_
  clear hK2 K1
  refine WC_seq (fun K3 hK4 => ?_)
  refine WC_seq (fun K5 hK6 => ?_)
  refine WC_region ?_
  refine WL_val (dd := some 3) rfl rfl rfl (r_move (v := .bool _) rfl) ?_
  refine WL_nil ?_
  refine hK6 _ _ ?_
  clear hK6 K5
  refine WC_cond (b := _) rfl (fun hc0 => ?_) (fun hc0 => ?_)
  ·
    try with_reducible replace hc0 := dec_t hc0
    refine WC_seq (fun K7 hK8 => ?_)
    refine WC_region ?_
    refine WL_val (dd := some 2) rfl rfl rfl (r_assign (v := .int .i64 0) rfl) ?_
    refine WL_nil ?_
    refine hK8 _ _ ?_
    clear hK8 K7
    refine WC_ret ?_
    repeat (first | refine thenQ_ret ?_ | refine blockQ_ret ?_)
    try clear hK4 K3
    refine ret_t (v := .int .i64 0) rfl ?_
    refine ⟨hB, ?_⟩
    rw [if_pos hc0]
  ·
    try with_reducible replace hc0 := dec_f hc0
    refine WC_skip ?_
    refine hK4 _ _ ?_
    clear hK4 K3
    refine WC_seq (fun K9 hK10 => ?_)
    refine WC_region ?_
    refine WL_val (dd := some 2) rfl rfl rfl (r_assign (v := .int .i64 2) rfl) ?_
    refine WL_nil ?_
    refine hK10 _ _ ?_
    clear hK10 K9
    refine WC_ret ?_
    repeat (first | refine thenQ_ret ?_ | refine blockQ_ret ?_)
    refine ret_t (v := .int .i64 2) rfl ?_
    refine ⟨hB, ?_⟩
    rw [if_neg (by rw [hc0]; decide)]

theorem C_pla_kinds  (w : World) :
    Fn Tryd.prog 25 #[] w fun v w' => OwT encW 1 9 w' w.heap.size v kindsL := by
  refine Fn_intro (n := 2) Tryd.func25 rfl rfl (Nat.le_of_ble_eq_true rfl) ?_
  have hB : Below w.heap.size w w := Below.refl _ _
  refine WC_seq (fun K1 hK2 => ?_)
  refine WC_region ?_
  refine WL_val (dd := some 0) rfl rfl rfl (r_assign (v := .slice none 0 0) rfl) ?_
  refine WL_nil ?_
  refine hK2 _ _ ?_
  clear hK2 K1
  refine WC_seq (fun K3 hK4 => ?_)
  refine WC_region ?_
  refine WL_step (dd := some 1) rfl rfl rfl (Y_lit4w rfl rfl rfl rfl tb_el59 tb_zs9 rfl rfl rfl rfl (fun b1_0 W5 hb6 hE7 hm1_0 => ?_))
  have lo_b1_0 : w.heap.size ≤ b1_0 := hb6 ▸ (Below.size hB)
  clear hb6
  replace hB := below_ext hB hE7 (Nat.le_refl _)
  clear hE7
  have ho1_0 : OwT encW 1 9 W5 w.heap.size (.slice (some ⟨b1_0, 0, none⟩) 4 4) kindsL := own_row (l := kindsL) hm1_0 lo_b1_0 encW_len (by decide)
  clear hm1_0
  refine WL_val (dd := some 0) rfl rfl rfl (r_assign (v := .slice (some ⟨b1_0, 0, none⟩) 4 4) rfl) ?_
  refine WL_nil ?_
  refine hK4 _ _ ?_
  clear hK4 K3
  refine WC_ret ?_
  repeat (first | refine thenQ_ret ?_ | refine blockQ_ret ?_)
  refine ret_t (v := .slice (some ⟨b1_0, 0, none⟩) 4 4) rfl ?_
  refine ⟨hB, ?_⟩
  exact ho1_0

end Go.Proofs.YtnkaebjaeaecmaaDoor
