/-
  The walks of texts of tables.
-/
import Derived.Test.YtnkaebjaeaecmaaGreatDoorProg
import Derived.Test.YtnkaebjaeaecmaaGreatDoorWPla2
import Derived.Test.YtnkaebjaeaecmaaGreatDoorLit
import Derived.Test.YtnkaebjaeaecmaaGreatDoorText
import Derived.Test.YtnkaebjaeaecmaaGreatDoorZip
namespace Go.Proofs.YtnkaebjaeaecmaaGreatDoor
set_option linter.unusedVariables false
set_option linter.unusedSimpArgs false
open Go Go.RowKit

theorem tb_el75 : elemI Tryz.prog 75 = some (9, 1, 16) := by kernel_rfl
theorem tb_zs9 : (zeroI Tryz.prog 9).map (fun z => z.cells.size) = some 1 := by kernel_rfl

theorem C___pla_reader__take_1 (b : Bool) (w : World) :
    Fn Tryz.prog 53 #[.bool b] w fun v w' => v = .int .i64 (if b = true then 0 else 2) := by
 refine Fn_intro (n := 4) Tryz.func53 rfl rfl (Nat.le_of_ble_eq_true rfl) ?_
 have hB : Below w.heap.size w w := Below.refl _ _
 refine Zr <| Zi rfl <| WL_nil <| WC_seq fun K3 hK4 => Zr <| Zb rfl <| WL_nil <| ZQ rfl (fun hc0 => ?_) fun hc0 => ?_
 refine Zr <| Zi rfl <| WL_nil <| Zt <| ret_t (v := .int .i64 0) rfl ⟨hB, ?_⟩
 rw [if_pos hc0]
 refine WC_skip <| hK4 _ _ <| Zr <| Zi rfl <| WL_nil <| Zt <| ret_t (v := .int .i64 2) rfl ⟨hB, ?_⟩
 rw [if_neg (by rw [hc0]; decide)]

theorem C_pla_kinds  (w : World) :
    Fn Tryz.prog 56 #[] w fun v w' => OwT encW 1 9 w' w.heap.size v kindsL := by
 refine Fn_intro (n := 2) Tryz.func56 rfl rfl (Nat.le_of_ble_eq_true rfl) ?_
 have hB : Below w.heap.size w w := Below.refl _ _
 refine Zr <| Zw (.slice none 0 0) rfl <| WL_nil <| Zr <| Zy (Y_lit4w rfl rfl rfl rfl tb_el75 tb_zs9 rfl rfl rfl rfl fun b1_0 W5 hb6 hE7 hm1_0 => ?_)
 have lo_b1_0 := ZO hb6 hB
 clear hb6
 replace hB := Ze hB hE7
 have ho1_0 : OwT encW 1 9 W5 w.heap.size (.slice (some ⟨b1_0, 0, none⟩) 4 4) kindsL := own_row (l := kindsL) hm1_0 lo_b1_0 encW_len (by decide)
 refine Zw (.slice (some ⟨b1_0, 0, none⟩) 4 4) rfl <| WL_nil <| Zt <| ret_t (v := .slice (some ⟨b1_0, 0, none⟩) 4 4) rfl ⟨hB, ?_⟩
 exact ho1_0

end Go.Proofs.YtnkaebjaeaecmaaGreatDoor
