/-
  The statements of layer 3, walked: each answers true.
-/
import Derived.Test.YtnkaebjaeaecmaaDoorProg
import Derived.Test.YtnkaebjaeaecmaaDoorWPla5
import Derived.Test.YtnkaebjaeaecmaaDoorPars2
namespace Go.Proofs.YtnkaebjaeaecmaaDoor
set_option linter.unusedVariables false
set_option linter.unusedSimpArgs false
open Go Go.RowKit

theorem tb_c15 : callB Tryd.prog 15 = true := by kernel_rfl
theorem tb_build42_0_1 {f : Nat → Value} {w : World} {d : Option Nat} {ty : TypeId} {ps : String} {af : Array Edge} {g : Option (Nat × Bool)} {x0 x1 : Operand} {c0_0 c1_0 : Value} (h0 : evF f x0 = c0_0) (k0 : c0_0.cells = #[c0_0]) (h1 : evF f x1 = c1_0) (k1 : c1_0.cells = #[c1_0]) :
    (execOp (evF f) ⟨d, .build 42 #[(0, x0), (1, x1)], ty, ps, af, g⟩).run Tryd.prog w = .ok (.value (.agg #[c0_0, c1_0])) w := by
  obtain ⟨i0, hi0, hz0⟩ := Option.bind_eq_some_iff.1 (show (Tryd.prog.info? 42).bind (·.zero) = _ from tb_z42)
  obtain ⟨j5, hj5, hs5⟩ := Option.map_eq_some_iff.1 tb_size5
  simp [execOp, h0, k0, h1, k1, Instr.build, zeroValue, typeInfo, sizeOf, hi0, hz0, run_underlying Tryd.underlying42, Instr.fill, cells_agg, hj5, hs5]
theorem tb_c7 : callB Tryd.prog 7 = true := by kernel_rfl
theorem tb_c10 : callB Tryd.prog 10 = true := by kernel_rfl
end Go.Proofs.YtnkaebjaeaecmaaDoor
