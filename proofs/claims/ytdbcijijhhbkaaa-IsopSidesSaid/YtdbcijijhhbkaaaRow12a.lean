/-
  IsopSides holds: for all its arguments the law answers true, and they read as they did.
  No condition.
-/
import Derived.Test.YtdbcijijhhbkaaaRows
import Derived.Test.YtdbcijijhhbkaaaLift
import Derived.Test.YtdbcijijhhbkaaaClosed12a
import Derived.Test.YtdbcijijhhbkaaaWLaw12
import Derived.Carry
namespace Go.Proofs.Ytdbcijijhhbkaaa
set_option linter.unusedVariables false
set_option linter.unusedSimpArgs false
open Go.ChangeShapes Go.WideShapes Go.ChangeAt Go.RowKit

theorem own_isopSides : ownKnob Try.prog.godebug = none := by kernel_rfl
theorem laidOut_isopSides : laidOutB Try.prog = true := by kernel_rfl

set_option maxRecDepth 100000 in
theorem isopSides_lifted (os : Os) (started : os.Started) (H : Type) (enc : TypeId × Value → H) :
    ReturnsInHanded {} Try.checked os 5 .any (Rows.isopSidesSpec.pre6 enc Try.prog Try.f5 Rows.isopSidesRow.domain false) (Rows.isopSidesSpec.post enc Try.prog Try.f5 false true false false) := by
  refine returnsInHanded_of_change (C := Try.checked) own_isopSides started (by kernel_rfl) Try.func5
    (ChangeSpec.witness6 (enc := enc) (C := Try.checked) false ⟨#[], #[.agg #[.int .u64 0, .int .u64 0, .int .u64 0, .int .u64 0], .int .i64 0, .bool false], []⟩ 8 (by kernel_rfl) (by kernel_rfl) (by kernel_rfl) (by kernel_rfl)) ?_
  intro W base args ds gs before hval0 hW hcnd _
  have hval : ∀ (j : Nat) t v, Try.f5.params[j]? = some t → args[j]? = some v → Value.okWide Try.prog W .any base t v := hval0
  have hW' := hW
  obtain ⟨p, q, hA0, hV, rfl, hfz, hnd⟩ := hW
  have hA : DataW.TrodAll enc Try.prog W 0 (fun _ => true) true Try.f5.params.toList args.toList ds p := hA0
  rw [Try.params5] at hA hval
  obtain ⟨v0, v1, v2, d0, d1, d2, p0, p1, p2, rfl, rfl, rfl, h0, h1, h2⟩ := trodAll_three hA
  obtain ⟨rfl, rfl⟩ := trodVars_none hV
  obtain ⟨s0, _, rfl⟩ := open_set Try.underlying24 Try.underlying22 (by kernel_rfl) (by kernel_rfl) (hval 0 24 v0 rfl rfl) h0
  obtain ⟨n1, rfl, _, _, _⟩ := open_int Try.underlying3 (hval 1 3 v1 rfl rfl) h1
  obtain ⟨b2, rfl, _, _⟩ := open_bool Try.underlying4 (hval 2 4 v2 rfl rfl) h2
  refine (C_drawknifelaw12_IsopSides s0 n1 b2 W).out.mono fun e W' ⟨v, he, hE, hv⟩ => ?_
  subst he
  subst hv
  exact ⟨_, rfl, post_law laidOut_isopSides hW' rfl hE (by kernel_rfl) rfl Try.underlying4 rfl rfl rfl⟩

theorem isopSides_holds : Rows.IsopSidesSaid :=
  OpenClaim.holds_of_wide 5 Try.f5 rfl rfl rfl rfl rfl rfl rfl ⟨rfl, rfl, rfl, rfl, rfl⟩ rfl rfl rfl rfl rfl (by kernel_rfl) Try.func5 isopSides_closed
    (of_decide_eq_true (by kernel_rfl)) (by unfold Func.isWrapper; first | (rw [if_pos (by decide +kernel)]; kernel_rfl) | (rw [if_neg (by decide +kernel)]; exact ⟨rfl, rfl⟩))
    (fun os started H enc _ => isopSides_lifted os started H enc)

end Go.Proofs.Ytdbcijijhhbkaaa
