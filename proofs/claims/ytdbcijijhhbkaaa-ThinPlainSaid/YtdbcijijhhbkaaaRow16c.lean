/-
  ThinPlain holds: for all its arguments the law answers true, and they read as they did.
  No condition.
-/
import Derived.Test.YtdbcijijhhbkaaaRows
import Derived.Test.YtdbcijijhhbkaaaLift2
import Derived.Test.YtdbcijijhhbkaaaClosed16c
import Derived.Test.YtdbcijijhhbkaaaWLaw16b
import Derived.Carry
namespace Go.Proofs.Ytdbcijijhhbkaaa
set_option linter.unusedVariables false
set_option linter.unusedSimpArgs false
open Go.ChangeShapes Go.WideShapes Go.ChangeAt Go.RowKit Go.Joins Go.Deep

theorem own_thinPlain : ownKnob Try.prog.godebug = none := by kernel_rfl
theorem laidOut_thinPlain : laidOutB Try.prog = true := by kernel_rfl

set_option maxRecDepth 100000 in
theorem thinPlain_lifted (os : Os) (started : os.Started) (H : Type) (enc : TypeId × Value → H) :
    ReturnsInHanded {} Try.checked os 21 .any (Rows.thinPlainSpec.pre6 enc Try.prog Try.f21 Rows.thinPlainRow.domain false) (Rows.thinPlainSpec.post enc Try.prog Try.f21 false true false false) := by
  refine returnsInHanded_of_change (C := Try.checked) own_thinPlain started (by kernel_rfl) Try.func21
    (ChangeSpec.witness6 (enc := enc) (C := Try.checked) false ⟨#[], #[.agg #[.int .i64 0, .slice none 0 0, .slice none 0 0]], []⟩ 8 (by kernel_rfl) (by kernel_rfl) (by kernel_rfl) (by kernel_rfl)) ?_
  intro W base args ds gs before hval0 hW hcnd _
  have hval : ∀ (j : Nat) t v, Try.f21.params[j]? = some t → args[j]? = some v → Value.okWide Try.prog W .any base t v := hval0
  have hW' := hW
  obtain ⟨p, q, hA0, hV, rfl, hfz, hnd⟩ := hW
  have hA : DataW.TrodAll enc Try.prog W 0 (fun _ => true) true Try.f21.params.toList args.toList ds p := hA0
  rw [Try.params21] at hA hval
  obtain ⟨v0, d0, rfl, rfl, h0⟩ := trodAll_one hA
  obtain ⟨rfl, rfl⟩ := trodVars_none hV
  obtain ⟨S0, on0, may0, rfl, hon0, hmay0, hn0, hso0, hsm0⟩ := open_spec Try.underlying64 (by kernel_rfl) (by kernel_rfl) Try.underlying3 Try.underlying62 Try.underlying62 (by kernel_rfl) Try.underlying24 Try.underlying22 (by kernel_rfl) (hval 0 64 v0 rfl rfl) h0
  refine (C_drawknifelaw16_ThinPlain S0 on0 may0 W hon0 hmay0).out.mono fun e W' ⟨v, he, hE, hv⟩ => ?_
  subst he
  subst hv
  exact ⟨_, rfl, post_law laidOut_thinPlain hW' rfl hE (by kernel_rfl) rfl Try.underlying4 rfl rfl rfl⟩

theorem thinPlain_holds : Rows.ThinPlainSaid :=
  OpenClaim.holds_of_wide 21 Try.f21 rfl rfl rfl rfl rfl rfl rfl ⟨rfl, rfl, rfl, rfl, rfl⟩ rfl rfl rfl rfl rfl (by kernel_rfl) Try.func21 thinPlain_closed
    (of_decide_eq_true (by kernel_rfl)) (by unfold Func.isWrapper; first | (rw [if_pos (by decide +kernel)]; kernel_rfl) | (rw [if_neg (by decide +kernel)]; exact ⟨rfl, rfl⟩))
    (fun os started H enc _ => thinPlain_lifted os started H enc)

end Go.Proofs.Ytdbcijijhhbkaaa
