/- MinimFewest holds: for all its arguments the law answers true, and they read as they did.
  No condition. -/
import Derived.Test.YteimkklmmanncaaGreatClosed17c
import Derived.Test.YteimkklmmanncaaGreatWLaw17
import Derived.Carry
namespace Go.Proofs.YteimkklmmanncaaGreat
set_option linter.unusedVariables false
set_option linter.unusedSimpArgs false
open Go.ChangeShapes Go.WideShapes Go.ChangeAt Go.RowKit Go.Joins Go.Deep
theorem uy : ownKnob Tryz.prog.godebug = none := by kernel_rfl
theorem qZ : laidOutB Tryz.prog = true := by kernel_rfl
set_option maxRecDepth 100000 in
theorem minimFewest_lifted (os : Os) (started : os.Started) (H : Type) (enc : TypeId × Value → H) :
  ReturnsInHanded {} Tryz.checked os 5 .any (Rows.minimFewestSpec.pre6 enc Tryz.prog Tryz.f5 Rows.minimFewestRow.domain false) (Rows.minimFewestSpec.post enc Tryz.prog Tryz.f5 false true false false) := by
 refine returnsInHanded_of_change (C := Tryz.checked) uy started (by kernel_rfl) Tryz.func5
  (ChangeSpec.witness6 (enc := enc) (C := Tryz.checked) false ⟨#[], #[.agg #[.int .i64 0, .slice none 0 0, .slice none 0 0]], []⟩ 8 (by kernel_rfl) (by kernel_rfl) (by kernel_rfl) (by kernel_rfl)) ?_
 intro W base args ds gs before hval0 hW hcnd _
 have hval : ∀ (j : Nat) t v, Tryz.f5.params[j]? = some t → args[j]? = some v → Value.okWide Tryz.prog W .any base t v := hval0
 have hW' := hW
 obtain ⟨p, q, hA0, hV, rfl, hfz, hnd⟩ := hW
 have hA : DataW.TrodAll enc Tryz.prog W 0 (fun _ => true) true Tryz.f5.params.toList args.toList ds p := hA0
 rw [Tryz.params5] at hA hval
 obtain ⟨v0, d0, rfl, rfl, h0⟩ := trodAll_one hA
 obtain ⟨rfl, rfl⟩ := trodVars_none hV
 obtain ⟨S0, on0, may0, rfl, hon0, hmay0, hn0, hso0, hsm0⟩ := open_spec Tryz.underlying24 (by kernel_rfl) (by kernel_rfl) Tryz.underlying3 Tryz.underlying22 Tryz.underlying22 (by kernel_rfl) Tryz.underlying49 Tryz.underlying47 (by kernel_rfl) (hval 0 24 v0 rfl rfl) h0
 refine (lV S0 on0 may0 W hon0 hmay0).out.mono fun e W' ⟨v, he, hE, hv⟩ => ?_
 subst he
 subst hv
 exact ⟨_, rfl, HS qZ hW' rfl hE (by kernel_rfl) rfl Tryz.underlying4 rfl rfl rfl⟩
theorem minimFewest_holds : Rows.MinimFewestSaid :=
 OpenClaim.holds_of_wide 5 Tryz.f5 rfl rfl rfl rfl rfl rfl rfl ⟨rfl, rfl, rfl, rfl, rfl⟩ rfl rfl rfl rfl rfl (by kernel_rfl) Tryz.func5 rF
  (of_decide_eq_true (by kernel_rfl)) (by unfold Func.isWrapper; first | (rw [if_pos (by decide +kernel)]; kernel_rfl) | (rw [if_neg (by decide +kernel)]; exact ⟨rfl, rfl⟩))
  (fun os started H enc _ => minimFewest_lifted os started H enc)
end Go.Proofs.YteimkklmmanncaaGreat
