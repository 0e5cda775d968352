/- MinimRows holds: for all its arguments the law answers true, and they read as they did.
  No condition. -/
import Derived.Test.YteimkklmmanncaaGreatClosed17b
import Derived.Test.YteimkklmmanncaaGreatWLaw17
import Derived.Carry
namespace Go.Proofs.YteimkklmmanncaaGreat
set_option linter.unusedVariables false
set_option linter.unusedSimpArgs false
open Go.ChangeShapes Go.WideShapes Go.ChangeAt Go.RowKit Go.Joins Go.Deep
theorem xJ : ownKnob Tryz.prog.godebug = none := by kernel_rfl
theorem sx : laidOutB Tryz.prog = true := by kernel_rfl
set_option maxRecDepth 100000 in
theorem minimRows_lifted (os : Os) (started : os.Started) (H : Type) (enc : TypeId × Value → H) :
  ReturnsInHanded {} Tryz.checked os 3 .any (Rows.minimRowsSpec.pre6 enc Tryz.prog Tryz.f3 Rows.minimRowsRow.domain false) (Rows.minimRowsSpec.post enc Tryz.prog Tryz.f3 false true false false) := by
 refine returnsInHanded_of_change (C := Tryz.checked) xJ started (by kernel_rfl) Tryz.func3
  (ChangeSpec.witness6 (enc := enc) (C := Tryz.checked) false ⟨#[], #[.agg #[.int .i64 0, .slice none 0 0, .slice none 0 0], .agg #[.int .i64 0, .int .i64 0]], []⟩ 8 (by kernel_rfl) (by kernel_rfl) (by kernel_rfl) (by kernel_rfl)) ?_
 intro W base args ds gs before hval0 hW hcnd _
 have hval : ∀ (j : Nat) t v, Tryz.f3.params[j]? = some t → args[j]? = some v → Value.okWide Tryz.prog W .any base t v := hval0
 have hW' := hW
 obtain ⟨p, q, hA0, hV, rfl, hfz, hnd⟩ := hW
 have hA : DataW.TrodAll enc Tryz.prog W 0 (fun _ => true) true Tryz.f3.params.toList args.toList ds p := hA0
 rw [Tryz.params3] at hA hval
 obtain ⟨v0, v1, d0, d1, p0, p1, rfl, rfl, rfl, h0, h1⟩ := trodAll_two hA
 obtain ⟨rfl, rfl⟩ := trodVars_none hV
 obtain ⟨S0, on0, may0, rfl, hon0, hmay0, hn0, hso0, hsm0⟩ := open_spec Tryz.underlying24 (by kernel_rfl) (by kernel_rfl) Tryz.underlying3 Tryz.underlying22 Tryz.underlying22 (by kernel_rfl) Tryz.underlying49 Tryz.underlying47 (by kernel_rfl) (hval 0 24 v0 rfl rfl) h0
 obtain ⟨ba1, bb1, rfl⟩ := open_pair Tryz.underlying26 (by kernel_rfl) (by kernel_rfl) Tryz.underlying3 Tryz.underlying3 (hval 1 26 v1 rfl rfl) h1
 refine (mR S0 on0 may0 ba1 bb1 W hon0 hmay0).out.mono fun e W' ⟨v, he, hE, hv⟩ => ?_
 subst he
 subst hv
 exact ⟨_, rfl, H6 sx hW' rfl hE (by kernel_rfl) rfl Tryz.underlying4 rfl rfl rfl⟩
theorem minimRows_holds : Rows.MinimRowsSaid :=
 OpenClaim.holds_of_wide 3 Tryz.f3 rfl rfl rfl rfl rfl rfl rfl ⟨rfl, rfl, rfl, rfl, rfl⟩ rfl rfl rfl rfl rfl (by kernel_rfl) Tryz.func3 tO
  (of_decide_eq_true (by kernel_rfl)) (by unfold Func.isWrapper; first | (rw [if_pos (by decide +kernel)]; kernel_rfl) | (rw [if_neg (by decide +kernel)]; exact ⟨rfl, rfl⟩))
  (fun os started H enc _ => minimRows_lifted os started H enc)
end Go.Proofs.YteimkklmmanncaaGreat
