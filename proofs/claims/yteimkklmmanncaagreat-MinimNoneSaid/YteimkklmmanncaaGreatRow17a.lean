/- MinimNone holds: for all its arguments the law answers true, and they read as they did.
  No condition. -/
import Derived.Test.YteimkklmmanncaaGreatClosed17a
import Derived.Test.YteimkklmmanncaaGreatWLaw17
import Derived.Carry
namespace Go.Proofs.YteimkklmmanncaaGreat
set_option linter.unusedVariables false
set_option linter.unusedSimpArgs false
open Go.ChangeShapes Go.WideShapes Go.ChangeAt Go.RowKit Go.Joins Go.Deep
theorem xd : ownKnob Tryz.prog.godebug = none := by kernel_rfl
theorem sf : laidOutB Tryz.prog = true := by kernel_rfl
set_option maxRecDepth 100000 in
theorem minimNone_lifted (os : Os) (started : os.Started) (H : Type) (enc : TypeId × Value → H) :
  ReturnsInHanded {} Tryz.checked os 4 .any (Rows.minimNoneSpec.pre6 enc Tryz.prog Tryz.f4 Rows.minimNoneRow.domain false) (Rows.minimNoneSpec.post enc Tryz.prog Tryz.f4 false true false false) := by
 refine returnsInHanded_of_change (C := Tryz.checked) xd started (by kernel_rfl) Tryz.func4
  (ChangeSpec.witness6 (enc := enc) (C := Tryz.checked) false ⟨#[], #[.agg #[.int .i64 0, .slice none 0 0, .slice none 0 0], .slice none 0 0], []⟩ 8 (by kernel_rfl) (by kernel_rfl) (by kernel_rfl) (by kernel_rfl)) ?_
 intro W base args ds gs before hval0 hW hcnd _
 have hval : ∀ (j : Nat) t v, Tryz.f4.params[j]? = some t → args[j]? = some v → Value.okWide Tryz.prog W .any base t v := hval0
 have hW' := hW
 obtain ⟨p, q, hA0, hV, rfl, hfz, hnd⟩ := hW
 have hA : DataW.TrodAll enc Tryz.prog W 0 (fun _ => true) true Tryz.f4.params.toList args.toList ds p := hA0
 rw [Tryz.params4] at hA hval
 obtain ⟨v0, v1, d0, d1, p0, p1, rfl, rfl, rfl, h0, h1⟩ := trodAll_two hA
 obtain ⟨rfl, rfl⟩ := trodVars_none hV
 obtain ⟨S0, on0, may0, rfl, hon0, hmay0, hn0, hso0, hsm0⟩ := open_spec Tryz.underlying24 (by kernel_rfl) (by kernel_rfl) Tryz.underlying3 Tryz.underlying22 Tryz.underlying22 (by kernel_rfl) Tryz.underlying49 Tryz.underlying47 (by kernel_rfl) (hval 0 24 v0 rfl rfl) h0
 obtain ⟨fuel1, hf1⟩ := h1
 obtain ⟨a1, l1, cc1, hva1⟩ := okWide_slice Tryz.underlying29 (hval 1 29 v1 rfl rfl)
 obtain ⟨L1, hL1, hq1⟩ := open_sl Tryz.underlying29 (by kernel_rfl) (by decide) ej (fun n cs y hl hh => M5 Tryz.underlying42 rfl rfl (by kernel_rfl) (by kernel_rfl) Tryz.underlying5 Tryz.underlying40 rfl rfl (by kernel_rfl) (by kernel_rfl) Tryz.underlying5 Tryz.underlying5 hl hh) (show DataW.trod _ _ _ _ _ _ _ _ [v1] = some _ by subst hva1; exact hf1)
 refine (mw S0 on0 may0 v1 L1 W hon0 hmay0 hL1 hq1).out.mono fun e W' ⟨v, he, hE, hv⟩ => ?_
 subst he
 subst hv
 exact ⟨_, rfl, Jz sf hW' rfl hE (by kernel_rfl) rfl Tryz.underlying4 rfl rfl rfl⟩
theorem minimNone_holds : Rows.MinimNoneSaid :=
 OpenClaim.holds_of_wide 4 Tryz.f4 rfl rfl rfl rfl rfl rfl rfl ⟨rfl, rfl, rfl, rfl, rfl⟩ rfl rfl rfl rfl rfl (by kernel_rfl) Tryz.func4 ti
  (of_decide_eq_true (by kernel_rfl)) (by unfold Func.isWrapper; first | (rw [if_pos (by decide +kernel)]; kernel_rfl) | (rw [if_neg (by decide +kernel)]; exact ⟨rfl, rfl⟩))
  (fun os started H enc _ => minimNone_lifted os started H enc)
end Go.Proofs.YteimkklmmanncaaGreat
