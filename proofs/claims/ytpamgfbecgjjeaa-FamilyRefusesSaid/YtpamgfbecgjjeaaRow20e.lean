/-
  FamilyRefuses holds: for all its arguments the law answers true, and they read as they did.
  No condition.
-/
import Derived.Test.YtpamgfbecgjjeaaRows
import Derived.Test.YtpamgfbecgjjeaaLift1
import Derived.Test.YtpamgfbecgjjeaaClosed20e
import Derived.Test.YtpamgfbecgjjeaaWLaw20b
import Derived.Carry
namespace Go.Proofs.Ytpamgfbecgjjeaa
set_option linter.unusedVariables false
set_option linter.unusedSimpArgs false
open Go.ChangeShapes Go.WideShapes Go.ChangeAt Go.RowKit Go.Joins Go.Deep

theorem own_familyRefuses : ownKnob Try.prog.godebug = none := by kernel_rfl
theorem laidOut_familyRefuses : laidOutB Try.prog = true := by kernel_rfl

set_option maxRecDepth 100000 in
theorem familyRefuses_lifted (os : Os) (started : os.Started) (H : Type) (enc : TypeId × Value → H) :
    ReturnsInHanded {} Try.checked os 14 .any (Rows.familyRefusesSpec.pre6 enc Try.prog Try.f14 Rows.familyRefusesRow.domain false) (Rows.familyRefusesSpec.post enc Try.prog Try.f14 false true false false) := by
  refine returnsInHanded_of_change (C := Try.checked) own_familyRefuses started (by kernel_rfl) Try.func14
    (ChangeSpec.witness6 (enc := enc) (C := Try.checked) false ⟨#[], #[.slice none 0 0, .slice none 0 0, .int .u8 0], []⟩ 8 (by kernel_rfl) (by kernel_rfl) (by kernel_rfl) (by kernel_rfl)) ?_
  intro W base args ds gs before hval0 hW hcnd _
  have hval : ∀ (j : Nat) t v, Try.f14.params[j]? = some t → args[j]? = some v → Value.okWide Try.prog W .any base t v := hval0
  have hW' := hW
  obtain ⟨p, q, hA0, hV, rfl, hfz, hnd⟩ := hW
  have hA : DataW.TrodAll enc Try.prog W 0 (fun _ => true) true Try.f14.params.toList args.toList ds p := hA0
  rw [Try.params14] at hA hval
  obtain ⟨v0, v1, v2, d0, d1, d2, p0, p1, p2, rfl, rfl, rfl, h0, h1, h2⟩ := trodAll_three hA
  obtain ⟨rfl, rfl⟩ := trodVars_none hV
  obtain ⟨fuel0, hf0⟩ := h0
  obtain ⟨a0, l0, cc0, hva0⟩ := okWide_slice Try.underlying22 (hval 0 22 v0 rfl rfl)
  obtain ⟨L0, hL0, hq0⟩ := open_sl Try.underlying22 (by kernel_rfl) (by decide) encI_len (fun n cs y hl hh => el_int Try.underlying3 hl hh) (show DataW.trod _ _ _ _ _ _ _ _ [v0] = some _ by subst hva0; exact hf0)
  obtain ⟨fuel1, hf1⟩ := h1
  obtain ⟨a1, l1, cc1, hva1⟩ := okWide_slice Try.underlying22 (hval 1 22 v1 rfl rfl)
  obtain ⟨L1, hL1, hq1⟩ := open_sl Try.underlying22 (by kernel_rfl) (by decide) encI_len (fun n cs y hl hh => el_int Try.underlying3 hl hh) (show DataW.trod _ _ _ _ _ _ _ _ [v1] = some _ by subst hva1; exact hf1)
  obtain ⟨z2, rfl, _, _, hz2⟩ := open_int Try.underlying5 (hval 2 5 v2 rfl rfl) h2
  obtain ⟨q2, rfl, hq2⟩ := wf_u8 hz2
  refine (C_drawknifelaw20_FamilyRefuses v0 L0 v1 L1 q2 W hL0 hL1 hq2).out.mono fun e W' ⟨v, he, hE, hv⟩ => ?_
  subst he
  subst hv
  exact ⟨_, rfl, post_law laidOut_familyRefuses hW' rfl hE (by kernel_rfl) rfl Try.underlying4 rfl rfl rfl⟩

theorem familyRefuses_holds : Rows.FamilyRefusesSaid :=
  OpenClaim.holds_of_wide 14 Try.f14 rfl rfl rfl rfl rfl rfl rfl ⟨rfl, rfl, rfl, rfl, rfl⟩ rfl rfl rfl rfl rfl (by kernel_rfl) Try.func14 familyRefuses_closed
    (of_decide_eq_true (by kernel_rfl)) (by unfold Func.isWrapper; first | (rw [if_pos (by decide +kernel)]; kernel_rfl) | (rw [if_neg (by decide +kernel)]; exact ⟨rfl, rfl⟩))
    (fun os started H enc _ => familyRefuses_lifted os started H enc)

end Go.Proofs.Ytpamgfbecgjjeaa
