/-
  CoverMeans holds: for all its arguments the law answers true, and they read as they did.
  No condition.
-/
import Derived.Test.YtdbcijijhhbkaaaRows
import Derived.Test.YtdbcijijhhbkaaaLift2
import Derived.Test.YtdbcijijhhbkaaaClosed13d
import Derived.Test.YtdbcijijhhbkaaaWLaw13
import Derived.Carry
namespace Go.Proofs.Ytdbcijijhhbkaaa
set_option linter.unusedVariables false
set_option linter.unusedSimpArgs false
open Go.ChangeShapes Go.WideShapes Go.ChangeAt Go.RowKit Go.Joins Go.Deep

theorem own_coverMeans : ownKnob Try.prog.godebug = none := by kernel_rfl
theorem laidOut_coverMeans : laidOutB Try.prog = true := by kernel_rfl

set_option maxRecDepth 100000 in
theorem coverMeans_lifted (os : Os) (started : os.Started) (H : Type) (enc : TypeId × Value → H) :
    ReturnsInHanded {} Try.checked os 16 .any (Rows.coverMeansSpec.pre6 enc Try.prog Try.f16 Rows.coverMeansRow.domain false) (Rows.coverMeansSpec.post enc Try.prog Try.f16 false true false false) := by
  refine returnsInHanded_of_change (C := Try.checked) own_coverMeans started (by kernel_rfl) Try.func16
    (ChangeSpec.witness6 (enc := enc) (C := Try.checked) false ⟨#[], #[.agg #[.int .i64 0, .slice none 0 0, .slice none 0 0], .slice none 0 0, .slice none 0 0], []⟩ 8 (by kernel_rfl) (by kernel_rfl) (by kernel_rfl) (by kernel_rfl)) ?_
  intro W base args ds gs before hval0 hW hcnd _
  have hval : ∀ (j : Nat) t v, Try.f16.params[j]? = some t → args[j]? = some v → Value.okWide Try.prog W .any base t v := hval0
  have hW' := hW
  obtain ⟨p, q, hA0, hV, rfl, hfz, hnd⟩ := hW
  have hA : DataW.TrodAll enc Try.prog W 0 (fun _ => true) true Try.f16.params.toList args.toList ds p := hA0
  rw [Try.params16] at hA hval
  obtain ⟨v0, v1, v2, d0, d1, d2, p0, p1, p2, rfl, rfl, rfl, h0, h1, h2⟩ := trodAll_three hA
  obtain ⟨rfl, rfl⟩ := trodVars_none hV
  obtain ⟨S0, on0, may0, rfl, hon0, hmay0, hn0, hso0, hsm0⟩ := open_spec Try.underlying64 (by kernel_rfl) (by kernel_rfl) Try.underlying3 Try.underlying62 Try.underlying62 (by kernel_rfl) Try.underlying24 Try.underlying22 (by kernel_rfl) (hval 0 64 v0 rfl rfl) h0
  obtain ⟨fuel1, hf1⟩ := h1
  obtain ⟨a1, l1, cc1, hva1⟩ := okWide_slice Try.underlying65 (hval 1 65 v1 rfl rfl)
  obtain ⟨L1, hL1, hq1⟩ := open_sl Try.underlying65 (by kernel_rfl) (by decide) encR_len (fun n cs y hl hh => el_row Try.underlying79 rfl rfl (by kernel_rfl) (by kernel_rfl) Try.underlying5 Try.underlying34 rfl rfl (by kernel_rfl) (by kernel_rfl) Try.underlying5 Try.underlying5 hl hh) (show DataW.trod _ _ _ _ _ _ _ _ [v1] = some _ by subst hva1; exact hf1)
  obtain ⟨fuel2, hf2⟩ := h2
  obtain ⟨a2, l2, cc2, hva2⟩ := okWide_slice Try.underlying43 (hval 2 43 v2 rfl rfl)
  obtain ⟨L2, hL2, hq2⟩ := open_sl Try.underlying43 (by kernel_rfl) (by decide) encB_len (fun n cs y hl hh => el_bool Try.underlying4 hl hh) (show DataW.trod _ _ _ _ _ _ _ _ [v2] = some _ by subst hva2; exact hf2)
  refine (C_drawknifelaw13_CoverMeans S0 on0 may0 v1 L1 v2 L2 W hon0 hmay0 hL1 hq1 hL2).out.mono fun e W' ⟨v, he, hE, hv⟩ => ?_
  subst he
  subst hv
  exact ⟨_, rfl, post_law laidOut_coverMeans hW' rfl hE (by kernel_rfl) rfl Try.underlying4 rfl rfl rfl⟩

theorem coverMeans_holds : Rows.CoverMeansSaid :=
  OpenClaim.holds_of_wide 16 Try.f16 rfl rfl rfl rfl rfl rfl rfl ⟨rfl, rfl, rfl, rfl, rfl⟩ rfl rfl rfl rfl rfl (by kernel_rfl) Try.func16 coverMeans_closed
    (of_decide_eq_true (by kernel_rfl)) (by unfold Func.isWrapper; first | (rw [if_pos (by decide +kernel)]; kernel_rfl) | (rw [if_neg (by decide +kernel)]; exact ⟨rfl, rfl⟩))
    (fun os started H enc _ => coverMeans_lifted os started H enc)

end Go.Proofs.Ytdbcijijhhbkaaa
