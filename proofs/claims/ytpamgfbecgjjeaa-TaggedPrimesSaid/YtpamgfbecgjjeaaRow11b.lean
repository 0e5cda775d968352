/-
  TaggedPrimes holds: for all its arguments the law answers true, and they read as they did.
  No condition.
-/
import Derived.Test.YtpamgfbecgjjeaaRows
import Derived.Test.YtpamgfbecgjjeaaLift
import Derived.Test.YtpamgfbecgjjeaaClosed11b
import Derived.Test.YtpamgfbecgjjeaaWLaw11
import Derived.Carry
namespace Go.Proofs.Ytpamgfbecgjjeaa
set_option linter.unusedVariables false
set_option linter.unusedSimpArgs false
open Go.ChangeShapes Go.WideShapes Go.ChangeAt Go.RowKit Go.Joins Go.Deep

theorem own_taggedPrimes : ownKnob Try.prog.godebug = none := by kernel_rfl
theorem laidOut_taggedPrimes : laidOutB Try.prog = true := by kernel_rfl

set_option maxRecDepth 100000 in
theorem taggedPrimes_lifted (os : Os) (started : os.Started) (H : Type) (enc : TypeId × Value → H) :
    ReturnsInHanded {} Try.checked os 15 .any (Rows.taggedPrimesSpec.pre6 enc Try.prog Try.f15 Rows.taggedPrimesRow.domain false) (Rows.taggedPrimesSpec.post enc Try.prog Try.f15 false true false false) := by
  refine returnsInHanded_of_change (C := Try.checked) own_taggedPrimes started (by kernel_rfl) Try.func15
    (ChangeSpec.witness6 (enc := enc) (C := Try.checked) false ⟨#[], #[.agg #[.int .u64 0, .int .u64 0, .int .u64 0, .int .u64 0], .int .i64 0], []⟩ 8 (by kernel_rfl) (by kernel_rfl) (by kernel_rfl) (by kernel_rfl)) ?_
  intro W base args ds gs before hval0 hW hcnd _
  have hval : ∀ (j : Nat) t v, Try.f15.params[j]? = some t → args[j]? = some v → Value.okWide Try.prog W .any base t v := hval0
  have hW' := hW
  obtain ⟨p, q, hA0, hV, rfl, hfz, hnd⟩ := hW
  have hA : DataW.TrodAll enc Try.prog W 0 (fun _ => true) true Try.f15.params.toList args.toList ds p := hA0
  rw [Try.params15] at hA hval
  obtain ⟨v0, v1, d0, d1, p0, p1, rfl, rfl, rfl, h0, h1⟩ := trodAll_two hA
  obtain ⟨rfl, rfl⟩ := trodVars_none hV
  obtain ⟨s0, _, rfl⟩ := open_set Try.underlying69 Try.underlying67 (by kernel_rfl) (by kernel_rfl) (hval 0 69 v0 rfl rfl) h0
  obtain ⟨n1, rfl, _, _, _⟩ := open_int Try.underlying3 (hval 1 3 v1 rfl rfl) h1
  refine (C_drawknifelaw11_TaggedPrimes s0 n1 W).out.mono fun e W' ⟨v, he, hE, hv⟩ => ?_
  subst he
  subst hv
  exact ⟨_, rfl, post_law laidOut_taggedPrimes hW' rfl hE (by kernel_rfl) rfl Try.underlying4 rfl rfl rfl⟩

theorem taggedPrimes_holds : Rows.TaggedPrimesSaid :=
  OpenClaim.holds_of_wide 15 Try.f15 rfl rfl rfl rfl rfl rfl rfl ⟨rfl, rfl, rfl, rfl, rfl⟩ rfl rfl rfl rfl rfl (by kernel_rfl) Try.func15 taggedPrimes_closed
    (of_decide_eq_true (by kernel_rfl)) (by unfold Func.isWrapper; first | (rw [if_pos (by decide +kernel)]; kernel_rfl) | (rw [if_neg (by decide +kernel)]; exact ⟨rfl, rfl⟩))
    (fun os started H enc _ => taggedPrimes_lifted os started H enc)

end Go.Proofs.Ytpamgfbecgjjeaa
