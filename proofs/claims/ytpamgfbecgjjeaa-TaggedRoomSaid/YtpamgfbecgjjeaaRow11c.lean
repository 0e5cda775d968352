/-
  TaggedRoom holds: for all its arguments the law answers true, and they read as they did.
  No condition.
-/
import Derived.Test.YtpamgfbecgjjeaaRows
import Derived.Test.YtpamgfbecgjjeaaLift2
import Derived.Test.YtpamgfbecgjjeaaClosed11c
import Derived.Test.YtpamgfbecgjjeaaWLaw11b
import Derived.Carry
namespace Go.Proofs.Ytpamgfbecgjjeaa
set_option linter.unusedVariables false
set_option linter.unusedSimpArgs false
open Go.ChangeShapes Go.WideShapes Go.ChangeAt Go.RowKit Go.Joins Go.Deep

theorem own_taggedRoom : ownKnob Try.prog.godebug = none := by kernel_rfl
theorem laidOut_taggedRoom : laidOutB Try.prog = true := by kernel_rfl

set_option maxRecDepth 100000 in
theorem taggedRoom_lifted (os : Os) (started : os.Started) (H : Type) (enc : TypeId × Value → H) :
    ReturnsInHanded {} Try.checked os 18 .any (Rows.taggedRoomSpec.pre6 enc Try.prog Try.f18 Rows.taggedRoomRow.domain false) (Rows.taggedRoomSpec.post enc Try.prog Try.f18 false true false false) := by
  refine returnsInHanded_of_change (C := Try.checked) own_taggedRoom started (by kernel_rfl) Try.func18
    (ChangeSpec.witness6 (enc := enc) (C := Try.checked) false ⟨#[], #[.agg #[.int .i64 0, .slice none 0 0, .slice none 0 0], .int .u8 0], []⟩ 8 (by kernel_rfl) (by kernel_rfl) (by kernel_rfl) (by kernel_rfl)) ?_
  intro W base args ds gs before hval0 hW hcnd _
  have hval : ∀ (j : Nat) t v, Try.f18.params[j]? = some t → args[j]? = some v → Value.okWide Try.prog W .any base t v := hval0
  have hW' := hW
  obtain ⟨p, q, hA0, hV, rfl, hfz, hnd⟩ := hW
  have hA : DataW.TrodAll enc Try.prog W 0 (fun _ => true) true Try.f18.params.toList args.toList ds p := hA0
  rw [Try.params18] at hA hval
  obtain ⟨v0, v1, d0, d1, p0, p1, rfl, rfl, rfl, h0, h1⟩ := trodAll_two hA
  obtain ⟨rfl, rfl⟩ := trodVars_none hV
  obtain ⟨S0, on0, may0, rfl, hon0, hmay0, hn0, hso0, hsm0⟩ := open_spec Try.underlying79 (by kernel_rfl) (by kernel_rfl) Try.underlying3 Try.underlying77 Try.underlying77 (by kernel_rfl) Try.underlying69 Try.underlying67 (by kernel_rfl) (hval 0 79 v0 rfl rfl) h0
  obtain ⟨z1, rfl, _, _, hz1⟩ := open_int Try.underlying5 (hval 1 5 v1 rfl rfl) h1
  obtain ⟨q1, rfl, hq1⟩ := wf_u8 hz1
  refine (C_drawknifelaw11_TaggedRoom S0 on0 may0 q1 W hon0 hmay0 hq1).out.mono fun e W' ⟨v, he, hE, hv⟩ => ?_
  subst he
  subst hv
  exact ⟨_, rfl, post_law laidOut_taggedRoom hW' rfl hE (by kernel_rfl) rfl Try.underlying4 rfl rfl rfl⟩

theorem taggedRoom_holds : Rows.TaggedRoomSaid :=
  OpenClaim.holds_of_wide 18 Try.f18 rfl rfl rfl rfl rfl rfl rfl ⟨rfl, rfl, rfl, rfl, rfl⟩ rfl rfl rfl rfl rfl (by kernel_rfl) Try.func18 taggedRoom_closed
    (of_decide_eq_true (by kernel_rfl)) (by unfold Func.isWrapper; first | (rw [if_pos (by decide +kernel)]; kernel_rfl) | (rw [if_neg (by decide +kernel)]; exact ⟨rfl, rfl⟩))
    (fun os started H enc _ => taggedRoom_lifted os started H enc)

end Go.Proofs.Ytpamgfbecgjjeaa
