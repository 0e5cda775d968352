/-
  SpecPoints holds, as a tied card: for all its arguments the law answers true, and they read as they did.
  No condition but that the listed variables of Go's library hold what the program's text lays (the card's tie).
-/
import Derived.Test.YtnkaebjaeaecmaaDoorRows
import Derived.Test.YtnkaebjaeaecmaaDoorCards
import Derived.Test.YtnkaebjaeaecmaaDoorTie
import Derived.Test.YtnkaebjaeaecmaaDoorLiftT
import Derived.Test.YtnkaebjaeaecmaaDoorLift2
import Derived.Test.YtnkaebjaeaecmaaDoorClosed04b
import Derived.Test.YtnkaebjaeaecmaaDoorWLaw04
import Derived.SevenTiedAt
import Derived.LaidLaws
namespace Go.Proofs.YtnkaebjaeaecmaaDoor
set_option linter.unusedVariables false
set_option linter.unusedSimpArgs false
open Go.ChangeShapes Go.WideShapes Go.ChangeAt Go.RowKit Go.Joins Go.Deep

theorem own_specPoints : ownKnob Tryd.prog.godebug = none := by kernel_rfl
theorem laidOut_specPoints : laidOutB Tryd.prog = true := by kernel_rfl
theorem star_specPoints : "*" ++ "errors.errorString" = "*errors.errorString" := by decide
theorem row_specPoints (u : TypeId) (h : Tryd.prog.typeName? 3 u = some "*errors.errorString") : u = 149 :=
  typeName_ptr_named (nm := "errors.errorString") (by rw [star_specPoints]; kernel_rfl) (by kernel_rfl) (by decide) u (by rw [star_specPoints]; exact h)

/-- What the library's functions read of its own variables, out of the row's condition and the world's shape. -/
theorem gl_specPoints {W : World} (hL0 : laidMetH Tryd.prog Rows.specPointsRow.laid W) (hsh : W.ShapedOpen Tryd.prog) : Gl W := by
  have hL : laidMet Tryd.prog Rows.specPointsRow.laid W := by
    rw [MakeChecks.laidMetH_plain _ _ _ (by kernel_rfl)] at hL0
    exact hL0
  refine ⟨?_, ?_, ?_, ?_⟩
  · exact cell_of_shapedOpen_int (zero := #[.int .i64 0]) (t := 3) hsh (of_decide_eq_true (by kernel_rfl)) (by kernel_rfl) rfl (by kernel_rfl) (by kernel_rfl) Tryd.underlying3
  · obtain ⟨a, _, hv, _⟩ := laid_sentinel hL.tail.tail.tail.tail.tail (g := 4) (ti := 100) (tp := 149) (te := 151) (ts := 9) (by kernel_rfl) (by kernel_rfl) Tryd.underlying100 (row_specPoints) Tryd.underlying149 Tryd.underlying151 rfl rfl Tryd.underlying9 (by kernel_rfl) (by kernel_rfl)
    exact ⟨_, _, by simpa using World.var?_cell (show Tryd.prog.globalNamed "strconv.ErrSyntax" = some 4 by kernel_rfl) hv 0⟩
  · obtain ⟨a, _, hv, _⟩ := laid_sentinel hL.tail.tail.tail.tail (g := 5) (ti := 100) (tp := 149) (te := 151) (ts := 9) (by kernel_rfl) (by kernel_rfl) Tryd.underlying100 (row_specPoints) Tryd.underlying149 Tryd.underlying151 rfl rfl Tryd.underlying9 (by kernel_rfl) (by kernel_rfl)
    exact ⟨_, _, by simpa using World.var?_cell (show Tryd.prog.globalNamed "strconv.ErrRange" = some 5 by kernel_rfl) hv 0⟩
  · exact Lib.tabIs_of_head (g := 0) (t := 121) (e := 49) (n := 20) (by kernel_rfl) (by kernel_rfl) Tryd.underlying121 Tryd.underlying49 (by kernel_rfl) (by kernel_rfl) hL.tail.tail

set_option maxRecDepth 100000 in
set_option maxHeartbeats 4000000 in
theorem specPoints_lifted (os : Os) (started : os.Started) (H : Type) (enc : TypeId × Value → H) :
    ReturnsInHanded {} Tryd.checked os 6 .any (fun w args => (Rows.specPointsSpec.pre enc Tryd.prog Tryd.f6 Rows.specPointsRow.domain false w args ∧ laidMetH Tryd.prog Rows.specPointsRow.laid w) ∧ sizedMet enc Tryd.prog Tryd.f6 (OpenSpec.ofChange Rows.specPointsSpec) false w args) (Rows.specPointsSpec.post enc Tryd.prog Tryd.f6 false true false false) := by
  refine lift_laid (C := Tryd.checked) own_specPoints started (by kernel_rfl) Tryd.func6
    (ChangeSpec.witness_shaped (enc := enc) (C := Tryd.checked) (os := os) (X := fun w _ => laidMetH Tryd.prog Rows.specPointsRow.laid w) false (World.laidAll Tryd.prog os Rows.specPointsRow.laid) #[.slice none 0 0, .int .i64 0, .int .i64 0] 8 (World.laidAll_os _ _ _)
      (World.shaped_of_ZipB (by kernel_rfl) (by kernel_rfl)) (by kernel_rfl) (by kernel_rfl) (by kernel_rfl)
      (by rw [MakeChecks.laidMetH_plain _ _ _ (by kernel_rfl)]; exact laidMet_laidAll _ (by kernel_rfl) (by kernel_rfl))) ?_
  intro W base args ds gs before hval0 hW hL hsh
  have hval : ∀ (j : Nat) t v, Tryd.f6.params[j]? = some t → args[j]? = some v → Value.okWide Tryd.prog W .any base t v := hval0
  have hgl : Gl W := gl_specPoints hL hsh
  have hW' := hW
  obtain ⟨p, q, hA0, hV, rfl, hfz, hnd⟩ := hW
  have hA : DataW.TrodAll enc Tryd.prog W 0 (fun _ => true) true Tryd.f6.params.toList args.toList ds p := hA0
  rw [Tryd.params6] at hA hval
  obtain ⟨v0, v1, v2, d0, d1, d2, p0, p1, p2, rfl, rfl, rfl, h0, h1, h2⟩ := trodAll_three hA
  obtain ⟨rfl, rfl⟩ := trodVars_none hV
  obtain ⟨fuel0, hf0⟩ := h0
  obtain ⟨a0, l0, cc0, hva0⟩ := okWide_slice Tryd.underlying40 (hval 0 40 v0 rfl rfl)
  obtain ⟨L0, hL0, hq0⟩ := open_sl Tryd.underlying40 (by kernel_rfl) (by decide) encR_len (fun n cs y hl hh => el_row Tryd.underlying47 rfl rfl (by kernel_rfl) (by kernel_rfl) Tryd.underlying5 Tryd.underlying42 rfl rfl (by kernel_rfl) (by kernel_rfl) Tryd.underlying5 Tryd.underlying5 hl hh) (show DataW.trod _ _ _ _ _ _ _ _ [v0] = some _ by subst hva0; exact hf0)
  obtain ⟨n1, rfl, _, _, _⟩ := open_int Tryd.underlying3 (hval 1 3 v1 rfl rfl) h1
  obtain ⟨n2, rfl, _, _, _⟩ := open_int Tryd.underlying3 (hval 2 3 v2 rfl rfl) h2
  refine (C_drawknifelaw04_SpecPoints v0 L0 n1 n2 W hgl hL0 hq0).out.mono fun e W' ⟨v, he, hE, hv⟩ => ?_
  subst he
  subst hv
  exact ⟨_, rfl, post_law laidOut_specPoints hW' rfl hE (by kernel_rfl) rfl Tryd.underlying4 rfl rfl rfl⟩

theorem specPoints_row : Rows.SpecPointsSaid :=
  OpenClaim.holds_of_wide 6 Tryd.f6 rfl rfl rfl rfl rfl rfl rfl ⟨rfl, rfl, rfl, rfl, rfl⟩ rfl rfl rfl rfl rfl (by kernel_rfl) Tryd.func6 specPoints_closed
    (of_decide_eq_true (by kernel_rfl)) (by unfold Func.isWrapper; first | (rw [if_pos (by decide +kernel)]; kernel_rfl) | (rw [if_neg (by decide +kernel)]; exact ⟨rfl, rfl⟩))
    (fun os started H enc _ => specPoints_lifted os started H enc)

theorem specPoints_holds : Rows.SpecPointsCardSaid :=
  Claim7.holds_tied_plain_at .later [] [.data, .data, .data, .data, .sentinel, .sentinel, .pinned] true (true, "6bf0231e66fd678854dd0e9eca5e8b38bf49a1daed0ab5005693165148d214b9") true specPoints_row (fun _ h => by cases h) (by kernel_rfl) (fun _ h => by cases h) specPoints_row_tie rfl ⟨rfl, rfl⟩ (by kernel_rfl) rfl
    (fun f fn hf hfn => by
      obtain rfl : f = 6 := Option.some.inj ((show Tryd.prog.funcNamed "drawknife/drawknifelaw04.SpecPoints" = some 6 by kernel_rfl).symm.trans hf) |>.symm
      obtain rfl : fn = Tryd.f6 := (Option.some.inj (Tryd.func6.symm.trans hfn)).symm
      exact ⟨by kernel_rfl, fun j t ht => by
        rw [Tryd.params6] at ht
        have hm : t ∈ [40, 3, 3] := by simpa using Array.mem_of_getElem? ht
        have hall : ([40, 3, 3].all fun u => !Tryd.prog.wantsStandIn u) = true := by kernel_rfl
        exact (show Tryd.prog.wantsStandIn t = false by simpa using List.all_eq_true.1 hall t hm)⟩)
    (by kernel_rfl)

end Go.Proofs.YtnkaebjaeaecmaaDoor
