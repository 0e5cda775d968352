/-
  SpecLines holds, as a tied card: for all its arguments the law answers true, and they read as they did.
  No condition but that the listed variables of Go's library hold what the program's text lays (the card's tie).
-/
import Derived.Test.YtnkaebjaeaecmaaDoorRows
import Derived.Test.YtnkaebjaeaecmaaDoorCards
import Derived.Test.YtnkaebjaeaecmaaDoorTie
import Derived.Test.YtnkaebjaeaecmaaDoorLiftT
import Derived.Test.YtnkaebjaeaecmaaDoorClosed04a
import Derived.Test.YtnkaebjaeaecmaaDoorWLaw04
import Derived.SevenTiedAt
import Derived.LaidLaws
namespace Go.Proofs.YtnkaebjaeaecmaaDoor
set_option linter.unusedVariables false
set_option linter.unusedSimpArgs false
open Go.ChangeShapes Go.WideShapes Go.ChangeAt Go.RowKit Go.Joins Go.Deep

theorem own_specLines : ownKnob Tryd.prog.godebug = none := by kernel_rfl
theorem laidOut_specLines : laidOutB Tryd.prog = true := by kernel_rfl
theorem star_specLines : "*" ++ "errors.errorString" = "*errors.errorString" := by decide
theorem row_specLines (u : TypeId) (h : Tryd.prog.typeName? 3 u = some "*errors.errorString") : u = 149 :=
  typeName_ptr_named (nm := "errors.errorString") (by rw [star_specLines]; kernel_rfl) (by kernel_rfl) (by decide) u (by rw [star_specLines]; exact h)

/-- What the library's functions read of its own variables, out of the row's condition and the world's shape. -/
theorem gl_specLines {W : World} (hL0 : laidMetH Tryd.prog Rows.specLinesRow.laid W) (hsh : W.ShapedOpen Tryd.prog) : Gl W := by
  have hL : laidMet Tryd.prog Rows.specLinesRow.laid W := by
    rw [MakeChecks.laidMetH_plain _ _ _ (by kernel_rfl)] at hL0
    exact hL0
  refine ⟨?_, ?_, ?_, ?_⟩
  · exact cell_of_shapedOpen_int (zero := #[.int .i64 0]) (t := 3) hsh (of_decide_eq_true (by kernel_rfl)) (by kernel_rfl) rfl (by kernel_rfl) (by kernel_rfl) Tryd.underlying3
  · obtain ⟨a, _, hv, _⟩ := laid_sentinel hL.tail.tail.tail.tail.tail (g := 4) (ti := 100) (tp := 149) (te := 151) (ts := 9) (by kernel_rfl) (by kernel_rfl) Tryd.underlying100 (row_specLines) Tryd.underlying149 Tryd.underlying151 rfl rfl Tryd.underlying9 (by kernel_rfl) (by kernel_rfl)
    exact ⟨_, _, by simpa using World.var?_cell (show Tryd.prog.globalNamed "strconv.ErrSyntax" = some 4 by kernel_rfl) hv 0⟩
  · obtain ⟨a, _, hv, _⟩ := laid_sentinel hL.tail.tail.tail.tail (g := 5) (ti := 100) (tp := 149) (te := 151) (ts := 9) (by kernel_rfl) (by kernel_rfl) Tryd.underlying100 (row_specLines) Tryd.underlying149 Tryd.underlying151 rfl rfl Tryd.underlying9 (by kernel_rfl) (by kernel_rfl)
    exact ⟨_, _, by simpa using World.var?_cell (show Tryd.prog.globalNamed "strconv.ErrRange" = some 5 by kernel_rfl) hv 0⟩
  · exact Lib.tabIs_of_head (g := 0) (t := 121) (e := 49) (n := 20) (by kernel_rfl) (by kernel_rfl) Tryd.underlying121 Tryd.underlying49 (by kernel_rfl) (by kernel_rfl) hL.tail.tail

set_option maxRecDepth 100000 in
set_option maxHeartbeats 4000000 in
theorem specLines_lifted (os : Os) (started : os.Started) (H : Type) (enc : TypeId × Value → H) :
    ReturnsInHanded {} Tryd.checked os 5 .any (fun w args => (Rows.specLinesSpec.pre enc Tryd.prog Tryd.f5 Rows.specLinesRow.domain false w args ∧ laidMetH Tryd.prog Rows.specLinesRow.laid w) ∧ sizedMet enc Tryd.prog Tryd.f5 (OpenSpec.ofChange Rows.specLinesSpec) false w args) (Rows.specLinesSpec.post enc Tryd.prog Tryd.f5 false true false false) := by
  refine lift_laid (C := Tryd.checked) own_specLines started (by kernel_rfl) Tryd.func5
    (ChangeSpec.witness_shaped (enc := enc) (C := Tryd.checked) (os := os) (X := fun w _ => laidMetH Tryd.prog Rows.specLinesRow.laid w) false (World.laidAll Tryd.prog os Rows.specLinesRow.laid) #[.agg #[.int .i64 0, .int .i64 0, .int .i64 0, .slice none 0 0]] 8 (World.laidAll_os _ _ _)
      (World.shaped_of_ZipB (by kernel_rfl) (by kernel_rfl)) (by kernel_rfl) (by kernel_rfl) (by kernel_rfl)
      (by rw [MakeChecks.laidMetH_plain _ _ _ (by kernel_rfl)]; exact laidMet_laidAll _ (by kernel_rfl) (by kernel_rfl))) ?_
  intro W base args ds gs before hval0 hW hL hsh
  have hval : ∀ (j : Nat) t v, Tryd.f5.params[j]? = some t → args[j]? = some v → Value.okWide Tryd.prog W .any base t v := hval0
  have hgl : Gl W := gl_specLines hL hsh
  have hW' := hW
  obtain ⟨p, q, hA0, hV, rfl, hfz, hnd⟩ := hW
  have hA : DataW.TrodAll enc Tryd.prog W 0 (fun _ => true) true Tryd.f5.params.toList args.toList ds p := hA0
  rw [Tryd.params5] at hA hval
  obtain ⟨v0, d0, rfl, rfl, h0⟩ := trodAll_one hA
  obtain ⟨rfl, rfl⟩ := trodVars_none hV
  obtain ⟨T0, lv0, vs0, rfl, hlv0, hls0, hmb0, hvl0⟩ := open_table Tryd.underlying24 (by kernel_rfl) (by kernel_rfl) Tryd.underlying3 Tryd.underlying3 Tryd.underlying3 Tryd.underlying22 (by kernel_rfl) Tryd.underlying45 rfl rfl (by kernel_rfl) (by kernel_rfl) Tryd.underlying43 Tryd.underlying3 (by kernel_rfl) Tryd.underlying42 rfl rfl (by kernel_rfl) (by kernel_rfl) Tryd.underlying5 Tryd.underlying5 (hval 0 24 v0 rfl rfl) h0
  refine (C_drawknifelaw04_SpecLines T0 lv0 vs0 W hgl hlv0 hls0 hmb0 hvl0).out.mono fun e W' ⟨v, he, hE, hv⟩ => ?_
  subst he
  subst hv
  exact ⟨_, rfl, post_law laidOut_specLines hW' rfl hE (by kernel_rfl) rfl Tryd.underlying4 rfl rfl rfl⟩

theorem specLines_row : Rows.SpecLinesSaid :=
  OpenClaim.holds_of_wide 5 Tryd.f5 rfl rfl rfl rfl rfl rfl rfl ⟨rfl, rfl, rfl, rfl, rfl⟩ rfl rfl rfl rfl rfl (by kernel_rfl) Tryd.func5 specLines_closed
    (of_decide_eq_true (by kernel_rfl)) (by unfold Func.isWrapper; first | (rw [if_pos (by decide +kernel)]; kernel_rfl) | (rw [if_neg (by decide +kernel)]; exact ⟨rfl, rfl⟩))
    (fun os started H enc _ => specLines_lifted os started H enc)

theorem specLines_holds : Rows.SpecLinesCardSaid :=
  Claim7.holds_tied_plain_at .later [] [.data, .data, .data, .data, .sentinel, .sentinel, .pinned] true (true, "6bf0231e66fd678854dd0e9eca5e8b38bf49a1daed0ab5005693165148d214b9") true specLines_row (fun _ h => by cases h) (by kernel_rfl) (fun _ h => by cases h) specLines_row_tie rfl ⟨rfl, rfl⟩ (by kernel_rfl) rfl
    (fun f fn hf hfn => by
      obtain rfl : f = 5 := Option.some.inj ((show Tryd.prog.funcNamed "drawknife/drawknifelaw04.SpecLines" = some 5 by kernel_rfl).symm.trans hf) |>.symm
      obtain rfl : fn = Tryd.f5 := (Option.some.inj (Tryd.func5.symm.trans hfn)).symm
      exact ⟨by kernel_rfl, fun j t ht => by
        rw [Tryd.params5] at ht
        have hm : t ∈ [24] := by simpa using Array.mem_of_getElem? ht
        have hall : ([24].all fun u => !Tryd.prog.wantsStandIn u) = true := by kernel_rfl
        exact (show Tryd.prog.wantsStandIn t = false by simpa using List.all_eq_true.1 hall t hm)⟩)
    (by kernel_rfl)

end Go.Proofs.YtnkaebjaeaecmaaDoor
