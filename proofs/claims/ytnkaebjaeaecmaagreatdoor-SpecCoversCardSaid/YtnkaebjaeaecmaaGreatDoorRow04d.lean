/-
  SpecCovers holds, as a tied card: for all its arguments the law answers true, and they read as they did.
  No condition but that the listed variables of Go's library hold what the program's text lays (the card's tie).
-/
import Derived.Test.YtnkaebjaeaecmaaGreatDoorRows
import Derived.Test.YtnkaebjaeaecmaaGreatDoorCards
import Derived.Test.YtnkaebjaeaecmaaGreatDoorTie
import Derived.Test.YtnkaebjaeaecmaaGreatDoorLiftT
import Derived.Test.YtnkaebjaeaecmaaGreatDoorLift2
import Derived.Test.YtnkaebjaeaecmaaGreatDoorClosed04d
import Derived.Test.YtnkaebjaeaecmaaGreatDoorWLaw04z
import Derived.SevenTiedAt
import Derived.LaidLaws
namespace Go.Proofs.YtnkaebjaeaecmaaGreatDoor
set_option linter.unusedVariables false
set_option linter.unusedSimpArgs false
open Go.ChangeShapes Go.WideShapes Go.ChangeAt Go.RowKit Go.Joins Go.Deep

theorem own_specCovers : ownKnob Tryz.prog.godebug = none := by kernel_rfl
theorem laidOut_specCovers : laidOutB Tryz.prog = true := by kernel_rfl
theorem star_specCovers : "*" ++ "errors.errorString" = "*errors.errorString" := by decide
theorem row_specCovers (u : TypeId) (h : Tryz.prog.typeName? 3 u = some "*errors.errorString") : u = 145 :=
  typeName_ptr_named (nm := "errors.errorString") (by rw [star_specCovers]; kernel_rfl) (by kernel_rfl) (by decide) u (by rw [star_specCovers]; exact h)

/-- What the library's functions read of its own variables, out of the row's condition and the world's shape. -/
theorem gl_specCovers {W : World} (hL0 : laidMetH Tryz.prog Rows.specCoversRow.laid W) (hsh : W.ShapedOpen Tryz.prog) : Gl W := by
  have hL : laidMet Tryz.prog Rows.specCoversRow.laid W := by
    rw [MakeChecks.laidMetH_plain _ _ _ (by kernel_rfl)] at hL0
    exact hL0
  refine ⟨?_, ?_, ?_, ?_⟩
  · exact cell_of_shapedOpen_int (zero := #[.int .i64 0]) (t := 3) hsh (of_decide_eq_true (by kernel_rfl)) (by kernel_rfl) rfl (by kernel_rfl) (by kernel_rfl) Tryz.underlying3
  · obtain ⟨a, _, hv, _⟩ := laid_sentinel hL.tail.tail.tail.tail.tail (g := 3) (ti := 102) (tp := 145) (te := 147) (ts := 9) (by kernel_rfl) (by kernel_rfl) Tryz.underlying102 (row_specCovers) Tryz.underlying145 Tryz.underlying147 rfl rfl Tryz.underlying9 (by kernel_rfl) (by kernel_rfl)
    exact ⟨_, _, by simpa using World.var?_cell (show Tryz.prog.globalNamed "strconv.ErrSyntax" = some 3 by kernel_rfl) hv 0⟩
  · obtain ⟨a, _, hv, _⟩ := laid_sentinel hL.tail.tail.tail.tail (g := 4) (ti := 102) (tp := 145) (te := 147) (ts := 9) (by kernel_rfl) (by kernel_rfl) Tryz.underlying102 (row_specCovers) Tryz.underlying145 Tryz.underlying147 rfl rfl Tryz.underlying9 (by kernel_rfl) (by kernel_rfl)
    exact ⟨_, _, by simpa using World.var?_cell (show Tryz.prog.globalNamed "strconv.ErrRange" = some 4 by kernel_rfl) hv 0⟩
  · exact Lib.tabIs_of_head (g := 5) (t := 149) (e := 49) (n := 20) (by kernel_rfl) (by kernel_rfl) Tryz.underlying149 Tryz.underlying49 (by kernel_rfl) (by kernel_rfl) hL.tail.tail

set_option maxRecDepth 100000 in
set_option maxHeartbeats 4000000 in
theorem specCovers_lifted (os : Os) (started : os.Started) (H : Type) (enc : TypeId × Value → H) :
    ReturnsInHanded {} Tryz.checked os 4 .any (fun w args => (Rows.specCoversSpec.pre enc Tryz.prog Tryz.f4 Rows.specCoversRow.domain false w args ∧ laidMetH Tryz.prog Rows.specCoversRow.laid w) ∧ sizedMet enc Tryz.prog Tryz.f4 (OpenSpec.ofChange Rows.specCoversSpec) false w args) (Rows.specCoversSpec.post enc Tryz.prog Tryz.f4 false true false false) := by
  refine lift_laid (C := Tryz.checked) own_specCovers started (by kernel_rfl) Tryz.func4
    (ChangeSpec.witness_shaped (enc := enc) (C := Tryz.checked) (os := os) (X := fun w _ => laidMetH Tryz.prog Rows.specCoversRow.laid w) false (World.laidAll Tryz.prog os Rows.specCoversRow.laid) #[.agg #[.int .i64 0, .slice none 0 0, .slice none 0 0], .agg #[.int .i64 0, .slice none 0 0, .slice none 0 0], .slice none 0 0] 8 (World.laidAll_os _ _ _)
      (World.shaped_of_ZipB (by kernel_rfl) (by kernel_rfl)) (by kernel_rfl) (by kernel_rfl) (by kernel_rfl)
      (by rw [MakeChecks.laidMetH_plain _ _ _ (by kernel_rfl)]; exact laidMet_laidAll _ (by kernel_rfl) (by kernel_rfl))) ?_
  intro W base args ds gs before hval0 hW hL hsh
  have hval : ∀ (j : Nat) t v, Tryz.f4.params[j]? = some t → args[j]? = some v → Value.okWide Tryz.prog W .any base t v := hval0
  have hgl : Gl W := gl_specCovers hL hsh
  have hW' := hW
  obtain ⟨p, q, hA0, hV, rfl, hfz, hnd⟩ := hW
  have hA : DataW.TrodAll enc Tryz.prog W 0 (fun _ => true) true Tryz.f4.params.toList args.toList ds p := hA0
  rw [Tryz.params4] at hA hval
  obtain ⟨v0, v1, v2, d0, d1, d2, p0, p1, p2, rfl, rfl, rfl, h0, h1, h2⟩ := trodAll_three hA
  obtain ⟨rfl, rfl⟩ := trodVars_none hV
  obtain ⟨S0, on0, may0, rfl, hon0, hmay0, hn0, hso0, hsm0⟩ := open_spec Tryz.underlying29 (by kernel_rfl) (by kernel_rfl) Tryz.underlying3 Tryz.underlying27 Tryz.underlying27 (by kernel_rfl) Tryz.underlying51 Tryz.underlying49 (by kernel_rfl) (hval 0 29 v0 rfl rfl) h0
  obtain ⟨S1, on1, may1, rfl, hon1, hmay1, hn1, hso1, hsm1⟩ := open_spec Tryz.underlying29 (by kernel_rfl) (by kernel_rfl) Tryz.underlying3 Tryz.underlying27 Tryz.underlying27 (by kernel_rfl) Tryz.underlying51 Tryz.underlying49 (by kernel_rfl) (hval 1 29 v1 rfl rfl) h1
  obtain ⟨fuel2, hf2⟩ := h2
  obtain ⟨a2, l2, cc2, hva2⟩ := okWide_slice Tryz.underlying37 (hval 2 37 v2 rfl rfl)
  obtain ⟨L2, hL2, hq2⟩ := open_sl Tryz.underlying37 (by kernel_rfl) (by decide) encR_len (fun n cs y hl hh => el_row Tryz.underlying48 rfl rfl (by kernel_rfl) (by kernel_rfl) Tryz.underlying5 Tryz.underlying41 rfl rfl (by kernel_rfl) (by kernel_rfl) Tryz.underlying5 Tryz.underlying5 hl hh) (show DataW.trod _ _ _ _ _ _ _ _ [v2] = some _ by subst hva2; exact hf2)
  refine (C_drawknifelaw04_SpecCovers S0 on0 may0 S1 on1 may1 v2 L2 W hgl hon0 hmay0 hon1 hmay1 hL2 hq2).out.mono fun e W' ⟨v, he, hE, hv⟩ => ?_
  subst he
  subst hv
  exact ⟨_, rfl, post_law laidOut_specCovers hW' rfl hE (by kernel_rfl) rfl Tryz.underlying4 rfl rfl rfl⟩

theorem specCovers_row : Rows.SpecCoversSaid :=
  OpenClaim.holds_of_wide 4 Tryz.f4 rfl rfl rfl rfl rfl rfl rfl ⟨rfl, rfl, rfl, rfl, rfl⟩ rfl rfl rfl rfl rfl (by kernel_rfl) Tryz.func4 specCovers_closed
    (of_decide_eq_true (by kernel_rfl)) (by unfold Func.isWrapper; first | (rw [if_pos (by decide +kernel)]; kernel_rfl) | (rw [if_neg (by decide +kernel)]; exact ⟨rfl, rfl⟩))
    (fun os started H enc _ => specCovers_lifted os started H enc)

theorem specCovers_holds : Rows.SpecCoversCardSaid :=
  Claim7.holds_tied_plain_at .later [] [.data, .data, .data, .data, .sentinel, .sentinel, .pinned] true (true, "c8d1fc3e35849f74423a17d1fbbade7b8e975f38cce91820ba9c897b48ea7266") true specCovers_row (fun _ h => by cases h) (by kernel_rfl) (fun _ h => by cases h) specCovers_row_tie rfl ⟨rfl, rfl⟩ (by kernel_rfl) rfl
    (fun f fn hf hfn => by
      obtain rfl : f = 4 := Option.some.inj ((show Tryz.prog.funcNamed "drawknife/drawknifelaw04.SpecCovers" = some 4 by kernel_rfl).symm.trans hf) |>.symm
      obtain rfl : fn = Tryz.f4 := (Option.some.inj (Tryz.func4.symm.trans hfn)).symm
      exact ⟨by kernel_rfl, fun j t ht => by
        rw [Tryz.params4] at ht
        have hm : t ∈ [29, 29, 37] := by simpa using Array.mem_of_getElem? ht
        have hall : ([29, 29, 37].all fun u => !Tryz.prog.wantsStandIn u) = true := by kernel_rfl
        exact (show Tryz.prog.wantsStandIn t = false by simpa using List.all_eq_true.1 hall t hm)⟩)
    (by kernel_rfl)

end Go.Proofs.YtnkaebjaeaecmaaGreatDoor
