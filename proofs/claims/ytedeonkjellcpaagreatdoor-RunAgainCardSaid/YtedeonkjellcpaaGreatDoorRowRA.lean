/- RunAgain holds, as a tied card. No condition but the card's tie. -/
import Derived.Test.YtedeonkjellcpaaGreatDoorCards
import Derived.Test.YtedeonkjellcpaaGreatDoorTie
import Derived.Test.YtedeonkjellcpaaGreatDoorClosedRA
import Derived.Test.YtedeonkjellcpaaGreatDoorWLaw18
import Derived.SevenTiedAt
import Derived.LaidLaws
namespace Go.Proofs.YtedeonkjellcpaaGreatDoor
set_option linter.unusedVariables false
set_option linter.unusedSimpArgs false
open Go.ChangeShapes Go.WideShapes Go.ChangeAt Go.RowKit Go.Joins Go.Deep
abbrev rLd:=Rows.runAgainRow.laid
theorem DF:ownKnob Tryz.prog.godebug=none:=by kernel_rfl
theorem wr:laidOutB Tryz.prog=true:=by kernel_rfl
theorem tn: "*" ++ "errors.errorString" = "*errors.errorString" :=by decide
theorem vu (u:TypeId) (h:Tryz.prog.typeName? 3 u=some "*errors.errorString"):u=345:=
 typeName_ptr_named (nm:= "errors.errorString") (by rw[tn];kernel_rfl) ka (by decide) u (by rw[tn];exact h)
theorem E2 {W:World} (hL0:laidMetH Tryz.prog rLd W) (hsh:W.ShapedOpen Tryz.prog):Gl W:=by
 have hL:laidMet Tryz.prog rLd W:=by
  rw[MakeChecks.laidMetH_plain _ _ _ ka]at hL0
  exact hL0
 refine⟨?_,?_,?_,?_⟩
 ·exact cell_of_shapedOpen_int (zero:= #[.int .i64 0]) (t:=3) hsh (of_decide_eq_true ka) ka rfl ka ka Tryz.underlying3
 ·obtain⟨a,_,hv,_⟩:=laid_sentinel hL.tail.tail.tail.tail.tail (g:=4) (ti:=194) (tp:=345) (te:=347) (ts:=9) ka ka Tryz.underlying194 (vu) Tryz.underlying345 Tryz.underlying347 rfl rfl Tryz.underlying9 ka ka
  exact⟨_,_,by simpa using World.var?_cell (show Tryz.prog.globalNamed "strconv.ErrSyntax" =some 4 by kernel_rfl) hv 0⟩
 ·obtain⟨a,_,hv,_⟩:=laid_sentinel hL.tail.tail.tail.tail (g:=5) (ti:=194) (tp:=345) (te:=347) (ts:=9) ka ka Tryz.underlying194 (vu) Tryz.underlying345 Tryz.underlying347 rfl rfl Tryz.underlying9 ka ka
  exact⟨_,_,by simpa using World.var?_cell (show Tryz.prog.globalNamed "strconv.ErrRange" =some 5 by kernel_rfl) hv 0⟩
 ·exact Lib.tabIs_of_head (g:=1) (t:=303) (e:=38) (n:=20) ka ka Tryz.underlying303 Tryz.underlying38 ka ka hL.tail.tail
set_option maxRecDepth 100000 in
set_option maxHeartbeats 4000000 in
theorem rFd (os:Os) (started:os.Started) (H:Type) (enc:TypeId×Value→H):
  ReturnsInHanded {} Tryz.checked os 8 .any (λw args=>(Rows.runAgainSpec.pre enc Tryz.prog Tryz.f8 Rows.runAgainRow.domain false w args∧laidMetH Tryz.prog rLd w)∧sizedMet enc Tryz.prog Tryz.f8 (OpenSpec.ofChange Rows.runAgainSpec) false w args) (Rows.runAgainSpec.post enc Tryz.prog Tryz.f8 false true false false):=by
 refine Lq (C:=Tryz.checked) DF started ka Tryz.func8
  (ChangeSpec.witness_shaped (enc:=enc) (C:=Tryz.checked) (os:=os) (X:=λw _=>laidMetH Tryz.prog rLd w) false (World.laidAll Tryz.prog os rLd) #[.string ⟨#[]⟩, .agg #[.int .i64 0, .int .i64 0]] 8 (World.laidAll_os _ _ _)
   (World.shaped_of_ZipB ka ka) ka ka ka
   (by rw[MakeChecks.laidMetH_plain _ _ _ ka];exact laidMet_laidAll _ ka ka)) ?_
 intro W base args ds gs before hval0 hW hL hsh
 have hval:∀(j:Nat) t v,Tryz.f8.params[j]? =some t→args[j]? =some v→Value.okWide Tryz.prog W .any base t v:=hval0
 have hgl:Gl W:=E2 hL hsh
 have hW':=hW
 obtain⟨p,q,hA0,hV,rfl,hfz,hnd⟩:=hW
 have hA:DataW.TrodAll enc Tryz.prog W 0 (λ_=>true) true Tryz.f8.params.toList args.toList ds p:=hA0
 rw[Tryz.params8]at hA hval
 obtain⟨v0,v1,d0,d1,p0,p1,rfl,rfl,rfl,h0,h1⟩:=trodAll_two hA
 obtain⟨rfl,rfl⟩:=trodVars_none hV
 obtain⟨s0,rfl,_⟩:=open_str Tryz.underlying9 (hval 0 9 v0 rfl rfl) h0
 obtain⟨ba1,bb1,rfl⟩:=open_pair Tryz.underlying49 ka ka Tryz.underlying3 Tryz.underlying3 (hval 1 49 v1 rfl rfl) h1
 refine(oq s0 ba1 bb1 W hgl).out.mono λe W' ⟨v,he,hE,hv⟩=> ?_
 subst he
 subst hv
 exact⟨_,rfl,MZ wr hW' rfl hE ka rfl Tryz.underlying4 rfl rfl rfl⟩
theorem runAgain_row:Rows.RunAgainSaid:=
 OpenClaim.holds_of_wide 8 Tryz.f8 rfl rfl rfl rfl rfl rfl rfl ⟨rfl,rfl,rfl,rfl,rfl⟩ rfl rfl rfl rfl rfl ka Tryz.func8 xG
  (of_decide_eq_true ka) (by unfold Func.isWrapper;first|(rw[if_pos (by decide+kernel)];kernel_rfl)|(rw[if_neg (by decide+kernel)];exact⟨rfl,rfl⟩))
  (λos started H enc _=>rFd os started H enc)
theorem runAgain_holds:Rows.RunAgainCardSaid:=
 Claim7.holds_tied_plain_at .later [] [.data, .data, .data, .data, .sentinel, .sentinel, .pinned] true (true,"7f95eb87bd35ad633b42839e7e54d7698eb974ddeb8fb75377cb49b957edf18b") true runAgain_row (λ_ h=>by cases h) ka (λ_ h=>by cases h) runAgain_row_tie rfl ⟨rfl,rfl⟩ ka rfl
  (λf fn hf hfn=>by
   obtain rfl:f=8:=aaY ((show Tryz.prog.funcNamed "drawknife/drawknifelaw18.RunAgain" =some 8 by kernel_rfl).symm.trans hf) |>.symm
   obtain rfl:fn=Tryz.f8:=(aaY (Tryz.func8.symm.trans hfn)).symm
   exact⟨by kernel_rfl,λj t ht=>by
    rw[Tryz.params8]at ht
    have hm:t∈[9,49]:=by simpa using Array.mem_of_getElem? ht
    have hall:([9,49].all λu=> !Tryz.prog.wantsStandIn u)=true:=by kernel_rfl
    exact(show Tryz.prog.wantsStandIn t=false by simpa using aa2.1 hall t hm)⟩)
  ka
end Go.Proofs.YtedeonkjellcpaaGreatDoor
