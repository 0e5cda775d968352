/- TopTwice holds, as a tied card: for all its arguments the law answers true, and they read as they did.
  No condition but that the listed variables of Go's library hold what the program's text lays (the card's tie). -/
import Derived.Test.YtedeonkjellcpaaGreatDoorCards
import Derived.Test.YtedeonkjellcpaaGreatDoorTie
import Derived.Test.YtedeonkjellcpaaGreatDoorClosedTT
import Derived.Test.YtedeonkjellcpaaGreatDoorWTop2
import Derived.SevenTiedAt
import Derived.LaidLaws
namespace Go.Proofs.YtedeonkjellcpaaGreatDoor
set_option linter.unusedVariables false
set_option linter.unusedSimpArgs false
open Go.ChangeShapes Go.WideShapes Go.ChangeAt Go.RowKit Go.Joins Go.Deep
theorem D0:ownKnob Tryz.prog.godebug=none:=by kernel_rfl
theorem w9:laidOutB Tryz.prog=true:=by kernel_rfl
theorem tP: "*" ++ "errors.errorString" = "*errors.errorString" :=by decide
theorem uM (u:TypeId) (h:Tryz.prog.typeName? 3 u=some "*errors.errorString"):u=345:=
 typeName_ptr_named (nm:= "errors.errorString") (by rw[tP];kernel_rfl) (by kernel_rfl) (by decide) u (by rw[tP];exact h)
theorem Hc {W:World} (hL0:laidMetH Tryz.prog Rows.topTwiceRow.laid W) (hsh:W.ShapedOpen Tryz.prog):Gl W:=by
 have hL:laidMet Tryz.prog Rows.topTwiceRow.laid W:=by
  rw[MakeChecks.laidMetH_plain _ _ _ (by kernel_rfl)]at hL0
  exact hL0
 refine⟨?_,?_,?_,?_⟩
 ·exact cell_of_shapedOpen_int (zero:= #[.int .i64 0]) (t:=3) hsh (of_decide_eq_true (by kernel_rfl)) (by kernel_rfl) rfl (by kernel_rfl) (by kernel_rfl) Tryz.underlying3
 ·obtain⟨a,_,hv,_⟩:=laid_sentinel hL.tail.tail.tail.tail.tail (g:=4) (ti:=194) (tp:=345) (te:=347) (ts:=9) (by kernel_rfl) (by kernel_rfl) Tryz.underlying194 (uM) Tryz.underlying345 Tryz.underlying347 rfl rfl Tryz.underlying9 (by kernel_rfl) (by kernel_rfl)
  exact⟨_,_,by simpa using World.var?_cell (show Tryz.prog.globalNamed "strconv.ErrSyntax" =some 4 by kernel_rfl) hv 0⟩
 ·obtain⟨a,_,hv,_⟩:=laid_sentinel hL.tail.tail.tail.tail (g:=5) (ti:=194) (tp:=345) (te:=347) (ts:=9) (by kernel_rfl) (by kernel_rfl) Tryz.underlying194 (uM) Tryz.underlying345 Tryz.underlying347 rfl rfl Tryz.underlying9 (by kernel_rfl) (by kernel_rfl)
  exact⟨_,_,by simpa using World.var?_cell (show Tryz.prog.globalNamed "strconv.ErrRange" =some 5 by kernel_rfl) hv 0⟩
 ·exact Lib.tabIs_of_head (g:=1) (t:=303) (e:=38) (n:=20) (by kernel_rfl) (by kernel_rfl) Tryz.underlying303 Tryz.underlying38 (by kernel_rfl) (by kernel_rfl) hL.tail.tail
set_option maxRecDepth 100000 in
set_option maxHeartbeats 4000000 in
theorem topTwice_lifted (os:Os) (started:os.Started) (H:Type) (enc:TypeId×Value→H):
  ReturnsInHanded {} Tryz.checked os 4 .any (λw args=>(Rows.topTwiceSpec.pre enc Tryz.prog Tryz.f4 Rows.topTwiceRow.domain false w args∧laidMetH Tryz.prog Rows.topTwiceRow.laid w)∧sizedMet enc Tryz.prog Tryz.f4 (OpenSpec.ofChange Rows.topTwiceSpec) false w args) (Rows.topTwiceSpec.post enc Tryz.prog Tryz.f4 false true false false):=by
 refine LF (C:=Tryz.checked) D0 started (by kernel_rfl) Tryz.func4
  (ChangeSpec.witness_shaped (enc:=enc) (C:=Tryz.checked) (os:=os) (X:=λw _=>laidMetH Tryz.prog Rows.topTwiceRow.laid w) false (World.laidAll Tryz.prog os Rows.topTwiceRow.laid) #[.string ⟨#[]⟩, .agg #[.int .i64 0, .int .i64 0], .agg #[.int .i64 0, .int .i64 0]] 8 (World.laidAll_os _ _ _)
   (World.shaped_of_ZipB (by kernel_rfl) (by kernel_rfl)) (by kernel_rfl) (by kernel_rfl) (by kernel_rfl)
   (by rw[MakeChecks.laidMetH_plain _ _ _ (by kernel_rfl)];exact laidMet_laidAll _ (by kernel_rfl) (by kernel_rfl))) ?_
 intro W base args ds gs before hval0 hW hL hsh
 have hval:∀(j:Nat) t v,Tryz.f4.params[j]? =some t→args[j]? =some v→Value.okWide Tryz.prog W .any base t v:=hval0
 have hgl:Gl W:=Hc hL hsh
 have hW':=hW
 obtain⟨p,q,hA0,hV,rfl,hfz,hnd⟩:=hW
 have hA:DataW.TrodAll enc Tryz.prog W 0 (λ_=>true) true Tryz.f4.params.toList args.toList ds p:=hA0
 rw[Tryz.params4]at hA hval
 obtain⟨v0,v1,v2,d0,d1,d2,p0,p1,p2,rfl,rfl,rfl,h0,h1,h2⟩:=trodAll_three hA
 obtain⟨rfl,rfl⟩:=trodVars_none hV
 obtain⟨s0,rfl,_⟩:=open_str Tryz.underlying9 (hval 0 9 v0 rfl rfl) h0
 obtain⟨ba1,bb1,rfl⟩:=open_pair Tryz.underlying49 (by kernel_rfl) (by kernel_rfl) Tryz.underlying3 Tryz.underlying3 (hval 1 49 v1 rfl rfl) h1
 obtain⟨ba2,bb2,rfl⟩:=open_pair Tryz.underlying49 (by kernel_rfl) (by kernel_rfl) Tryz.underlying3 Tryz.underlying3 (hval 2 49 v2 rfl rfl) h2
 refine(pJ s0 ba1 bb1 ba2 bb2 W hgl).out.mono λe W' ⟨v,he,hE,hv⟩=> ?_
 subst he
 subst hv
 exact⟨_,rfl,O1 w9 hW' rfl hE (by kernel_rfl) rfl Tryz.underlying4 rfl rfl rfl⟩
theorem topTwice_row:Rows.TopTwiceSaid:=
 OpenClaim.holds_of_wide 4 Tryz.f4 rfl rfl rfl rfl rfl rfl rfl ⟨rfl,rfl,rfl,rfl,rfl⟩ rfl rfl rfl rfl rfl (by kernel_rfl) Tryz.func4 ye
  (of_decide_eq_true (by kernel_rfl)) (by unfold Func.isWrapper;first|(rw[if_pos (by decide+kernel)];kernel_rfl)|(rw[if_neg (by decide+kernel)];exact⟨rfl,rfl⟩))
  (λos started H enc _=>topTwice_lifted os started H enc)
theorem topTwice_holds:Rows.TopTwiceCardSaid:=
 Claim7.holds_tied_plain_at .later [] [.data, .data, .data, .data, .sentinel, .sentinel, .pinned] true (true,"7f95eb87bd35ad633b42839e7e54d7698eb974ddeb8fb75377cb49b957edf18b") true topTwice_row (λ_ h=>by cases h) (by kernel_rfl) (λ_ h=>by cases h) topTwice_row_tie rfl ⟨rfl,rfl⟩ (by kernel_rfl) rfl
  (λf fn hf hfn=>by
   obtain rfl:f=4:=aaK ((show Tryz.prog.funcNamed "drawknife/drawknifetop.TopTwice" =some 4 by kernel_rfl).symm.trans hf) |>.symm
   obtain rfl:fn=Tryz.f4:=(aaK (Tryz.func4.symm.trans hfn)).symm
   exact⟨by kernel_rfl,λj t ht=>by
    rw[Tryz.params4]at ht
    have hm:t∈[9,49,49]:=by simpa using Array.mem_of_getElem? ht
    have hall:([9,49,49].all λu=> !Tryz.prog.wantsStandIn u)=true:=by kernel_rfl
    exact(show Tryz.prog.wantsStandIn t=false by simpa using aa1.1 hall t hm)⟩)
  (by kernel_rfl)
end Go.Proofs.YtedeonkjellcpaaGreatDoor
