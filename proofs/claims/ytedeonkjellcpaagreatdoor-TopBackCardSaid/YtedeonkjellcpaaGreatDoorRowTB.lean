/- TopBack holds, as a tied card: for all its arguments the law answers true, and they read as they did.
  No condition but that the listed variables of Go's library hold what the program's text lays (the card's tie). -/
import Derived.Test.YtedeonkjellcpaaGreatDoorCards
import Derived.Test.YtedeonkjellcpaaGreatDoorTie
import Derived.Test.YtedeonkjellcpaaGreatDoorClosedTB
import Derived.Test.YtedeonkjellcpaaGreatDoorWTop
import Derived.SevenTiedAt
import Derived.LaidLaws
namespace Go.Proofs.YtedeonkjellcpaaGreatDoor
set_option linter.unusedVariables false
set_option linter.unusedSimpArgs false
open Go.ChangeShapes Go.WideShapes Go.ChangeAt Go.RowKit Go.Joins Go.Deep
theorem Ec:ownKnob Tryz.prog.godebug=none:=by kernel_rfl
theorem wT:laidOutB Tryz.prog=true:=by kernel_rfl
theorem uF: "*" ++ "errors.errorString" = "*errors.errorString" :=by decide
theorem wj (u:TypeId) (h:Tryz.prog.typeName? 3 u=some "*errors.errorString"):u=345:=
 typeName_ptr_named (nm:= "errors.errorString") (by rw[uF];kernel_rfl) (by kernel_rfl) (by decide) u (by rw[uF];exact h)
theorem He {W:World} (hL0:laidMetH Tryz.prog Rows.topBackRow.laid W) (hsh:W.ShapedOpen Tryz.prog):Gl W:=by
 have hL:laidMet Tryz.prog Rows.topBackRow.laid W:=by
  rw[MakeChecks.laidMetH_plain _ _ _ (by kernel_rfl)]at hL0
  exact hL0
 refine⟨?_,?_,?_,?_⟩
 ·exact cell_of_shapedOpen_int (zero:= #[.int .i64 0]) (t:=3) hsh (of_decide_eq_true (by kernel_rfl)) (by kernel_rfl) rfl (by kernel_rfl) (by kernel_rfl) Tryz.underlying3
 ·obtain⟨a,_,hv,_⟩:=laid_sentinel hL.tail.tail.tail.tail.tail (g:=4) (ti:=194) (tp:=345) (te:=347) (ts:=9) (by kernel_rfl) (by kernel_rfl) Tryz.underlying194 (wj) Tryz.underlying345 Tryz.underlying347 rfl rfl Tryz.underlying9 (by kernel_rfl) (by kernel_rfl)
  exact⟨_,_,by simpa using World.var?_cell (show Tryz.prog.globalNamed "strconv.ErrSyntax" =some 4 by kernel_rfl) hv 0⟩
 ·obtain⟨a,_,hv,_⟩:=laid_sentinel hL.tail.tail.tail.tail (g:=5) (ti:=194) (tp:=345) (te:=347) (ts:=9) (by kernel_rfl) (by kernel_rfl) Tryz.underlying194 (wj) Tryz.underlying345 Tryz.underlying347 rfl rfl Tryz.underlying9 (by kernel_rfl) (by kernel_rfl)
  exact⟨_,_,by simpa using World.var?_cell (show Tryz.prog.globalNamed "strconv.ErrRange" =some 5 by kernel_rfl) hv 0⟩
 ·exact Lib.tabIs_of_head (g:=1) (t:=303) (e:=38) (n:=20) (by kernel_rfl) (by kernel_rfl) Tryz.underlying303 Tryz.underlying38 (by kernel_rfl) (by kernel_rfl) hL.tail.tail
set_option maxRecDepth 100000 in
set_option maxHeartbeats 4000000 in
theorem topBack_lifted (os:Os) (started:os.Started) (H:Type) (enc:TypeId×Value→H):
  ReturnsInHanded {} Tryz.checked os 3 .any (λw args=>(Rows.topBackSpec.pre enc Tryz.prog Tryz.f3 Rows.topBackRow.domain false w args∧laidMetH Tryz.prog Rows.topBackRow.laid w)∧sizedMet enc Tryz.prog Tryz.f3 (OpenSpec.ofChange Rows.topBackSpec) false w args) (Rows.topBackSpec.post enc Tryz.prog Tryz.f3 false true false false):=by
 refine KA (C:=Tryz.checked) Ec started (by kernel_rfl) Tryz.func3
  (ChangeSpec.witness_shaped (enc:=enc) (C:=Tryz.checked) (os:=os) (X:=λw _=>laidMetH Tryz.prog Rows.topBackRow.laid w) false (World.laidAll Tryz.prog os Rows.topBackRow.laid) #[.agg #[.int .i64 0, .int .i64 0, .int .i64 0, .slice none 0 0], .int .u8 0, .int .u8 0] 8 (World.laidAll_os _ _ _)
   (World.shaped_of_ZipB (by kernel_rfl) (by kernel_rfl)) (by kernel_rfl) (by kernel_rfl) (by kernel_rfl)
   (by rw[MakeChecks.laidMetH_plain _ _ _ (by kernel_rfl)];exact laidMet_laidAll _ (by kernel_rfl) (by kernel_rfl))) ?_
 intro W base args ds gs before hval0 hW hL hsh
 have hval:∀(j:Nat) t v,Tryz.f3.params[j]? =some t→args[j]? =some v→Value.okWide Tryz.prog W .any base t v:=hval0
 have hgl:Gl W:=He hL hsh
 have hW':=hW
 obtain⟨p,q,hA0,hV,rfl,hfz,hnd⟩:=hW
 have hA:DataW.TrodAll enc Tryz.prog W 0 (λ_=>true) true Tryz.f3.params.toList args.toList ds p:=hA0
 rw[Tryz.params3]at hA hval
 obtain⟨v0,v1,v2,d0,d1,d2,p0,p1,p2,rfl,rfl,rfl,h0,h1,h2⟩:=trodAll_three hA
 obtain⟨rfl,rfl⟩:=trodVars_none hV
 obtain⟨T0,fL,vs0,rfl,hlv0,hls0,hmb0,hvl0⟩:=open_table Tryz.underlying24 (by kernel_rfl) (by kernel_rfl) Tryz.underlying3 Tryz.underlying3 Tryz.underlying3 Tryz.underlying22 (by kernel_rfl) Tryz.underlying37 rfl rfl (by kernel_rfl) (by kernel_rfl) Tryz.underlying35 Tryz.underlying3 (by kernel_rfl) Tryz.underlying34 rfl rfl (by kernel_rfl) (by kernel_rfl) Tryz.underlying5 Tryz.underlying5 (hval 0 24 v0 rfl rfl) h0
 obtain⟨z1,rfl,_,_,hz1⟩:=open_int Tryz.underlying5 (hval 1 5 v1 rfl rfl) h1
 obtain⟨q1,rfl,hq1⟩:=IP hz1
 obtain⟨z2,rfl,_,_,hz2⟩:=open_int Tryz.underlying5 (hval 2 5 v2 rfl rfl) h2
 obtain⟨q2,rfl,hq2⟩:=IP hz2
 refine(pH T0 fL vs0 q1 q2 W hgl hlv0 hls0 hmb0 hq1 hq2 hvl0).out.mono λe W' ⟨v,he,hE,hv⟩=> ?_
 subst he
 subst hv
 exact⟨_,rfl,Ns wT hW' rfl hE (by kernel_rfl) rfl Tryz.underlying4 rfl rfl rfl⟩
theorem topBack_row:Rows.TopBackSaid:=
 OpenClaim.holds_of_wide 3 Tryz.f3 rfl rfl rfl rfl rfl rfl rfl ⟨rfl,rfl,rfl,rfl,rfl⟩ rfl rfl rfl rfl rfl (by kernel_rfl) Tryz.func3 y5
  (of_decide_eq_true (by kernel_rfl)) (by unfold Func.isWrapper;first|(rw[if_pos (by decide+kernel)];kernel_rfl)|(rw[if_neg (by decide+kernel)];exact⟨rfl,rfl⟩))
  (λos started H enc _=>topBack_lifted os started H enc)
theorem topBack_holds:Rows.TopBackCardSaid:=
 Claim7.holds_tied_plain_at .later [] [.data, .data, .data, .data, .sentinel, .sentinel, .pinned] true (true,"7f95eb87bd35ad633b42839e7e54d7698eb974ddeb8fb75377cb49b957edf18b") true topBack_row (λ_ h=>by cases h) (by kernel_rfl) (λ_ h=>by cases h) topBack_row_tie rfl ⟨rfl,rfl⟩ (by kernel_rfl) rfl
  (λf fn hf hfn=>by
   obtain rfl:f=3:=Z9 ((show Tryz.prog.funcNamed "drawknife/drawknifetop.TopBack" =some 3 by kernel_rfl).symm.trans hf) |>.symm
   obtain rfl:fn=Tryz.f3:=(Z9 (Tryz.func3.symm.trans hfn)).symm
   exact⟨by kernel_rfl,λj t ht=>by
    rw[Tryz.params3]at ht
    have hm:t∈[24,5,5]:=by simpa using Array.mem_of_getElem? ht
    have hall:([24,5,5].all λu=> !Tryz.prog.wantsStandIn u)=true:=by kernel_rfl
    exact(show Tryz.prog.wantsStandIn t=false by simpa using aaj.1 hall t hm)⟩)
  (by kernel_rfl)
end Go.Proofs.YtedeonkjellcpaaGreatDoor
