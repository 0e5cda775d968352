/- The walk of plain rows. The walks of package minim. What a step on a job leaves as it was; five closures. No program in it. The steps of package run, each by itself; the way through them. What a text comes to, when it is run. No program in it. -/
import Derived.Test.YtedeonkjellcpaaGreatDoorWRef12
namespace Go.Proofs.YtedeonkjellcpaaGreatDoor
set_option linter.unusedVariables false
set_option linter.unusedSimpArgs false
section
open Go Go.RowKit
theorem SW:cX Tryz.prog 149=true:=by kernel_rfl
theorem I9:cX Tryz.prog 150=true:=by kernel_rfl
theorem vH:m3 Tryz.prog 211=some (158,4):=by kernel_rfl
theorem NX {f:Nat→Value} {w:World} {d:Option Nat} {ty t2:TypeId} {ps:String} {af:Array Edge} {g:Option (Nat×Bool)} {x y:Operand} {a0 a1 a2 b0 b1 b2:Int} (hx:dk f x= .agg #[.int .u8 a0, .int .u8 a1, .int .u8 a2]) (hy:dk f y= .agg #[.int .u8 b0, .int .u8 b1, .int .u8 b2]):
    (execOp (dk f) ⟨d, .binOp .eql 158 x y t2,ty,ps,af,g⟩).run Tryz.prog w= .ok (.value (.bool (decide ((a0=b0∧a1=b1∧a2=b2))))) w:=by
  have hg:Tryz.prog.eqGuardType Tryz.prog.depth 158=false:=by kernel_rfl
  have hp158:Tryz.prog.stoodInHeld 158=false:=by kernel_rfl
  have hu158:Tryz.prog.underlying 158=some (.struct (Tryz.prog.fieldsOf 158)):=by kernel_rfl
  have hp34:Tryz.prog.stoodInHeld 34=false:=by kernel_rfl
  have hu34:Tryz.prog.underlying 34=some (.struct (Tryz.prog.fieldsOf 34)):=by kernel_rfl
  obtain⟨j34,hj34,hs34⟩:=an.1 (show (Tryz.prog.info? 34).map (·.size)=some 2 by kernel_rfl)
  simp only[execOp,hx,hy,Sem.run_bind,run_eqGuard_agg _ _ _ _ _ _ _ hg,Result.andThen_ok,run_eql_struct,run_equalIn_agg _ 9999 158 _ _ hu158 hp158]
  simp only[Program.fieldsOf,Tryz.underlying158]
  simp[Op.eqFields,part,isAgg,run_equalIn_int _ 9998 5 _ _ _ _ Tryz.underlying5,run_underlying Tryz.underlying5,run_equalIn_agg _ 9998 34 _ _ hu34 hp34,Program.fieldsOf,Tryz.underlying34,run_equalIn_int _ 9997 5 _ _ _ _ Tryz.underlying5,sizeOf,typeInfo,hj34,hs34,run_underlying Tryz.underlying34]
  by_cases q0:a0=b0<;>by_cases q1:a1=b1<;>by_cases q2:a2=b2<;>simp[q0,q1,q2]
theorem sG:qJ Tryz.prog 158 (λv=>∃a:Rw,v=s9 a):=by
  refine pz Tryz.underlying158 ?_ ?_ ?_ ?_
  · rintro w _ _ ⟨a,rfl⟩ ⟨c,rfl⟩
    have hg:Tryz.prog.eqGuardType Tryz.prog.depth 158=false:=by kernel_rfl
    exact⟨_,sQ hg (NX rfl rfl),by rw[decide_eq_true_eq];constructor<;>intro h<;>simpa [s9] using h⟩
  · rintro _ _ ⟨a,rfl⟩ ⟨c,rfl⟩
    exact .inl rfl
  · rintro w em _ ⟨a,rfl⟩
    have h2:∀k,(Instr.checkKey em (k+1+1+1) 158 (s9 a)).run Tryz.prog w= .ok () w:=λk=>by
      simp[s9,Instr.checkKey,part,isAgg,run_underlying Tryz.underlying158,run_underlying Tryz.underlying34,run_underlying Tryz.underlying5]
    exact h2 9997
  · rintro _ ⟨a,rfl⟩
    simp[s9,Instr.sameBits]
theorem Dl (S:Sp) (onV mayV:Value) (w:World) (hon:dp fh 4 w onV S.on) (hmay:dp fh 4 w mayV S.may):
    Fn Tryz.prog 103 #[.agg #[.int .i64 S.n,onV,mayV]] w λv w'=>if dt S=true then ∃x,v= .tuple #[x, .int .i64 0]∧cH gx 3 158 w' w.heap.size x (mX S)else v= .tuple #[.slice none 0 0, .int .i64 1]:=by
 refine cM (n:=66) Tryz.func103 rfl rfl rfl λhB=> ?_
 refine Zr<|Zy (dw (c:= #[_,_,_]) rfl rfl λZ W3 aM ad f=> ?_)
 replace hB:=Ze hB ad
 refine Zw (.slice none 0 0) rfl<|ZZ rfl<|Zq<|Zr<|Zv (cz rfl ee rfl f)<|ZC (vs:=[.agg #[_,_,_]]) oC (iP S _ _ _ (Below.slT hB hon) (Below.slT hB hmay)) rfl λaN aO ae af=> ?_
 obtain⟨hB,f⟩:=ae.k2 hB f
 obtain rfl:=af
 refine Zv (eR rfl)<|ct<|ZQ rfl (λL=> ?_) λL=> ?_
 refine Zr<|Zw (.slice none 0 0) rfl<|ZZ rfl<|Zt<|dG (v:= .slice none 0 0) rfl (v1:= .int .i64 1) rfl ⟨hB,?_⟩
 rw[if_neg (by rw[show dt S=false from kZ L];decide)]
 refine cx ?_
 have hr:dt S=true:=mN L
 obtain⟨h0,h8,h1,h4,h5,hin⟩:=dz.1 hr
 refine Zr<|Zy (g7 (enc:=s9) (encV:=Value.bool) λt aP ag ah d=> ?_)
 have aa:=ZO ag hB
 obtain⟨hB,f⟩:=ah.k2 hB f
 replace d:dy s9 Value.bool _ _ (fz []):=d
 refine Zw (.map (some t)) rfl<|ct<|Zr<|Zw (.slice none 0 0) rfl<|ct<|Zq<|Zr<|Zf rfl gW<|ZL onV rfl eY f rfl<|Zv (de (v:=onV) rfl (Below.slT hB hon) ey)<|ZZ rfl<|cy ?_
 refine cY (σ:=(Nat)×(Value)) [5,9,11,13,21,64] (λ(o,v0)=>[(21, .int .i64 (o:Int)),(5,v0)]) (λsg W=>match sg with|(o,v0)=>(Below w.heap.size w W)∧(At W Z _ 59)∧(dy s9 Value.bool W t (fz (G9 S o)))∧(cH gx 3 158 W w.heap.size v0 (G9 S o))∧(o≤S.on.length)∧(True)) (λ(o,v0)=>S.on.length-o) ((0, .slice none 0 0)) ⟨rfl,rfl,trivial⟩ ⟨hB,f,d,cH.nil,(my _),trivial⟩ ?_
 rintro⟨o,v0⟩ aQ aR ⟨hB,f,d,ho,hoo,_⟩ aS ai
 refine Zr<|Zv (dq rfl rfl)<|ct<|Zq<|ZQ rfl (λaj=> ?_) λaj=> ?_
 refine cx<|Zq<|cy ?_
 have D:o<S.on.length:=by omega
 have h7:=DP (show o<8 by omega)
 have hgl:=Oy hr D
 have hpl:=Df hr o (by omega)
 refine Zr<|Zi rfl<|Zv (dm (v:=onV) rfl (Below.slT hB hon) rfl ey Om (by omega))<|Zv (eQ rfl cC (dp.cell (Below.slT hB hon) dr 0 Om (by omega) 0 rfl) (dp.cell (Below.slT hB hon) dr 0 Om (by omega) 1 rfl) (dp.cell (Below.slT hB hon) dr 0 Om (by omega) 2 rfl) (dp.cell (Below.slT hB hon) dr 0 Om (by omega) 3 rfl))<|Zy (cK el rfl λab ak al ao g=> ?_)
 have ap:=ZO al hB
 obtain⟨hB,f,d,ho⟩:=ao.k4 hB f d ho
 replace g:At ak ab #[wv 0 0,wv 0 1,wv 0 2,wv 0 3] 40:=g
 refine Zi rfl<|Zy (cA rfl rfl cC rfl g rfl rfl λaT J aq=> ?_)
 replace hB:=Zg hB J ap
 replace f:=At.grownAt f g J Dd
 replace d:=dy.grownAt d g J
 replace ho:=cH.grownAt ho g J Dd
 replace g:=aq
 refine ct<|Zd dC λar au=> ?_
 obtain⟨hB,f,d,ho,g⟩:=au.k5 hB f d ho g
 have hS:=dC.refl ar
 refine Tk 0 rfl (λ_ hq=>cz rfl cC rfl (hq.at g)) hS<|Tf 1 rfl rfl gi hS<|Tk 2 rfl (λ_ hq=>cD (v:=mayV) rfl eY (At.cell (hq.at f) rfl)) hS<|Ti 3 rfl rfl hS<|Tk 4 rfl (λ_ hq=>dm (v:=mayV) rfl (hq.slT (Below.slT hB hmay)) rfl ey Om (by omega)) hS<|Tk 5 rfl (λ_ hq=>eQ rfl cC (dp.cell (hq.slT (Below.slT hB hmay)) dr 0 Om (by omega) 0 rfl) (dp.cell (hq.slT (Below.slT hB hmay)) dr 0 Om (by omega) 1 rfl) (dp.cell (hq.slT (Below.slT hB hmay)) dr 0 Om (by omega) 2 rfl) (dp.cell (hq.slT (Below.slT hB hmay)) dr 0 Om (by omega) 3 rfl)) hS<|Tf 6 rfl rfl iM hS<|Tk 7 rfl (λ_ hq=>cD (v:= .int .i64 _) rfl cR (At.cell (hq.at f) rfl)) hS<|To 8 rfl (TC (vs:=[.agg #[_,_,_,_], .agg #[_,_,_,_], .int .i64 _]) SW (Dp (AC S o) (kg S o) S.n _) rfl λaU aV M av=>⟨.inl (hS.trans M),?_⟩)
 have aw:=(Below.size hB)
 obtain⟨hB,f,d,ho,g⟩:=M.k5 hB f d ho g
 replace hS:=hS.trans M
 obtain⟨x_hP8_8,er_hP8_8,l_hP8_8,rfl,ho_hP8_8,hc_hP8_8⟩:=Kh av
 replace ho_hP8_8:=cH.mono ho_hP8_8 aw
 refine Tw 9 (.tuple #[x_hP8_8, .int .i64 _]) rfl rfl hS<|Tk 10 rfl (λ_ _=>cZ rfl) hS<|Tk 11 rfl (λ_ _=>c7 rfl) hS<|Tw 12 x_hP8_8 rfl rfl hS<|Ti 13 rfl rfl hS<|Td ?_
 obtain⟨_,hleq⟩:=Ob hc_hP8_8 (by intro h;exact h (by rcases hc_hP8_8 with ⟨_,h,_⟩|⟨h,_⟩;exact h;rw[rt hr D]at h;cases h))
 have hleq2:l_hP8_8=ur S o:=hleq
 subst hleq2
 refine Zr<|Zw x_hP8_8 rfl<|Zv (de (v:=x_hP8_8) rfl ho_hP8_8.sl eE)<|ZZ rfl<|cy ?_
 refine cY (σ:=(Nat)×(Value)) [5,5,11,13,40,63] (λ(i,v1)=>[(40, .int .i64 (i:Int)),(5,v1)]) (λsg W=>match sg with|(i,v1)=>(Below w.heap.size w W)∧(At W Z _ 59)∧(At W ab _ 40)∧(cH iD 2 34 W w.heap.size x_hP8_8 _)∧(dy s9 Value.bool W t (fz (Jd S o (G9 S o) i)))∧(cH gx 3 158 W w.heap.size v1 (Jd S o (G9 S o) i))∧(i≤(ur S o).length)∧(True)) (λ(i,v1)=>(ur S o).length-i) ((0,v0)) ⟨rfl,rfl,trivial⟩ ⟨hB,f,g,ho_hP8_8,d,(by exact ho),(my _),trivial⟩ ?_
 rintro⟨i,v1⟩ aW aX ⟨hB,f,g,ho_hP8_8,d,hoo2,hi,_⟩ aY K
 refine Zr<|Zv (dq rfl rfl)<|ct<|Zq<|ZQ rfl (λax=> ?_) λax=> ?_
 refine cx<|Zq<|cy ?_
 have hi2:i<(ur S o).length:=by omega
 have hgg:=I6 hr D hi2
 have hcl:=C6 S o (G9 S o) i
 refine Zr<|Zv (dm (v:=x_hP8_8) rfl ho_hP8_8.sl rfl eE Om (by omega))<|Zv (iq rfl dh (dp.cell ho_hP8_8.sl gt ⟨0,0⟩ Om (by omega) 0 rfl) (dp.cell ho_hP8_8.sl gt ⟨0,0⟩ Om (by omega) 1 rfl))<|Zy (cK gU rfl λay aZ ac az p=> ?_)
 have aA:=ZO ac hB
 have aB:=abE (b:=ay) ho_hP8_8 (aa1 ac.symm)
 obtain⟨hB,f,g,ho_hP8_8,d,hoo2⟩:=az.k6 hB f g ho_hP8_8 d hoo2
 refine Zy (cA rfl rfl dh rfl p rfl rfl λa0 A aC=> ?_)
 replace hB:=Zg hB A aA
 replace f:=At.grownAt f p A Dd
 replace g:=At.grownAt g p A Dd
 replace ho_hP8_8:=abg ho_hP8_8 aB A
 replace d:=dy.grownAt d p A
 replace hoo2:=cH.grownAt hoo2 p A Dd
 replace p:=aC
 refine ct<|Zd dC λaD aE=> ?_
 obtain⟨hB,f,g,ho_hP8_8,d,hoo2,p⟩:=aE.k7 hB f g ho_hP8_8 d hoo2 p
 have hS:=dC.refl aD
 refine Tk 0 rfl (λ_ hq=>cz rfl ee rfl (hq.at f)) hS<|Tk 1 rfl (λ_ hq=>cz rfl dh rfl (hq.at p)) hS<|Ti 2 rfl rfl hS<|Tk 3 rfl (λ_ _=>jN (m:=1) rfl rfl Om (by simp only[IntKind.bits];omega) y6) hS<|Tk 4 rfl (λ_ _=>kG (h0:=rfl) (h1:=rfl) (k1:=rfl) (c1_0:= .int .u8 _)) hS ?_
 refine v8 5 9 ka rfl rfl rfl rfl rfl rfl rfl rfl (Yd.call (yc I9 (v0:= .agg #[_,_,_]) rfl (v1:= .agg #[_,_,_]) rfl) (vO S _ _ ⟨((ur S o).getD i ⟨0,0⟩),1*2^o⟩ _ (Below.slT hB hon) (Below.slT hB hmay) ⟨hgg.1,hgg.2,(by show 1*2^o<256;omega)⟩) (λaF a1 N E=>⟨.inl (hS.trans N),?_⟩)) (cK jM rfl (λy a2 O P l=>⟨.inl (hS.trans P),?_⟩))
 obtain⟨hB,f,g,ho_hP8_8,d,hoo2⟩:=N.k6 hB f g ho_hP8_8 d hoo2
 replace hS:=hS.trans N
 rw[abd,if_pos (yD hr D hi2)]at E
 obtain rfl:=E
 refine Tw 6 (.tuple #[.agg #[_,_,_], .int .i64 _]) rfl rfl hS<|Tk 7 rfl (λ_ _=>cZ rfl) hS<|Tk 8 rfl (λ_ _=>c7 rfl) hS<|To 9 rfl (cK jM rfl λy a3 Q R l=>⟨.inl (hS.trans R),?_⟩)
 have T:=ZO Q hB
 have F:=go (dC.size hS) (aa1 Q.symm)
 have U:=abE (b:=y) hoo2 (aa1 Q.symm)
 obtain⟨hB,f,g,ho_hP8_8,d,hoo2⟩:=R.k6 hB f g ho_hP8_8 d hoo2
 replace hS:=hS.trans R
 refine To 10 rfl (cA rfl rfl dU rfl l rfl rfl λa4 r aG=>⟨.inl (dg hS r (am _) (λj hj=>by have e:y=j:=aaY hj;rw[←e];exact F)),?_⟩)
 replace hS:dC _ _:=dg hS r (am _) (λj hj=>by have e:y=j:=aaY hj;rw[←e];exact F)
 replace hB:=Zg hB r T
 replace f:=At.grownAt f l r Dd
 replace g:=At.grownAt g l r Dd
 replace ho_hP8_8:=cH.grownAt ho_hP8_8 l r Dd
 replace d:=dy.grownAt d l r
 replace hoo2:=abg hoo2 U r
 replace l:=aG
 refine Ti 11 rfl rfl hS<|Td<|Zr<|Zw (.map (some t)) rfl<|Zv (cz rfl dU rfl l)<|Zv (fR (enc:=s9) (encV:=Value.bool) (v0:=false) (k:=(xA S o i)) rfl rfl vH sG (λa=>⟨a,rfl⟩) uz rz rfl d)<|Zv (eR rfl)<|ct<|ZQ rfl (λq=> ?_) λq=> ?_
 refine Zr<|Zw (.map (some t)) rfl<|Zv (cz rfl dU rfl l) ?_
 refine gM (dd:=none) rfl rfl rfl (fK (enc:=s9) (encV:=Value.bool) (k:=(xA S o i)) (v:=true) rfl rfl rfl vH sG (λa=>⟨a,rfl⟩) uz d (λa5 B aH=> ?_))
 replace hB:=Zg hB B aa
 replace f:=At.grownMap f d B
 replace g:=At.grownMap g d B
 replace ho_hP8_8:=cH.grownMap ho_hP8_8 d B
 replace hoo2:=cH.grownMap hoo2 d B
 replace l:=At.grownMap l d B
 replace d:=aH
 rw[jX]at d
 refine ct<|cI<|Zw v1 rfl<|Zv (cz rfl dU rfl l)<|Zy (eC (u:= .agg #[_,_,_]) rfl dM il rfl Dd Dd λV a6 a7 aI X=> ?_)
 obtain⟨hB,f,g,ho_hP8_8,d,hoo2⟩:=aI.k6 hB f g ho_hP8_8 d hoo2
 refine Zy (dR (v:=v1) (v2:= .slice (some ⟨V,0,none⟩) 1 1) rfl rfl dM il Dd hoo2 (eK X rfl) rfl (mV hB) (by omega) (by omega) λG a8 H z=> ?_)
 replace z:=cH.snoc (enc:=gx) (x:=(xA S o i)) rfl rfl rfl rfl z
 replace hB:=ZG hB H hoo2
 replace f:=At.grownOw f hoo2 H Dd
 replace g:=At.grownOw g hoo2 H Dd
 replace ho_hP8_8:=cH.grownOw ho_hP8_8 hoo2 H Dd
 replace d:=dy.grownOw d hoo2 H
 refine Zw G rfl<|ct<|ZT rfl rfl rfl ?_
 exact K _ _ ((i+1,G)) Za ⟨rfl,rfl,trivial⟩ ⟨hB,f,g,ho_hP8_8,(by exact d),(by (rw[←I5 (Ji (kk:=xA S o i) q)];exact z)),Om,trivial⟩ (by show (ur S o).length-(i+1)<(ur S o).length-i;omega)
 refine cx<|ZT rfl rfl rfl ?_
 exact K _ _ ((i+1,v1)) Za ⟨rfl,rfl,trivial⟩ ⟨hB,f,g,ho_hP8_8,(by (rw[←x9 (DA (kk:=xA S o i) q)];exact d)),(by (rw[←x9 (DA (kk:=xA S o i) q)];exact hoo2)),Om,trivial⟩ (by show (ur S o).length-(i+1)<(ur S o).length-i;omega)
 have T:=ZO O hB
 have F:=go (dC.size hS) (aa1 O.symm)
 have U:=abE (b:=y) hoo2 (aa1 O.symm)
 obtain⟨hB,f,g,ho_hP8_8,d,hoo2⟩:=P.k6 hB f g ho_hP8_8 d hoo2
 replace hS:=hS.trans P
 refine To 5 rfl (TC (vs:=[.agg #[_,_,_], .agg #[_,_,_]]) I9 (vO S _ _ ⟨((ur S o).getD i ⟨0,0⟩),1*2^o⟩ _ (Below.slT hB hon) (Below.slT hB hmay) ⟨hgg.1,hgg.2,(by show 1*2^o<256;omega)⟩) rfl λaF a9 Y E=>⟨.inl (hS.trans Y),?_⟩)
 obtain⟨hB,f,g,ho_hP8_8,d,hoo2,l⟩:=Y.k7 hB f g ho_hP8_8 d hoo2 l
 replace hS:=hS.trans Y
 rw[abd,if_pos (yD hr D hi2)]at E
 obtain rfl:=E
 refine Tw 6 (.tuple #[.agg #[_,_,_], .int .i64 _]) rfl rfl hS<|Tk 7 rfl (λ_ _=>cZ rfl) hS<|Tk 8 rfl (λ_ _=>c7 rfl) hS<|To 10 rfl (cA rfl rfl dU rfl l rfl rfl λba s aJ=>⟨.inl (dg hS s (am _) (λj hj=>by have e:y=j:=aaY hj;rw[←e];exact F)),?_⟩)
 replace hS:dC _ _:=dg hS s (am _) (λj hj=>by have e:y=j:=aaY hj;rw[←e];exact F)
 replace hB:=Zg hB s T
 replace f:=At.grownAt f l s Dd
 replace g:=At.grownAt g l s Dd
 replace ho_hP8_8:=cH.grownAt ho_hP8_8 l s Dd
 replace d:=dy.grownAt d l s
 replace hoo2:=abg hoo2 U s
 replace l:=aJ
 refine Ti 11 rfl rfl hS<|Td<|Zr<|Zw (.map (some t)) rfl<|Zv (cz rfl dU rfl l)<|Zv (fR (enc:=s9) (encV:=Value.bool) (v0:=false) (k:=(xA S o i)) rfl rfl vH sG (λa=>⟨a,rfl⟩) uz rz rfl d)<|Zv (eR rfl)<|ct<|ZQ rfl (λq=> ?_) λq=> ?_
 refine Zr<|Zw (.map (some t)) rfl<|Zv (cz rfl dU rfl l) ?_
 refine gM (dd:=none) rfl rfl rfl (fK (enc:=s9) (encV:=Value.bool) (k:=(xA S o i)) (v:=true) rfl rfl rfl vH sG (λa=>⟨a,rfl⟩) uz d (λbb C aK=> ?_))
 replace hB:=Zg hB C aa
 replace f:=At.grownMap f d C
 replace g:=At.grownMap g d C
 replace ho_hP8_8:=cH.grownMap ho_hP8_8 d C
 replace hoo2:=cH.grownMap hoo2 d C
 replace l:=At.grownMap l d C
 replace d:=aK
 rw[jX]at d
 refine ct<|cI<|Zw v1 rfl<|Zv (cz rfl dU rfl l)<|Zy (eC (u:= .agg #[_,_,_]) rfl dM il rfl Dd Dd λV bc bd aL X=> ?_)
 obtain⟨hB,f,g,ho_hP8_8,d,hoo2⟩:=aL.k6 hB f g ho_hP8_8 d hoo2
 refine Zy (dR (v:=v1) (v2:= .slice (some ⟨V,0,none⟩) 1 1) rfl rfl dM il Dd hoo2 (eK X rfl) rfl (mV hB) (by omega) (by omega) λG bf I z=> ?_)
 replace z:=cH.snoc (enc:=gx) (x:=(xA S o i)) rfl rfl rfl rfl z
 replace hB:=ZG hB I hoo2
 replace f:=At.grownOw f hoo2 I Dd
 replace g:=At.grownOw g hoo2 I Dd
 replace ho_hP8_8:=cH.grownOw ho_hP8_8 hoo2 I Dd
 replace d:=dy.grownOw d hoo2 I
 refine Zw G rfl<|ct<|ZT rfl rfl rfl ?_
 exact K _ _ ((i+1,G)) Za ⟨rfl,rfl,trivial⟩ ⟨hB,f,g,ho_hP8_8,(by exact d),(by (rw[←I5 (Ji (kk:=xA S o i) q)];exact z)),Om,trivial⟩ (by show (ur S o).length-(i+1)<(ur S o).length-i;omega)
 refine cx<|ZT rfl rfl rfl ?_
 exact K _ _ ((i+1,v1)) Za ⟨rfl,rfl,trivial⟩ ⟨hB,f,g,ho_hP8_8,(by (rw[←x9 (DA (kk:=xA S o i) q)];exact d)),(by (rw[←x9 (DA (kk:=xA S o i) q)];exact hoo2)),Om,trivial⟩ (by show (ur S o).length-(i+1)<(ur S o).length-i;omega)
 refine cT<|ZT rfl rfl rfl ?_
 exact ai _ _ ((o+1,v1)) Za ⟨rfl,rfl,trivial⟩ ⟨hB,f,(by rw[G9];have e:i=(ur S o).length:=Om;subst e;exact d),(by rw[G9];have e:i=(ur S o).length:=Om;subst e;exact hoo2),Om,trivial⟩ (by show S.on.length-(o+1)<S.on.length-o;omega)
 refine cT<|Zr<|Zw v0 rfl<|Zw v0 rfl<|ZZ rfl<|Zt<|dG (v:=v0) rfl (v1:= .int .i64 0) rfl ⟨hB,?_⟩
 obtain rfl:o=S.on.length:=by omega
 rw[if_pos hr]
 exact⟨_,rfl,ho⟩
end
section
open Go Go.RowKit
theorem R6:cX Tryz.prog 174=true:=by kernel_rfl
theorem QI:cX Tryz.prog 175=true:=by kernel_rfl
theorem QO:cX Tryz.prog 176=true:=by kernel_rfl
theorem rL:dW Tryz.prog 85=some (.agg #[.slice none 0 0, .int .i64 0, .int .i64 0, .int .i64 0]):=by kernel_rfl
theorem wc:d5 Tryz.prog 49 0=some 0:=by kernel_rfl
theorem RL:cX Tryz.prog 145=true:=by kernel_rfl
theorem vW:(Tryz.prog.info? 83).map (·.size)=some 1:=by kernel_rfl
theorem jR {f:Nat→Value} {w:World} {d:Option Nat} {ty:TypeId} {ps:String} {af:Array Edge} {g:Option (Nat×Bool)}:
    (execOp (dk f) ⟨d, .build 85 #[],ty,ps,af,g⟩).run Tryz.prog w= .ok (.value (.agg #[.slice none 0 0, .int .i64 0, .int .i64 0, .int .i64 0])) w:=by
  obtain⟨i0,hi0,hz0⟩:=Do.1 (show (Tryz.prog.info? 85).bind (·.zero)=_ from rL)
  obtain⟨j3,hj3,hs3⟩:=an.1 fN
  obtain⟨j27,hj27,hs27⟩:=an.1 nE
  obtain⟨j83,hj83,hs83⟩:=an.1 vW
  simp[execOp,Instr.build,zeroValue,typeInfo,sizeOf,hi0,hz0,run_underlying Tryz.underlying85,Instr.fill,d7,hj3,hs3,hj27,hs27,hj83,hs83]
theorem fq:kf Tryz.prog 85=some 4:=by kernel_rfl
theorem Qu:cX Tryz.prog 146=true:=by kernel_rfl
theorem nC:d5 Tryz.prog 49 1=some 1:=by kernel_rfl
theorem Rl:cX Tryz.prog 148=true:=by kernel_rfl
theorem yF {f:Nat→Value} {w:World} {d:Option Nat} {ty:TypeId} {ps:String} {af:Array Edge} {g:Option (Nat×Bool)} {x0 x1:Operand} {c0_0 c1_0:Value} (h0:dk f x0=c0_0) (k0:c0_0.cells= #[c0_0]) (h1:dk f x1=c1_0) (k1:c1_0.cells= #[c1_0]):
    (execOp (dk f) ⟨d, .build 85 #[(1,x0),(3,x1)],ty,ps,af,g⟩).run Tryz.prog w= .ok (.value (.agg #[.slice none 0 0,c0_0, .int .i64 0,c1_0])) w:=by
  obtain⟨i0,hi0,hz0⟩:=Do.1 (show (Tryz.prog.info? 85).bind (·.zero)=_ from rL)
  obtain⟨j3,hj3,hs3⟩:=an.1 fN
  obtain⟨j27,hj27,hs27⟩:=an.1 nE
  obtain⟨j83,hj83,hs83⟩:=an.1 vW
  simp[execOp,h0,k0,h1,k1,Instr.build,zeroValue,typeInfo,sizeOf,hi0,hz0,run_underlying Tryz.underlying85,Instr.fill,d7,hj3,hs3,hj27,hs27,hj83,hs83]
theorem sk:d5 Tryz.prog 85 0=some 0:=by kernel_rfl
theorem SV:cX Tryz.prog 103=true:=by kernel_rfl
theorem SK:cX Tryz.prog 104=true:=by kernel_rfl
theorem tI {f:Nat→Value} {w:World} {d:Option Nat} {ty:TypeId} {ps:String} {af:Array Edge} {g:Option (Nat×Bool)} {x0 x1 x2 x3:Operand} {c0_0 c1_0 c2_0 c3_0:Value} (h0:dk f x0=c0_0) (k0:c0_0.cells= #[c0_0]) (h1:dk f x1=c1_0) (k1:c1_0.cells= #[c1_0]) (h2:dk f x2=c2_0) (k2:c2_0.cells= #[c2_0]) (h3:dk f x3=c3_0) (k3:c3_0.cells= #[c3_0]):
    (execOp (dk f) ⟨d, .build 85 #[(0,x0),(1,x1),(2,x2),(3,x3)],ty,ps,af,g⟩).run Tryz.prog w= .ok (.value (.agg #[c0_0,c1_0,c2_0,c3_0])) w:=by
  obtain⟨i0,hi0,hz0⟩:=Do.1 (show (Tryz.prog.info? 85).bind (·.zero)=_ from rL)
  obtain⟨j3,hj3,hs3⟩:=an.1 fN
  obtain⟨j27,hj27,hs27⟩:=an.1 nE
  obtain⟨j83,hj83,hs83⟩:=an.1 vW
  simp[execOp,h0,k0,h1,k1,h2,k2,h3,k3,Instr.build,zeroValue,typeInfo,sizeOf,hi0,hz0,run_underlying Tryz.underlying85,Instr.fill,d7,hj3,hs3,hj27,hs27,hj83,hs83]
theorem uY:kf Tryz.prog 49=some 2:=by kernel_rfl
theorem Sg:cX Tryz.prog 101=true:=by kernel_rfl
theorem WO:dW Tryz.prog 27=some (.int .i64 0):=by kernel_rfl
theorem JY:cX Tryz.prog 102=true:=by kernel_rfl
set_option maxRecDepth 20000 in
theorem zy (S:Sp) (onV mayV:Value) (R:Nat) (w:World) (hon:dp fh 4 w onV S.on) (hmay:dp fh 4 w mayV S.may) (hr:dt S=true) (hR:R≤20000):
    Fn Tryz.prog 145 #[.agg #[.int .i64 S.n,onV,mayV], .int .i64 (R:Int)] w λv w'=>∃x e,v= .tuple #[x, .int .i64 e]∧TB R S e∧(e=0→cH gx 3 158 w' w.heap.size x (eV S)):=by
 refine cM (n:=31) Tryz.func145 rfl rfl rfl λhB=> ?_
 refine Zr<|Zy (dw (c:= #[_,_,_]) rfl rfl λu W3 y k a=> ?_)
 replace hB:=Ze hB k
 refine Zw (.slice none 0 0) rfl<|ZZ rfl<|Zr<|Zi rfl<|ZC R6 (Lv R _ hR) rfl λz W8 l m=> ?_
 have o:=(Below.size hB)
 obtain⟨hB,a⟩:=l.k2 hB a
 obtain⟨bz,ba,bm,rfl,hz,hD⟩:=m
 replace hD:=fJ.mono hD o
 refine Zw (.tuple #[.pointer (some ⟨bz,0,none⟩), .int .i64 0]) rfl<|Zv (cZ rfl)<|Zv (c7 rfl)<|Zp rfl<|ZZ rfl<|Zq<|Zr<|Zi rfl<|Zv (e7 rfl rfl)<|ct<|ZQ rfl (λg=> ?_) λg=> ?_
 exact absurd rfl g
 refine cx<|Zq<|Zr<|Zp rfl<|Zv (cz rfl ee rfl a)<|ZH (vs:=[.pointer (some ⟨bz,0,none⟩), .agg #[_,_,_]]) QI (DI w _ _ _ _ _ S onV mayV _ hB hz hD hr hon hmay) rfl λA B p=> ?_
 obtain⟨C,r,h,rfl,b,s,i⟩:=p
 replace hB:=Below.dx hB (am _) (am _) b
 replace a:=At.dx hD b a Dd Dd
 replace hz:=At.dx hD b hz Dd Dd
 replace hD:=s
 refine Zw (.tuple #[.int .i64 (r:Int), .int .i64 h]) rfl<|Zv (cZ rfl)<|Zv (c7 rfl)<|Zi rfl<|ZZ rfl ?_
 have hro5:=hD.room
 have hwf5:=hD.wf
 refine Zr<|Zi rfl<|Zv (e7 rfl rfl)<|ct<|ZQ rfl (λd=> ?_) λd=> ?_
 refine Zr<|Zi rfl<|Zw (.slice none 0 0) rfl<|ZZ rfl<|Zt<|dG (v:= .slice none 0 0) rfl (v1:= .int .i64 _) rfl ⟨hB,?_⟩
 exact⟨_,_,rfl,⟨_,_,i,hro5,hwf5⟩,λq=>absurd q d⟩
 refine cx ?_
 have he0:h=0:=aaN d
 refine Zr<|Zv (cz rfl ee rfl a)<|ZC (vs:=[.agg #[_,_,_]]) QO (Gj S _ _ _ (Below.slT hB hon) (Below.slT hB hmay)) rfl λD E f j=> ?_
 have t:=(Below.size hB)
 obtain⟨hB,a⟩:=f.k2 hB a
 replace hD:=fJ.ext f hD
 replace hz:=f.at hz
 rw[if_pos hr]at j
 obtain⟨xl,rfl,hol⟩:=j
 replace hol:=cH.mono hol t
 refine Zv (cZ rfl)<|Zv (c7 rfl)<|Zw xl rfl<|ZZ rfl<|Zt<|dG (v:=xl) rfl (v1:= .int .i64 0) rfl ⟨hB,?_⟩
 exact⟨_,_,rfl,⟨_,_,he0▸i,hro5,hwf5⟩,λ_=>hol⟩
set_option maxRecDepth 20000 in
theorem yY (S:Sp) (onV mayV:Value) (R T:Nat) (w:World) (hon:dp fh 4 w onV S.on) (hmay:dp fh 4 w mayV S.may) (hr:dt S=true) (hR:R≤20000) (hT:T≤1000000) (h4:S.n≤4) (h3:S.on.length≤3):
    Fn Tryz.prog 101 #[.agg #[.int .i64 S.n,onV,mayV], .agg #[.int .i64 (R:Int), .int .i64 (T:Int)]] w λv w'=>∃x how sp e Rr,v= .tuple #[.agg #[x, .int .i64 how, .int .i64 0, .int .i64 sp], .int .i64 e]∧cH gx 3 158 w' w.heap.size x Rr∧ZS R T S how sp e Rr:=by
 refine cM (n:=91) Tryz.func101 rfl rfl rfl λhB=> ?_
 refine Zr<|Zy (dw (c:= #[_,_,_]) rfl rfl λY W3 a6 Z f=> ?_)
 replace hB:=Ze hB Z
 refine Zy (dw (c:= #[_,_]) rfl rfl λaa W6 a7 ab g=> ?_)
 obtain⟨hB,f⟩:=ab.k2 hB f
 refine Zy (cK rL rfl λac W9 ad ae d=> ?_)
 have D:=ZO ad hB
 obtain⟨hB,f,g⟩:=ae.k3 hB f g
 refine ZZ rfl<|Zr<|Zv (cz rfl ee rfl f)<|Zf rfl wc<|Zl rfl cR g rfl<|ZC (vs:=[.agg #[_,_,_], .int .i64 _]) RL (zy S _ _ R _ (Below.slT hB hon) (Below.slT hB hmay) hr hR) rfl λa8 a9 af ag=> ?_
 have ah:=(Below.size hB)
 obtain⟨hB,f,g,d⟩:=af.k4 hB f g d
 obtain⟨x1_3,e1_3,rfl,hno1_3,hxo1_3⟩:=ag
 have hszP:=ah
 refine Zw (.tuple #[x1_3, .int .i64 e1_3]) rfl<|Zv (cZ rfl)<|Zv (c7 rfl)<|Zw x1_3 rfl<|Zw (.int .i64 e1_3) rfl<|ct<|Zq<|Zr<|Zw (.int .i64 e1_3) rfl<|Zv (e7 rfl rfl)<|ct<|ZQ rfl (λE=> ?_) λE=> ?_
 refine Zr<|Zv (jR)<|Zw (.int .i64 e1_3) rfl<|Zy (cA rfl rfl fq rfl d rfl rfl λba ai aj=> ?_)
 replace hB:=Zg hB ai D
 replace d:=aj
 refine Zw (.int .i64 e1_3) rfl<|ct<|Zt<|eh rfl fq d rfl (v1:= .int .i64 e1_3) rfl ⟨hB,?_⟩
 exact⟨_,_,_,_,_,rfl,cH.nil, .inr (.inl (by obtain⟨ns',id,h⟩:=hno1_3;obtain rfl:=Z9 h.1 E;exact⟨rfl,ns',id,h⟩))⟩
 refine cx ?_
 have he0:e1_3=0:=aaN E
 have hxo:=cH.mono (hxo1_3 he0) hszP
 have hl2:=LP hr h4 h3
 have hl4:(eV S).length≤4000:=by omega
 have ak:=V7 hr hl4
 have al:=kT (S:=S) hl4
 have hrl0:=Mk hr
 refine Zr<|Zv (cz rfl ee rfl f)<|Zw x1_3 rfl<|ZC (vs:=[.agg #[_,_,_],x1_3]) Qu (CS S _ _ _ (eV S) _ (Below.slT hB hon) (Below.slT hB hmay) hxo.sl Om (WF hr)) rfl λbb bc ao I=> ?_
 obtain⟨hB,f,g,d,hxo⟩:=ao.k5 hB f g d hxo
 rw[if_pos ak]at I
 obtain⟨rv4_2,bd,rfl,hk4_2,hLO4_2⟩:=I
 replace hk4_2:=cH.mono hk4_2 (my _)
 replace hLO4_2:=LO.mono hLO4_2 (my _)
 refine Zw (.tuple #[.agg #[.int .i64 _,rv4_2], .int .i64 0]) rfl<|Zv (cZ rfl)<|Zv (c7 rfl)<|Zy (cK gq rfl λap bf aq ar i=> ?_)
 have au:=ZO aq hB
 obtain⟨hB,f,g,d,hxo,hk4_2,hLO4_2⟩:=ar.k7 hB f g d hxo hk4_2 hLO4_2
 refine Zy (cA rfl rfl da rfl i rfl (by exact iI (cH.one hk4_2)) λbg s av=> ?_)
 replace hB:=Zg hB s au
 replace f:=At.grownAt f i s Dd
 replace g:=At.grownAt g i s Dd
 replace d:=At.grownAt d i s Dd
 replace hxo:=cH.grownAt hxo i s Dd
 replace hk4_2:=cH.grownAt hk4_2 i s Dd
 replace hLO4_2:=LO.grownAt hLO4_2 i s Dd
 replace i:=av
 refine ZZ rfl<|Zq<|Zr<|Zi rfl<|Zv (e7 rfl rfl)<|ct<|ZQ rfl (λJ=> ?_) λJ=> ?_
 exact absurd rfl J
 refine cx<|Zr<|Zv (cz rfl da rfl i)<|ZC (vs:=[.agg #[_,_]]) Kf (qR _ _ _ (mB S (eV S)) _ (cH.mono hk4_2 (my _)) (LO.mono hLO4_2 (my _)) al Om) rfl λbh bi aw ax=> ?_
 have ay:=(Below.size hB)
 obtain⟨hB,f,g,d,hxo,hk4_2,hLO4_2,i⟩:=aw.k8 hB f g d hxo hk4_2 hLO4_2 i
 obtain⟨tv7_1,T7_1,rv7_1,bj,L7_1,rfl,ht7_1,hk7_1,hLO7_1,hrd7_1,az,hln7_1,hTl7_1⟩:=ax
 skip
 replace ht7_1:=cH.mono ht7_1 ay
 refine Zw (.tuple #[tv7_1, .agg #[.int .i64 _,rv7_1], .int .i64 0]) rfl<|Zv (gR rfl)<|Zv (jm rfl)<|Zv (iQ rfl)<|Zy (cK gq rfl λaA bk K aB l=> ?_)
 have aC:=ZO K hB
 have aD:=Zn K i.lt
 obtain⟨hB,f,g,d,hxo,hk4_2,hLO4_2,i,ht7_1,hk7_1,hLO7_1⟩:=aB.k11 hB f g d hxo hk4_2 hLO4_2 i ht7_1 hk7_1 hLO7_1
 refine Zw tv7_1 rfl<|Zy (cA rfl rfl da rfl l rfl (by exact iI (cH.one hk7_1)) λbl o aE=> ?_)
 replace hB:=Zg hB o aC
 replace f:=At.grownAt f l o Dd
 replace g:=At.grownAt g l o Dd
 replace d:=At.grownAt d l o Dd
 replace hxo:=cH.grownAt hxo l o Dd
 replace hk4_2:=cH.grownAt hk4_2 l o Dd
 replace hLO4_2:=LO.grownAt hLO4_2 l o Dd
 replace i:=At.grownNe i aD o
 replace ht7_1:=cH.grownAt ht7_1 l o Dd
 replace hk7_1:=cH.grownAt hk7_1 l o Dd
 replace hLO7_1:=LO.grownAt hLO7_1 l o Dd
 replace l:=aE
 refine ZZ rfl<|Zr<|Zv (cz rfl da rfl l)<|Zf rfl nC<|Zl rfl cR g rfl<|ZC (vs:=[.agg #[_,_], .int .i64 _]) Rl (xm _ _ _ L7_1 (T:Int) _ (cH.mono hk7_1 (my _)) (LO.mono hLO7_1 (my _)) az Om (K5 hr hl4 hrd7_1) Om) rfl λbm bn aF aG=> ?_
 have bo:=acL ht7_1
 have aH:=(Below.size hB)
 obtain⟨hB,f,g,d,hxo,hk4_2,hLO4_2,i,ht7_1,hk7_1,hLO7_1,l⟩:=aF.k12 hB f g d hxo hk4_2 hLO4_2 i ht7_1 hk7_1 hLO7_1 l
 obtain⟨tv8_3,X8_3,s8_3,e8_3,rfl,ht8_3,hXl8_3,aI,hsb8_3,hfw8_3,hto8_3⟩:=Lh aG (Int.natCast_nonneg _)
 replace ht8_3:=cH.mono ht8_3 aH
 refine Zw (.tuple #[tv8_3, .int .i64 s8_3, .int .i64 e8_3]) rfl<|Zv (gR rfl)<|Zv (jm rfl)<|Zv (iQ rfl)<|Zw tv8_3 rfl<|Zw (.int .i64 s8_3) rfl<|Zw (.int .i64 e8_3) rfl<|ct<|Zq<|Zr<|Zw (.int .i64 e8_3) rfl<|Zv (e7 rfl rfl)<|ct<|ZQ rfl (λA=> ?_) λA=> ?_
 refine Zr<|Zv (jR)<|Zw (.int .i64 e8_3) rfl<|Zy (cA rfl rfl fq rfl d rfl rfl λbp aJ aK=> ?_)
 replace hB:=Zg hB aJ D
 replace d:=aK
 refine Zw (.int .i64 e8_3) rfl<|ct<|Zt<|eh rfl fq d rfl (v1:= .int .i64 e8_3) rfl ⟨hB,?_⟩
 exact⟨_,_,_,_,_,rfl,cH.nil, .inr (.inr ⟨(hto8_3 A).1,he0▸hno1_3,L7_1,T7_1,hrd7_1,by have:=(hto8_3 A).2;rwa [so]at this⟩)⟩
 refine cx<|Zr<|Zy (g7 (enc:=eM) (encV:=Value.bool) λB bq aL L y=> ?_)
 have aM:=ZO aL hB
 obtain⟨hB,f,g,d,hxo,hk4_2,hLO4_2,i,ht7_1,hk7_1,hLO7_1,l⟩:=L.k12 hB f g d hxo hk4_2 hLO4_2 i ht7_1 hk7_1 hLO7_1 l
 replace ht8_3:=L.ow ht8_3
 replace y:dy eM Value.bool _ _ (fz []):=y
 refine Zw (.map (some B)) rfl<|ct<|Zq<|Zr<|Zw tv7_1 rfl<|Zw tv8_3 rfl<|Zy (dR (v:=tv7_1) (v2:=tv8_3) rfl rfl cV eL Dd ht7_1 ht8_3.sl (lN) (mV hB) Om Om λF br p q=> ?_)
 replace q:=cH.app (enc:=dT) rfl rfl rfl rfl q
 replace hB:=ZG hB p ht7_1
 replace f:=At.grownOw f ht7_1 p Dd
 replace g:=At.grownOw g ht7_1 p Dd
 replace d:=At.grownOw d ht7_1 p Dd
 replace hxo:=cH.grownOw hxo ht7_1 p Dd
 replace hk4_2:=cH.grownOw hk4_2 ht7_1 p Dd
 replace i:=At.grownOw i ht7_1 p Dd
 replace hk7_1:=cH.grownOw hk7_1 ht7_1 p Dd
 replace l:=At.grownOw l ht7_1 p Dd
 replace y:=dy.grownOw y ht7_1 p
 refine Zv (de (v:=F) rfl q.sl cV)<|ZZ rfl<|cy ?_
 refine cY (σ:=(Nat)) [16,16,64,70] (λj=>[(64, .int .i64 (j:Int))]) (λj W=>(Below w.heap.size w W)∧(At W Y _ 59)∧(At W aa _ 49)∧(At W ac _ 85)∧(cH gx 3 158 W w.heap.size x1_3 _)∧(cH encV 1 35 W 0 rv4_2 _)∧(At W ap _ 203)∧(cH encV 1 35 W 0 rv7_1 _)∧(At W aA _ 203)∧(cH dT 1 3 W w.heap.size F _)∧(dy eM Value.bool W B (fz (qS [] (T7_1++X8_3) j)))∧(j≤(T7_1++X8_3).length)∧(True)) (λj=>(T7_1++X8_3).length-j) (0) ⟨rfl,trivial⟩ ⟨hB,f,g,d,hxo,hk4_2,i,hk7_1,l,q,y,(my _),trivial⟩ ?_
 rintro j bs z ⟨hB,f,g,d,hxo,hk4_2,i,hk7_1,l,q,hmk,hj,_⟩ bt aN
 have hcl:(T7_1++X8_3).length≤16000:=by rw[An];omega
 refine Zr<|Zv (dq rfl rfl)<|ct<|Zq<|ZQ rfl (λaO=> ?_) λaO=> ?_
 refine cx<|Zq<|cy<|Zr<|Zv (dm (v:=F) rfl q.sl rfl cV Om Om)<|Zv (cD (v:= .int .i64 _) rfl cR (dp.cell q.sl ez 0 Om Om 0 rfl))<|ZZ rfl<|cI<|Zw (.map (some B)) rfl<|Zi rfl ?_
 refine gM (dd:=none) rfl rfl rfl (fK (enc:=eM) (encV:=Value.bool) (k:=((T7_1++X8_3).getD j 0)) (v:=true) rfl rfl rfl mP g6 (λa=>⟨a,rfl⟩) fU hmk (λbu r aP=> ?_))
 replace hB:=Zg hB r aM
 replace f:=At.grownMap f hmk r
 replace g:=At.grownMap g hmk r
 replace d:=At.grownMap d hmk r
 replace hxo:=cH.grownMap hxo hmk r
 replace hk4_2:=cH.grownMap hk4_2 hmk r
 replace i:=At.grownMap i hmk r
 replace hk7_1:=cH.grownMap hk7_1 hmk r
 replace l:=At.grownMap l hmk r
 replace q:=cH.grownMap q hmk r
 replace hmk:=aP
 rw[jX]at hmk
 refine ct<|ZT rfl rfl rfl ?_
 exact aN _ _ (j+1) Za ⟨rfl,trivial⟩ ⟨hB,f,g,d,hxo,hk4_2,i,hk7_1,l,q,(by exact hmk),Om,trivial⟩ Zo
 refine cT ?_
 have bv:=Below.slT hB hon
 have bw:=Below.slT hB hmay
 have M:=hB
 replace hB:=Below.refl z.heap.size z
 obtain rfl:j=(T7_1++X8_3).length:=by omega
 refine Zr<|Zw (.int .i64 s8_3) rfl<|Zv (yF (h0:=rfl) (k0:=rfl) (h1:=rfl) (k1:=rfl) (c0_0:= .int .i64 1) (c1_0:= .int .i64 s8_3))<|Zy (cK rL rfl λaQ bx aR aS m=> ?_)
 have N:=ZO aR hB
 replace hB:=Ze hB aS
 refine Zy (cA rfl rfl fq rfl m rfl rfl λbz aT aU=> ?_)
 replace hB:=Zg hB aT N
 replace m:=aU
 refine ct<|Zq<|Zr<|Zw x1_3 rfl<|Zv (de (v:=x1_3) rfl ((Below.ow hB hxo)).sl dM)<|ZZ rfl<|cy ?_
 refine cY (σ:=(Nat)×(Value)) [18,19,75,89] (λ(k,v0)=>[(75, .int .i64 (k:Int))]) (λsg W=>match sg with|(k,v0)=>(Below z.heap.size z W)∧(At W aQ #[v0, .int .i64 1, .int .i64 0, .int .i64 s8_3] 85)∧(cH gx 3 158 W z.heap.size v0 (AG (eV S) (qS [] (T7_1++X8_3) (T7_1++X8_3).length) k))∧(k≤(eV S).length)∧(True)) (λ(k,v0)=>(eV S).length-k) ((0, .slice none 0 0)) ⟨rfl,trivial⟩ ⟨hB,m,cH.nil,(my _),trivial⟩ ?_
 rintro⟨k,v0⟩ bA bB ⟨hB,m,ho,hk,_⟩ bC O
 refine Zr<|Zv (dq rfl rfl)<|ct<|Zq<|ZQ rfl (λaV=> ?_) λaV=> ?_
 refine cx<|Zq<|cy<|Zr<|Zi rfl<|Zv (dm (v:=x1_3) rfl ((Below.ow hB hxo)).sl rfl dM Om Om)<|Zv (jc rfl dU (dp.cell ((Below.ow hB hxo)).sl eA ⟨⟨0,0⟩,0⟩ Om Om 0 rfl) (dp.cell ((Below.ow hB hxo)).sl eA ⟨⟨0,0⟩,0⟩ Om Om 1 rfl) (dp.cell ((Below.ow hB hxo)).sl eA ⟨⟨0,0⟩,0⟩ Om Om 2 rfl))<|Zy (cK jM rfl λaW bD P aX C=> ?_)
 have aY:=ZO P hB
 have aZ:=abE (b:=aW) ho (aa1 P.symm)
 obtain⟨hB,m,ho⟩:=aX.k3 hB m ho
 refine Zi rfl<|Zy (cA rfl rfl dU rfl C rfl rfl λbE G a0=> ?_)
 replace hB:=Zg hB G aY
 replace m:=At.grownAt m C G Dd
 replace ho:=abg ho aZ G
 replace C:=a0
 refine ct<|Zr<|Zw (.map (some B)) rfl<|Zi rfl<|Zv (fR (enc:=eM) (encV:=Value.bool) (v0:=false) (k:=_) rfl rfl mP g6 (λa=>⟨a,rfl⟩) fU rz rfl (acl hB hmk))<|ct<|ZQ rfl (λH=> ?_) λH=> ?_
 refine cI<|Zf rfl sk<|ZL v0 rfl ng m rfl<|Zv (cz rfl dU rfl C)<|Zy (eC (u:= .agg #[_,_,_]) rfl dM il rfl Dd Dd λa1 bF bG a2 a3=> ?_)
 obtain⟨hB,m,ho⟩:=a2.k3 hB m ho
 refine Zy (dR (v:=v0) (v2:= .slice (some ⟨a1,0,none⟩) 1 1) rfl rfl dM il Dd ho (eK a3 rfl) rfl (mV hB) (by have:=I3 (eV S) (qS [] (T7_1++X8_3) (T7_1++X8_3).length) k;omega) (by have:=I3 (eV S) (qS [] (T7_1++X8_3) (T7_1++X8_3).length) k;omega) λQ bH U t=> ?_)
 replace t:=cH.snoc (enc:=gx) (x:=((eV S).getD k ⟨⟨0,0⟩,0⟩)) rfl rfl rfl rfl t
 replace hB:=ZG hB U ho
 replace m:=At.grownOw m ho U Dd
 refine Zf rfl sk<|Zy (db (v:=Q) rfl rfl ng (dp.one t.sl) m fD λbI V a4=> ?_)
 replace hB:=Zg hB V N
 replace t:=cH.grownAt t m V Dd
 replace m:=a4
 replace m:At _ _ #[_,_,_,_] _:=m
 refine ct<|ZT rfl rfl rfl ?_
 exact O _ _ ((k+1,Q)) Za ⟨rfl,trivial⟩ ⟨hB,(by exact m),(by (rw[←Yi (vD H)];exact t)),Om,trivial⟩ (by show (eV S).length-(k+1)<(eV S).length-k;omega)
 refine cx<|ZT rfl rfl rfl ?_
 exact O _ _ ((k+1,v0)) Za ⟨rfl,trivial⟩ ⟨hB,(by exact m),(by (rw[←Xm (rh H)];exact ho)),Om,trivial⟩ (by show (eV S).length-(k+1)<(eV S).length-k;omega)
 refine cT ?_
 replace d:=On hB d
 have hzs:=go (am _) (Below.size M)
 replace ho:=cH.mono ho hzs
 replace hB:=Below.trans M (Below.mono hB hzs)
 obtain rfl:k=(eV S).length:=by omega
 refine Zr<|Zv (cz rfl fq rfl m)<|Zy (cA rfl rfl fq rfl d rfl (by exact rf (cH.one ho)) λbJ X a5=> ?_)
 replace hB:=Zg hB X D
 replace ho:=cH.grownAt ho d X Dd
 replace d:=a5
 refine ZZ rfl<|Zt<|eh rfl fq d rfl (v1:= .int .i64 0) rfl ⟨hB,?_⟩
 exact⟨_,_,_,_,_,rfl,ho, .inl ⟨rfl,rfl,aI,hsb8_3,he0▸hno1_3,Tm hr hl4 hrd7_1 (hfw8_3 (aaN A)) (λc=>VT) (yL List.nodup_nil _)⟩⟩
theorem nR (S:Sp) (onV mayV:Value) (p q:Int) (bs be:Nat) (w:World) (hon:dp fh 4 w onV S.on) (hmay:dp fh 4 w mayV S.may) (hr:dt S=true) (hsp:At w bs #[.int .i64 S.n,onV,mayV] 59) (hbe:At w be #[.int .i64 q] 27):
    Fn Tryz.prog 102 #[.int .i64 p, .pointer (some ⟨bs,0,none⟩), .pointer (some ⟨be,0,none⟩)] w λv w'=>∃x,v= .tuple #[.agg #[x, .int .i64 2, .int .i64 q, .int .i64 p], .int .i64 0]∧cH gx 3 158 w' w.heap.size x (lf S (mX S)):=by
 refine cM (n:=26) Tryz.func102 rfl rfl rfl λhB=> ?_
 refine Zr<|Zy (cK rL rfl λm W3 e f a=> ?_)
 have g:=ZO e hB
 replace hB:=Ze hB f
 refine ZZ rfl<|Zr<|Zv (cz rfl ee rfl (On hB hsp))<|ZC (vs:=[.agg #[_,_,_]]) SV (Dl S _ _ _ (Below.slT hB hon) (Below.slT hB hmay)) rfl λo W8 h b=> ?_
 have i:=(Below.size hB)
 obtain⟨hB,a⟩:=h.k2 hB a
 rw[if_pos hr]at b
 obtain⟨xpl,rfl,hpl⟩:=b
 replace hpl:=cH.mono hpl i
 refine Zw (.tuple #[xpl, .int .i64 0]) rfl<|Zv (cZ rfl)<|Zv (c7 rfl)<|Zw xpl rfl<|ZZ rfl<|Zr<|Zv (cz rfl ee rfl (On hB hsp))<|Zw xpl rfl<|ZC (vs:=[.agg #[_,_,_],xpl]) SK (Gd S _ _ _ (mX S) _ (Below.slT hB hon) (Below.slT hB hmay) hpl.sl (by have:=Ld hr;omega) (Qs hr) (by have:=(dz.1 hr);omega)) rfl λr s j c=> ?_
 have t:=acL hpl
 have k:=(Below.size hB)
 obtain⟨hB,a⟩:=j.k2 hB a
 rw[if_pos (wo hr)]at c
 obtain⟨xtn,rfl,htn⟩:=c
 replace htn:=cH.mono htn k
 refine Zw (.tuple #[xtn, .int .i64 0]) rfl<|Zv (cZ rfl)<|Zv (c7 rfl)<|Zw xtn rfl<|ZZ rfl<|Zr<|Zw xtn rfl<|Zl rfl fe (On hB hbe) rfl<|Zi rfl<|Zv (tI (h0:=rfl) (k0:=dp.cells htn.sl) (h1:=rfl) (k1:=rfl) (h2:=rfl) (k2:=rfl) (h3:=rfl) (k3:=rfl) (c0_0:=xtn) (c1_0:= .int .i64 2) (c2_0:= .int .i64 _) (c3_0:= .int .i64 _))<|Zi rfl<|Zy (cA rfl rfl fq rfl a rfl (by exact rf (cH.one htn)) λu d l=> ?_)
 replace hB:=Zg hB d g
 replace htn:=cH.grownAt htn a d Dd
 replace a:=l
 refine ZZ rfl<|Zt<|eh rfl fq a rfl (v1:= .int .i64 0) rfl ⟨hB,?_⟩
 exact⟨_,rfl,htn⟩
theorem wB (S:Sp) (onV mayV:Value) (b0 b1:Int) (w:World) (hon:dp fh 4 w onV S.on) (hmay:dp fh 4 w mayV S.may) (hs:dt S=true→S.n≤4∧S.on.length≤3):
    Fn Tryz.prog 38 #[.agg #[.int .i64 S.n,onV,mayV], .agg #[.int .i64 b0, .int .i64 b1]] w λv w'=>if dt S=true∧ot b0 b1 then ∃x how why sp Rr,v= .tuple #[.agg #[x, .int .i64 how, .int .i64 why, .int .i64 sp], .int .i64 0]∧cH gx 3 158 w' w.heap.size x Rr∧J7 b0.toNat b1.toNat S how why sp Rr else v= .tuple #[.agg #[.slice none 0 0, .int .i64 0, .int .i64 0, .int .i64 0], .int .i64 1]:=by
 refine cM (n:=56) Tryz.func38 rfl rfl rfl λhB=> ?_
 refine Zr<|Zy (dw (c:= #[_,_,_]) rfl rfl λi W3 ay D b=> ?_)
 replace hB:=Ze hB D
 refine Zy (dw (c:= #[_,_]) rfl rfl λaz W6 aA E d=> ?_)
 obtain⟨hB,b⟩:=E.k2 hB b
 refine Zy (cK rL rfl λaB W9 F G a=> ?_)
 have j:=ZO F hB
 obtain⟨hB,b,d⟩:=G.k3 hB b d
 refine ZZ rfl<|Zq<|Zr<|Zv (cz rfl ee rfl b)<|ZC (vs:=[.agg #[_,_,_]]) oC (iP S _ _ _ (Below.slT hB hon) (Below.slT hB hmay)) rfl λaC aD H I=> ?_
 obtain⟨hB,b,d,a⟩:=H.k4 hB b d a
 obtain rfl:=I
 refine Zv (eR rfl)<|ZX rfl (λr=> ?_) λr=> ?_
 refine Zs<|Zs<|Zs<|Zb rfl<|Zb rfl<|Zs<|Zs<|Zs<|Zb rfl<|Zb rfl<|Zs<|Zs<|Zs<|Zb rfl ?_
 refine Zb rfl<|Zs<|Zs<|Zs<|Zb rfl<|ct<|cQ rfl ?_
 have hno:¬(dt S=true∧ot b0 b1):=λh=>by rw[kZ r]at h;exact Bool.noConfusion h.1
 refine Zr<|Zv (jR)<|Zy (cA rfl rfl fq rfl a rfl rfl λaE J K=> ?_)
 replace hB:=Zg hB J j
 replace a:=K
 refine ZZ rfl<|Zt<|eh rfl fq a rfl (v1:= .int .i64 1) rfl ⟨hB,?_⟩
 rw[if_neg hno]
 refine Zf rfl wc<|Zl rfl cR d rfl<|Zv (dq rfl rfl)<|Zb rfl<|ZX rfl (λL=> ?_) λL=> ?_
 refine Zs<|Zs<|Zs<|Zb rfl<|Zb rfl<|Zs<|Zs<|Zs<|Zb rfl<|Zb rfl<|Zs<|Zs<|Zs<|Zb rfl ?_
 refine ct<|cQ rfl ?_
 have hno:¬(dt S=true∧ot b0 b1):=λh=>by have:=h.2;unfold ot at this;omega
 refine Zr<|Zv (jR)<|Zy (cA rfl rfl fq rfl a rfl rfl λaF M N=> ?_)
 replace hB:=Zg hB M j
 replace a:=N
 refine ZZ rfl<|Zt<|eh rfl fq a rfl (v1:= .int .i64 1) rfl ⟨hB,?_⟩
 rw[if_neg hno]
 refine Zf rfl wc<|Zl rfl cR d rfl<|Zv (iG rfl rfl)<|Zb rfl<|ZX rfl (λO=> ?_) λO=> ?_
 refine Zs<|Zs<|Zs<|Zb rfl<|Zb rfl<|Zs<|Zs<|Zs<|Zb rfl<|ct<|cQ rfl ?_
 have hno:¬(dt S=true∧ot b0 b1):=λh=>by have:=h.2;unfold ot at this;omega
 refine Zr<|Zv (jR)<|Zy (cA rfl rfl fq rfl a rfl rfl λaG P Q=> ?_)
 replace hB:=Zg hB P j
 replace a:=Q
 refine ZZ rfl<|Zt<|eh rfl fq a rfl (v1:= .int .i64 1) rfl ⟨hB,?_⟩
 rw[if_neg hno]
 refine Zf rfl nC<|Zl rfl cR d rfl<|Zv (dq rfl rfl)<|Zb rfl<|ZX rfl (λU=> ?_) λU=> ?_
 refine Zs<|Zs<|Zs<|Zb rfl<|ct<|cQ rfl ?_
 have hno:¬(dt S=true∧ot b0 b1):=λh=>by have:=h.2;unfold ot at this;omega
 refine Zr<|Zv (jR)<|Zy (cA rfl rfl fq rfl a rfl rfl λaH V W=> ?_)
 replace hB:=Zg hB V j
 replace a:=W
 refine ZZ rfl<|Zt<|eh rfl fq a rfl (v1:= .int .i64 1) rfl ⟨hB,?_⟩
 rw[if_neg hno]
 refine Zf rfl nC<|Zl rfl cR d rfl<|Zv (iG rfl rfl)<|Zb rfl<|ct<|ZQ rfl (λX=> ?_) λX=> ?_
 have hno:¬(dt S=true∧ot b0 b1):=λh=>by have:=h.2;unfold ot at this;omega
 refine Zr<|Zv (jR)<|Zy (cA rfl rfl fq rfl a rfl rfl λaI Y Z=> ?_)
 replace hB:=Zg hB Y j
 replace a:=Z
 refine ZZ rfl<|Zt<|eh rfl fq a rfl (v1:= .int .i64 1) rfl ⟨hB,?_⟩
 rw[if_neg hno]
 refine cx ?_
 have hr:dt S=true:=mN r
 have hm:ot b0 b1:=⟨⟨by omega,by omega⟩,by omega,by omega⟩
 obtain⟨R,T,rfl,rfl,hbd⟩:=WH hm
 refine Zr<|Zv (cz rfl ee rfl b)<|Zv (cz rfl uY rfl d)<|ZC (vs:=[.agg #[_,_,_], .agg #[_,_]]) Sg (yY S _ _ R T _ (Below.slT hB hon) (Below.slT hB hmay) hr hbd.2.1 hbd.2.2 (hs hr).1 (hs hr).2) rfl λaJ aK aa ab=> ?_
 have ac:=(Below.size hB)
 obtain⟨hB,b,d,a⟩:=aa.k4 hB b d a
 obtain⟨x3_2,how3_2,sp3_2,e3_2,Rr3_2,rfl,e,hfo3_2⟩:=ab
 replace e:=cH.mono e ac
 refine Zw (.tuple #[.agg #[x3_2, .int .i64 how3_2, .int .i64 0, .int .i64 sp3_2], .int .i64 e3_2]) rfl<|Zv (cZ rfl)<|Zv (c7 rfl)<|Zy (cK rL rfl λaL aM z ad g=> ?_)
 have ae:=ZO z hB
 have af:=Zn z a.lt
 obtain⟨hB,b,d,a,e⟩:=ad.k5 hB b d a e
 refine Zy (cK WO rfl λk aN ag ah f=> ?_)
 have ai:=ZO ag hB
 obtain⟨hB,b,d,a,e,g⟩:=ah.k6 hB b d a e g
 refine Zy (cA rfl rfl fq rfl g rfl (by exact rf (cH.one e)) λaO l aj=> ?_)
 replace hB:=Zg hB l ae
 replace b:=At.grownAt b g l Dd
 replace d:=At.grownAt d g l Dd
 replace a:=At.grownNe a af l
 replace e:=cH.grownAt e g l Dd
 replace f:=At.grownAt f g l Dd
 replace g:=aj
 refine Zy (db (v:= .int .i64 e3_2) rfl rfl fe rfl f K1 λaP m ak=> ?_)
 replace hB:=Zg hB m ai
 replace b:=At.grownAt b f m Dd
 replace d:=At.grownAt d f m Dd
 replace a:=At.grownAt a f m Dd
 replace e:=cH.grownAt e f m Dd
 replace g:=At.grownAt g f m Dd
 replace f:=ak
 replace f:At _ _ #[_] _:=f
 refine ct<|Zr<|Zv (eS (vs:= #[.pointer (some ⟨i,0,none⟩), .pointer (some ⟨k,0,none⟩)]) AO)<|Zw (.func (.func 102) #[] #[.pointer (some ⟨i,0,none⟩), .pointer (some ⟨k,0,none⟩)]) rfl<|ct<|Zq<|Zr<|ZL (.int .i64 e3_2) rfl fe f rfl<|ct<|cy<|Zr<|Zv (dJ rfl rfl)<|Zb rfl<|ct ?_
 refine ZQ rfl (λs=> ?_) λs=> ?_
 refine Zr<|Zv (cz rfl fq rfl g)<|Zy (cA rfl rfl fq rfl a rfl (by exact rf (cH.one e)) λaQ A al=> ?_)
 replace hB:=Zg hB A j
 replace e:=cH.grownAt e a A Dd
 replace a:=al
 refine ZZ rfl<|Zt<|eh rfl fq a rfl (v1:= .int .i64 0) rfl ⟨hB,?_⟩
 (rw[if_pos ⟨hr,hm⟩];exact⟨_,_,_,_,_,rfl,e,Z4 hfo3_2 s⟩)
 refine Zr<|Zv (dJ rfl rfl)<|Zb rfl<|ct<|ZQ rfl (λt=> ?_) λt=> ?_
 have u:=Below.slT hB hon
 have y:=Below.slT hB hmay
 refine Zr<|Zw (.func (.func 102) #[] #[.pointer (some ⟨i,0,none⟩), .pointer (some ⟨k,0,none⟩)]) rfl<|Zf rfl nC<|Zl rfl cR d rfl ?_
 refine oI (dd:=some 49) rfl rfl rfl (ip (q:=102) (first:= #[]) (cap:= #[.pointer (some ⟨i,0,none⟩), .pointer (some ⟨k,0,none⟩)]) (vs:= #[.int .i64 _, .pointer (some ⟨i,0,none⟩), .pointer (some ⟨k,0,none⟩)]) rfl JY GD) (nR S _ _ _ _ _ _ _ u y hr b f) (λaR aS ao ap=> ?_)
 have aq:=(Below.size hB)
 obtain⟨hB,a⟩:=ao.k2 hB a
 obtain⟨x9_3,rfl,o⟩:=ap
 replace o:=cH.mono o aq
 refine Zv (cZ rfl)<|Zv (c7 rfl)<|Zy (cA rfl rfl fq rfl a rfl (by exact rf (cH.one o)) λaT B ar=> ?_)
 replace hB:=Zg hB B j
 replace o:=cH.grownAt o a B Dd
 replace a:=ar
 refine ZZ rfl<|Zt<|eh rfl fq a rfl (v1:= .int .i64 0) rfl ⟨hB,?_⟩
 (rw[if_pos ⟨hr,hm⟩];exact⟨_,_,_,_,_,rfl,o,aaE hfo3_2 t⟩)
 refine cx ?_
 have u:=Below.slT hB hon
 have y:=Below.slT hB hmay
 refine Zr<|Zw (.func (.func 102) #[] #[.pointer (some ⟨i,0,none⟩), .pointer (some ⟨k,0,none⟩)]) rfl ?_
 refine oI (dd:=some 53) rfl rfl rfl (ip (q:=102) (first:= #[]) (cap:= #[.pointer (some ⟨i,0,none⟩), .pointer (some ⟨k,0,none⟩)]) (vs:= #[.int .i64 0, .pointer (some ⟨i,0,none⟩), .pointer (some ⟨k,0,none⟩)]) rfl JY GD) (nR S _ _ _ _ _ _ _ u y hr b f) (λaU aV au av=> ?_)
 have aw:=(Below.size hB)
 obtain⟨hB,a⟩:=au.k2 hB a
 obtain⟨x10_1,rfl,p⟩:=av
 replace p:=cH.mono p aw
 refine Zv (cZ rfl)<|Zv (c7 rfl)<|Zy (cA rfl rfl fq rfl a rfl (by exact rf (cH.one p)) λaW C ax=> ?_)
 replace hB:=Zg hB C j
 replace p:=cH.grownAt p a C Dd
 replace a:=ax
 refine ZZ rfl<|Zt<|eh rfl fq a rfl (v1:= .int .i64 0) rfl ⟨hB,?_⟩
 (rw[if_pos ⟨hr,hm⟩];exact⟨_,_,_,_,_,rfl,p,X7 hfo3_2 s t⟩)
end
section
open Go Go.RowKit
section
variable {Tj Ti T:TypeId} {N N' bj b:Nat} {w w':World} {c cj:Array Value}
theorem acX (hX:Dx Tj N [bj] w w') (hj:At w bj cj Tj) (k:At w b c T) (hT:T≠Tj):At w' b c T:=by
 have hne:=ac6 k hj hT
 unfold At at*
 rw[hX.block b (gQ k) (.inr ⟨by simpa using hne,λc' fr e=>by rw[k]at e;simp at e;exact hT e.2.1⟩)]
 exact k
theorem acW {α:Type} {enc:α→List Value} {sz:Nat} {v:Value} {l:List α} (hX:Dx Tj N [bj] w w') (hj:At w bj cj Tj) (ho:cH enc sz T w N' v l) (hT:T≠Tj):cH enc sz T w' N' v l:=by
 obtain⟨q1,q2|⟨g,cap,cur,q3,hg,hh,q⟩⟩:=ho
 ·exact⟨q1, .inl q2⟩
 ·exact⟨q1, .inr ⟨g,cap,cur,q3,hg,acX (c:=cur) hX hj hh hT,q⟩⟩
theorem f6.dxj {vs:List AA} {ls:List Ln} (hX:Dx Tj N [bj] w w') (hj:At w bj cj Tj) (k:f6 Ti N' w vs ls) (hT:Ti≠Tj):f6 Ti N' w' vs ls:=⟨k.len,k.c,λi hi=>acW hX hj (k.o i hi) hT⟩
theorem lc.mono {P:Program} {g:Nat} {vs:Array Value} {w:World} {Post Post':Value→World→Prop} (h:lc P g vs w Post) (hp:∀v w',Post v w'→Post' v w'):lc P g vs w Post':=
 ⟨Calls.mono h.out λ_ _ ⟨v,he,hq⟩=>⟨v,he,hp _ _ hq⟩⟩
theorem At.dxk {xs:List Nat} (hX:Dx Tj N xs w w') (k:At w b c T) (hb:b∉xs) (hT:T≠Tj):At w' b c T:=by
 unfold At at*
 rw[hX.block b (gQ k) (.inr ⟨hb,λc' fr e=>by rw[k]at e;simp at e;exact hT e.2.1⟩)]
 exact k
theorem At.dx2 {bg:Nat} {cg:Array Value} {Tg:TypeId} (hX:Dx Tj N [bj,bg] w w') (hj:At w bj cj Tj) (hg:At w bg cg Tg) (k:At w b c T) (hT:T≠Tj) (hT2:T≠Tg):At w' b c T:=by
 have h1:=ac6 k hj hT
 have h2:=ac6 k hg hT2
 exact At.dxk hX k (by simp[h1,h2]) hT
theorem cH.dx2 {α:Type} {enc:α→List Value} {sz:Nat} {v:Value} {l:List α} {bg:Nat} {cg:Array Value} {Tg:TypeId} (hX:Dx Tj N [bj,bg] w w') (hj:At w bj cj Tj) (hg:At w bg cg Tg) (ho:cH enc sz T w N' v l) (hT:T≠Tj) (hT2:T≠Tg):cH enc sz T w' N' v l:=by
 obtain⟨q1,q2|⟨g,cap,cur,q3,hg',hh,q⟩⟩:=ho
 ·exact⟨q1, .inl q2⟩
 ·exact⟨q1, .inr ⟨g,cap,cur,q3,hg',At.dx2 (c:=cur) hX hj hg hh hT hT2,q⟩⟩
theorem Dx.below2 {T':TypeId} {xs:List Nat} (h:Dx T' N xs w w') (hN:N≤w.heap.size):Go.RowKit.Below N w w':=Below.dx (Go.RowKit.Below.refl N w) (am _) hN h
theorem abZ {T':TypeId} (h:w.grownBy w' (some bj)) (hN:N≤bj):Dx T' N [bj] w w':=Dx.grown h fD hN
end
structure D4 (b K:Nat) (w w':World):Prop where
 g:w.grownBy w' (some b)
 keep:∀c T,At w b c T→∃c',At w' b c' T∧∀o,o<K→c'[o]? =c[o]?
section
variable {b K o:Nat} {w w' w0:World} {c:Array Value} {T:TypeId} {v:Value}
theorem D4.refl:D4 b K w w:=⟨World.grownBy.refl _ _,λc T h=>⟨c,h,λ_ _=>rfl⟩⟩
theorem ac5 (h:D4 b K w0 w) (k:At w b c T) (hG:w.grownBy w' (some b)) (k':At w' b (c.setIfInBounds o v) T) (ho:K≤o):D4 b K w0 w':=⟨cB h.g hG,λc0 T0 k0=>by
 obtain⟨c1,h1,h2⟩:=h.keep c0 T0 k0
 have e:c1=c∧T0=T:=by
  unfold At at h1 k
  rw[h1]at k
  simp at k
  exact k
 obtain⟨rfl,rfl⟩:=e
 exact⟨_,k',λq hq=>by rw[ab9 (by omega)];exact h2 q hq⟩⟩
theorem D4.cell (h:D4 b K w0 w) (k:At w0 b c T) (ho:o<K) (hc:c[o]? =some v):w.cell? ⟨b,o,none⟩=some v:=by
 obtain⟨c',h1,h2⟩:=h.keep c T k
 exact At.cell h1 (by rw[h2 o ho];exact hc)
end
def ZR (q0 q1 q2 q3 q4:Nat):Nat→Nat
 |0=>q0|1=>q1|2=>q2|3=>q3|_=>q4
def cF5 (c0 c1 c2 c3 c4:Array Value):Nat→Array Value
 |0=>c0|1=>c1|2=>c2|3=>c3|_=>c4
def QL (q0 q1 q2 q3 q4:Nat) (c0 c1 c2 c3 c4:Array Value):List Value:=[.func (.func q0) #[] c0, .func (.func q1) #[] c1, .func (.func q2) #[] c2, .func (.func q3) #[] c3, .func (.func q4) #[] c4]
section
variable {P:Program} {q0 q1 q2 q3 q4 k:Nat} {c0 c1 c2 c3 c4:Array Value}
theorem Kc (hk:k<5):(QL q0 q1 q2 q3 q4 c0 c1 c2 c3 c4).getD k undef= .func (.func (ZR q0 q1 q2 q3 q4 k)) #[] (cF5 c0 c1 c2 c3 c4 k):=by
 match k,hk with
 |0,_|1,_|2,_|3,_|4,_=>rfl
theorem fB5 (h0:cX P q0=true) (h1:cX P q1=true) (h2:cX P q2=true) (h3:cX P q3=true) (h4:cX P q4=true):cX P (ZR q0 q1 q2 q3 q4 k)=true:=by
 match k with
 |0=>exact h0
 |1=>exact h1
 |2=>exact h2
 |3=>exact h3
 |_+4=>exact h4
end
theorem Yy (u0 u1 u2 u3 u4:Value) (z:Array Value) (h0:u0.cells= #[u0]) (h1:u1.cells= #[u1]) (h2:u2.cells= #[u2]) (h3:u3.cells= #[u3]) (h4:u4.cells= #[u4]) (hz:z.size=5):Instr.fill (λi=>some (i*1,1)) z [(0,u0),(1,u1),(2,u2),(3,u3),(4,u4)]=some #[u0,u1,u2,u3,u4]:=by
 rw[fS 1 0 u0 _ z (by rw[h0];rfl) (by omega),fS 1 1 u1 _ _ (by rw[h1];rfl) (by simp[h0];omega),fS 1 2 u2 _ _ (by rw[h2];rfl) (by simp[h0,h1];omega),fS 1 3 u3 _ _ (by rw[h3];rfl) (by simp[h0,h1,h2];omega),fS 1 4 u4 _ _ (by rw[h4];rfl) (by simp[h0,h1,h2,h3];omega),Instr.fill,h0,h1,h2,h3,h4]
 obtain⟨l⟩:=z
 match l,hz with
 |[a,b,c,d,e],_=>simp
section
variable {P:Program} {f:Nat→Value} {w w':World} {d:Option Nat} {ty:TypeId} {ps:String} {af:Array Edge} {g:Option (Nat×Bool)} {t e T:TypeId} {by_ N b:Nat} {K:Value→World→Prop}
theorem Nr {x0 x1 x2 x3 x4:Operand} {u0 u1 u2 u3 u4:Value} (hx0:dk f x0=u0) (hx1:dk f x1=u1) (hx2:dk f x2=u2) (hx3:dk f x3=u3) (hx4:dk f x4=u4) (hT:fl P t=some (e,1,by_)) (hz:(dW P e).map (λz=>z.cells.size)=some 1) (h0:u0.cells= #[u0]) (h1:u1.cells= #[u1]) (h2:u2.cells= #[u2]) (h3:u3.cells= #[u3]) (h4:u4.cells= #[u4])
  (hK:∀b w',b=w.heap.size→dC w w'→At w' b #[u0,u1,u2,u3,u4] e→K (.slice (some ⟨b,0,none⟩) 5 5) w'):Yd P ⟨d, .buildSlice t 5 #[(0,x0),(1,x1),(2,x2),(3,x3),(4,x4)],ty,ps,af,g⟩ f w K:=by
 obtain⟨z,hz,hzs⟩:=an.1 hz
 unfold dW at hz
 obtain⟨i,hi,hzz⟩:=Do.1 hz
 unfold fl at hT
 cases hun:P.underlying t with
 |none=>simp[hun]at hT
 |some desc=>
  cases desc<;>simp[hun]at hT
  rename_i e'
  obtain⟨i',hi',rfl,q1,rfl⟩:=hT
  obtain rfl:i'=i:=by rw[hi]at hi';exact(aaY hi').symm
  refine .val (w':=w.alloc (.cells #[u0,u1,u2,u3,u4] e')) ?_ (hK w.heap.size _ rfl (dC.alloc w _) (lR w _ _))
  have hf:=Yy u0 u1 u2 u3 u4 ((Array.range (5*1)).map (z.cells[·%z.cells.size]!)) h0 h1 h2 h3 h4 fD
  simp only[ab4]at hf
  simp[execOp,hx0,hx1,hx2,hx3,hx4,Instr.buildSlice,run_underlying hun,sizeOf,typeInfo,hi,q1,zeroValue,hzz,newRow,hf]
theorem ER {f0 f1 f2 f3 f4:Value} (k:At w b #[f0,f1,f2,f3,f4] T) (hN:N≤b):cH encV 1 T w N (.slice (some ⟨b,0,none⟩) 5 5) [f0,f1,f2,f3,f4]:=
 ⟨rfl, .inr ⟨b,5,_,rfl,hN,k,am _,by decide,rfl,rfl⟩⟩
end
end
section
open Go Go.RowKit
theorem dE:eJ Tryz.prog 125=true:=by kernel_rfl
theorem GX:cX Tryz.prog 15=true:=by kernel_rfl
theorem mj:d5 Tryz.prog 127 0=some 0:=by kernel_rfl
theorem zT:d5 Tryz.prog 127 5=some 19:=by kernel_rfl
theorem eZ:d5 Tryz.prog 127 6=some 20:=by kernel_rfl
theorem jZ:d5 Tryz.prog 127 1=some 4:=by kernel_rfl
theorem HL:cX Tryz.prog 25=true:=by kernel_rfl
theorem j7:d5 Tryz.prog 127 2=some 8:=by kernel_rfl
theorem VH:cX Tryz.prog 38=true:=by kernel_rfl
theorem mh:d5 Tryz.prog 127 3=some 11:=by kernel_rfl
theorem Nk:cX Tryz.prog 39=true:=by kernel_rfl
theorem VC:cX Tryz.prog 14=true:=by kernel_rfl
theorem oa:d5 Tryz.prog 127 4=some 15:=by kernel_rfl
theorem sj:d5 Tryz.prog 52 0=some 0:=by kernel_rfl
theorem Ei (N bj bp:Nat) (bt:Nat) (s:List UInt8) (w:World) (hN0:N≤w.heap.size) (hgl:∀W,Below N w W→Gl W) (hbp:At w bp #[.pointer (some ⟨bj,0,none⟩)] 125) (loj:N≤bj) (hbj:At w bj #[.int .i64 0, .int .i64 0, .int .i64 0, .slice none 0 0, .int .i64 0, .int .i64 0, .int .i64 0, .slice none 0 0, .int .i64 0, .slice none 0 0, .slice none 0 0, .slice none 0 0, .int .i64 0, .int .i64 0, .int .i64 0, .string ⟨#[]⟩, .int .i64 0, .int .i64 0, .int .i64 0, .int .i64 0, .int .i64 0] 127) (hbt:At w bt #[dY s] 9) (hsl:s.length≤100000):
    lc Tryz.prog 69 #[.pointer (some ⟨bt,0,none⟩), .pointer (some ⟨bp,0,none⟩)] w λv w'=>Dx 127 N [bj] w w'∧(∃lv vs,At w' bj #[.int .i64 (cF s).1.kind, .int .i64 (cF s).1.ni, .int .i64 (cF s).1.no,lv, .int .i64 0, .int .i64 0, .int .i64 0, .slice none 0 0, .int .i64 0, .slice none 0 0, .slice none 0 0, .slice none 0 0, .int .i64 0, .int .i64 0, .int .i64 0, .string ⟨#[]⟩, .int .i64 0, .int .i64 0, .int .i64 0, .int .i64 ((cF s).2.1:Int), .int .i64 (cF s).2.2] 127∧cH ik 3 37 w' N lv vs∧f6 3 N w' vs (cF s).1.ls):=by
 refine dK (n:=17) (N:=N) Tryz.func69 rfl rfl rfl λhB=> ?_
 have hX:Dx 127 N [bj] w w:=Dx.refl
 refine eP (λa b=>a.grownBy b (some bj)) fC (λW1 j=> ?_)
 obtain⟨hbp,hbj,hbt,hX⟩:=j.k4 hbp hbj hbt hX
 replace hB:=cW hB j hN0
 have g:=hbj
 have hS:=World.grownBy.refl W1 (some bj)
 refine Tk 0 rfl (λ_ hq=>cD (v:= .pointer (some ⟨bj,0,none⟩)) rfl dE (At.cell (At.grownAt hbp g hq Dd) rfl)) hS<|Tk 1 rfl (λ_ hq=>cD (v:= .pointer (some ⟨bj,0,none⟩)) rfl dE (At.cell (At.grownAt hbp g hq Dd) rfl)) hS<|Tk 2 rfl (λ_ hq=>cD (v:= .pointer (some ⟨bj,0,none⟩)) rfl dE (At.cell (At.grownAt hbp g hq Dd) rfl)) hS<|Tk 3 rfl (λ_ hq=>cD (v:=dY s) rfl kM (At.cell (At.grownAt hbt g hq Dd) rfl)) hS<|To 4 rfl (TC GX (rm s _ (hgl _ hB) hsl) rfl λr W4 i l=>⟨.inl (cB hS (dC.grown i (some bj))),?_⟩)
 have k:=(go hN0 (Below.size hB))
 obtain⟨hbj,hX⟩:=i.k2 hbj hX
 replace hS:=cB hS (dC.grown i (some bj))
 obtain⟨m,t,rfl,c,d⟩:=l
 replace c:=cH.mono c k
 replace d:=f6.mono d k
 refine Tw 5 (.tuple #[.agg #[.int .i64 _, .int .i64 _, .int .i64 _,m], .int .i64 _, .int .i64 _]) rfl rfl hS<|Tk 6 rfl (λ_ _=>gR rfl) hS<|Tk 7 rfl (λ_ _=>jm rfl) hS<|Tk 8 rfl (λ_ _=>iQ rfl) hS<|Tc 9 rfl rfl hS<|Tf 10 rfl rfl mj hS<|To 11 rfl (iO rfl rfl dX rfl hbj xz (by exact qv (dp.one (cH.sl c))) λW8 e o=>⟨.inl (cB hS e),?_⟩)
 replace hS:=cB hS e
 replace hX:=Dx.trans hX (abZ e loj)
 replace c:=cH.grownAt c hbj e Dd
 replace d:=f6.grownAt d hbj e Dd
 replace hbj:=o
 replace hbj:At _ _ #[_,_,_,_,_,_,_,_,_,_,_,_,_,_,_,_,_,_,_,_,_] _:=hbj
 refine Tc 12 rfl rfl hS<|Tf 13 rfl rfl zT hS<|To 14 rfl (db (v:= .int .i64 _) rfl rfl cR rfl hbj fD λu f p=>⟨.inl (cB hS f),?_⟩)
 replace hS:=cB hS f
 replace hX:=Dx.trans hX (abZ f loj)
 replace c:=cH.grownAt c hbj f Dd
 replace d:=f6.grownAt d hbj f Dd
 replace hbj:=p
 replace hbj:At _ _ #[_,_,_,_,_,_,_,_,_,_,_,_,_,_,_,_,_,_,_,_,_] _:=hbj
 refine Tc 15 rfl rfl hS<|Tf 16 rfl rfl eZ hS<|To 17 rfl (db (v:= .int .i64 _) rfl rfl fe rfl hbj fD λx h q=>⟨.inl (cB hS h),?_⟩)
 replace hX:=Dx.trans hX (abZ h loj)
 replace c:=cH.grownAt c hbj h Dd
 replace d:=f6.grownAt d hbj h Dd
 replace hbj:=q
 replace hbj:At _ _ #[_,_,_,_,_,_,_,_,_,_,_,_,_,_,_,_,_,_,_,_,_] _:=hbj
 refine Td ?_
 repeat (first|refine eN ?_|refine ex ?_)
 refine eq ?_
 repeat (first|refine d9 ?_|refine dO ?_)
 refine oe ?_
 exact⟨hX,_,_,hbj,c,d⟩
theorem Bf (N bj bp:Nat) (bt:Nat) (s:List UInt8) (w:World) (hN0:N≤w.heap.size) (hgl:∀W,Below N w W→Gl W) (hbp:At w bp #[.pointer (some ⟨bj,0,none⟩)] 125) (loj:N≤bj) (hbj:At w bj #[.int .i64 0, .int .i64 0, .int .i64 0, .slice none 0 0, .int .i64 0, .int .i64 0, .int .i64 0, .slice none 0 0, .int .i64 0, .slice none 0 0, .slice none 0 0, .slice none 0 0, .int .i64 0, .int .i64 0, .int .i64 0, .string ⟨#[]⟩, .int .i64 0, .int .i64 0, .int .i64 0, .int .i64 0, .int .i64 0] 127) (hbt:At w bt #[dY s] 9) (hsl:s.length≤100000):
    lc Tryz.prog 74 #[.pointer (some ⟨bt,0,none⟩), .pointer (some ⟨bp,0,none⟩)] w λv w'=>Dx 127 N [bj] w w'∧(∃lv vs,At w' bj #[.int .i64 (cF s).1.kind, .int .i64 (cF s).1.ni, .int .i64 (cF s).1.no,lv, .int .i64 0, .int .i64 0, .int .i64 0, .slice none 0 0, .int .i64 0, .slice none 0 0, .slice none 0 0, .slice none 0 0, .int .i64 0, .int .i64 0, .int .i64 0, .string ⟨#[]⟩, .int .i64 0, .int .i64 0, .int .i64 0, .int .i64 0, .int .i64 (cF s).2.2] 127∧cH ik 3 37 w' N lv vs∧f6 3 N w' vs (cF s).1.ls):=by
 refine dK (n:=14) (N:=N) Tryz.func74 rfl rfl rfl λhB=> ?_
 have hX:Dx 127 N [bj] w w:=Dx.refl
 refine eP (λa b=>a.grownBy b (some bj)) fC (λW1 i=> ?_)
 obtain⟨hbp,hbj,hbt,hX⟩:=i.k4 hbp hbj hbt hX
 replace hB:=cW hB i hN0
 have g:=hbj
 have hS:=World.grownBy.refl W1 (some bj)
 refine Tk 0 rfl (λ_ hq=>cD (v:= .pointer (some ⟨bj,0,none⟩)) rfl dE (At.cell (At.grownAt hbp g hq Dd) rfl)) hS<|Tk 1 rfl (λ_ hq=>cD (v:= .pointer (some ⟨bj,0,none⟩)) rfl dE (At.cell (At.grownAt hbp g hq Dd) rfl)) hS<|Tk 2 rfl (λ_ hq=>cD (v:=dY s) rfl kM (At.cell (At.grownAt hbt g hq Dd) rfl)) hS<|To 3 rfl (TC GX (rm s _ (hgl _ hB) hsl) rfl λp W4 h k=>⟨.inl (cB hS (dC.grown h (some bj))),?_⟩)
 have j:=(go hN0 (Below.size hB))
 obtain⟨hbj,hX⟩:=h.k2 hbj hX
 replace hS:=cB hS (dC.grown h (some bj))
 obtain⟨l,q,rfl,c,d⟩:=k
 replace c:=cH.mono c j
 replace d:=f6.mono d j
 refine Tw 4 (.tuple #[.agg #[.int .i64 _, .int .i64 _, .int .i64 _,l], .int .i64 _, .int .i64 _]) rfl rfl hS<|Tk 5 rfl (λ_ _=>gR rfl) hS<|Tk 6 rfl (λ_ _=>jm rfl) hS<|Tk 7 rfl (λ_ _=>iQ rfl) hS<|Tc 8 rfl rfl hS<|Tf 9 rfl rfl mj hS<|To 10 rfl (iO rfl rfl dX rfl hbj xz (by exact qv (dp.one (cH.sl c))) λW8 e m=>⟨.inl (cB hS e),?_⟩)
 replace hS:=cB hS e
 replace hX:=Dx.trans hX (abZ e loj)
 replace c:=cH.grownAt c hbj e Dd
 replace d:=f6.grownAt d hbj e Dd
 replace hbj:=m
 replace hbj:At _ _ #[_,_,_,_,_,_,_,_,_,_,_,_,_,_,_,_,_,_,_,_,_] _:=hbj
 refine Tc 11 rfl rfl hS<|Tf 12 rfl rfl eZ hS<|To 13 rfl (db (v:= .int .i64 _) rfl rfl fe rfl hbj fD λr f o=>⟨.inl (cB hS f),?_⟩)
 replace hX:=Dx.trans hX (abZ f loj)
 replace c:=cH.grownAt c hbj f Dd
 replace d:=f6.grownAt d hbj f Dd
 replace hbj:=o
 replace hbj:At _ _ #[_,_,_,_,_,_,_,_,_,_,_,_,_,_,_,_,_,_,_,_,_] _:=hbj
 refine Td ?_
 repeat (first|refine eN ?_|refine ex ?_)
 refine eq ?_
 repeat (first|refine d9 ?_|refine dO ?_)
 refine oe ?_
 exact⟨hX,_,_,hbj,c,d⟩
theorem AK (N bj bp:Nat) (bt:Nat) (s:List UInt8) (t0 t1 t2 t3 s0 s1 s2:Value) (w:World) (hN0:N≤w.heap.size) (hgl:∀W,Below N w W→Gl W) (hbp:At w bp #[.pointer (some ⟨bj,0,none⟩)] 125) (loj:N≤bj) (hbj:At w bj #[t0,t1,t2,t3, .int .i64 0, .int .i64 0, .int .i64 0, .slice none 0 0,s0,s1,s2, .slice none 0 0, .int .i64 0, .int .i64 0, .int .i64 0, .string ⟨#[]⟩, .int .i64 0, .int .i64 0, .int .i64 0, .int .i64 0, .int .i64 0] 127) (hbt:At w bt #[dY s] 9) (hsl:s.length≤100000):
    lc Tryz.prog 76 #[.pointer (some ⟨bt,0,none⟩), .pointer (some ⟨bp,0,none⟩)] w λv w'=>Dx 127 N [bj] w w'∧(∃lv vs,At w' bj #[t0,t1,t2,t3, .int .i64 (cF s).1.kind, .int .i64 (cF s).1.ni, .int .i64 (cF s).1.no,lv,s0,s1,s2, .slice none 0 0, .int .i64 0, .int .i64 0, .int .i64 0, .string ⟨#[]⟩, .int .i64 0, .int .i64 0, .int .i64 0, .int .i64 0, .int .i64 (cF s).2.2] 127∧cH ik 3 37 w' N lv vs∧f6 3 N w' vs (cF s).1.ls):=by
 refine dK (n:=14) (N:=N) Tryz.func76 rfl rfl rfl λhB=> ?_
 have hX:Dx 127 N [bj] w w:=Dx.refl
 refine eP (λa b=>a.grownBy b (some bj)) fC (λW1 i=> ?_)
 obtain⟨hbp,hbj,hbt,hX⟩:=i.k4 hbp hbj hbt hX
 replace hB:=cW hB i hN0
 have g:=hbj
 have hS:=World.grownBy.refl W1 (some bj)
 refine Tk 0 rfl (λ_ hq=>cD (v:= .pointer (some ⟨bj,0,none⟩)) rfl dE (At.cell (At.grownAt hbp g hq Dd) rfl)) hS<|Tk 1 rfl (λ_ hq=>cD (v:= .pointer (some ⟨bj,0,none⟩)) rfl dE (At.cell (At.grownAt hbp g hq Dd) rfl)) hS<|Tk 2 rfl (λ_ hq=>cD (v:=dY s) rfl kM (At.cell (At.grownAt hbt g hq Dd) rfl)) hS<|To 3 rfl (TC GX (rm s _ (hgl _ hB) hsl) rfl λp W4 h k=>⟨.inl (cB hS (dC.grown h (some bj))),?_⟩)
 have j:=(go hN0 (Below.size hB))
 obtain⟨hbj,hX⟩:=h.k2 hbj hX
 replace hS:=cB hS (dC.grown h (some bj))
 obtain⟨l,q,rfl,c,d⟩:=k
 replace c:=cH.mono c j
 replace d:=f6.mono d j
 refine Tw 4 (.tuple #[.agg #[.int .i64 _, .int .i64 _, .int .i64 _,l], .int .i64 _, .int .i64 _]) rfl rfl hS<|Tk 5 rfl (λ_ _=>gR rfl) hS<|Tk 6 rfl (λ_ _=>jm rfl) hS<|Tk 7 rfl (λ_ _=>iQ rfl) hS<|Tc 8 rfl rfl hS<|Tf 9 rfl rfl jZ hS<|To 10 rfl (iO rfl rfl dX rfl hbj xz (by exact qv (dp.one (cH.sl c))) λW8 e m=>⟨.inl (cB hS e),?_⟩)
 replace hS:=cB hS e
 replace hX:=Dx.trans hX (abZ e loj)
 replace c:=cH.grownAt c hbj e Dd
 replace d:=f6.grownAt d hbj e Dd
 replace hbj:=m
 replace hbj:At _ _ #[_,_,_,_,_,_,_,_,_,_,_,_,_,_,_,_,_,_,_,_,_] _:=hbj
 refine Tc 11 rfl rfl hS<|Tf 12 rfl rfl eZ hS<|To 13 rfl (db (v:= .int .i64 _) rfl rfl fe rfl hbj fD λr f o=>⟨.inl (cB hS f),?_⟩)
 replace hX:=Dx.trans hX (abZ f loj)
 replace c:=cH.grownAt c hbj f Dd
 replace d:=f6.grownAt d hbj f Dd
 replace hbj:=o
 replace hbj:At _ _ #[_,_,_,_,_,_,_,_,_,_,_,_,_,_,_,_,_,_,_,_,_] _:=hbj
 refine Td ?_
 repeat (first|refine eN ?_|refine ex ?_)
 refine eq ?_
 repeat (first|refine d9 ?_|refine dO ?_)
 refine oe ?_
 exact⟨hX,_,_,hbj,c,d⟩
theorem Fj (N bj bp:Nat) (T:Tb) (lv:Value) (vs:List AA) (ln:Int) (w:World) (hN0:N≤w.heap.size) (hgl:∀W,Below N w W→Gl W) (hbp:At w bp #[.pointer (some ⟨bj,0,none⟩)] 125) (loj:N≤bj) (hbj:At w bj #[.int .i64 T.kind, .int .i64 T.ni, .int .i64 T.no,lv, .int .i64 0, .int .i64 0, .int .i64 0, .slice none 0 0, .int .i64 0, .slice none 0 0, .slice none 0 0, .slice none 0 0, .int .i64 0, .int .i64 0, .int .i64 0, .string ⟨#[]⟩, .int .i64 0, .int .i64 0, .int .i64 0, .int .i64 ln, .int .i64 0] 127) (hlv:cH ik 3 37 w N lv (vs)) (hls:f6 3 N w vs T.ls) (hmb:∀i,i<T.ls.length→(T.ls.getD i jE).c.m<256∧(T.ls.getD i jE).c.v<256):
    lc Tryz.prog 70 #[.pointer (some ⟨bp,0,none⟩)] w λv w'=>Dx 127 N [bj] w w'∧((oo T=0∧∃onV mayV,At w' bj #[.int .i64 T.kind, .int .i64 T.ni, .int .i64 T.no,lv, .int .i64 0, .int .i64 0, .int .i64 0, .slice none 0 0, .int .i64 T.ni,onV,mayV, .slice none 0 0, .int .i64 0, .int .i64 0, .int .i64 0, .string ⟨#[]⟩, .int .i64 0, .int .i64 0, .int .i64 0, .int .i64 ln, .int .i64 0] 127∧cH fh 4 40 w' N onV (pg T T.no.toNat)∧cH fh 4 40 w' N mayV (lK T T.no.toNat))∨(¬oo T=0∧At w' bj #[.int .i64 T.kind, .int .i64 T.ni, .int .i64 T.no,lv, .int .i64 0, .int .i64 0, .int .i64 0, .slice none 0 0, .int .i64 0, .slice none 0 0, .slice none 0 0, .slice none 0 0, .int .i64 0, .int .i64 0, .int .i64 0, .string ⟨#[]⟩, .int .i64 0, .int .i64 0, .int .i64 0, .int .i64 ln, .int .i64 (oo T)] 127)):=by
 refine dK (n:=15) (N:=N) Tryz.func70 rfl rfl rfl λhB=> ?_
 have hX:Dx 127 N [bj] w w:=Dx.refl
 refine eP (λa b=>a.grownBy b (some bj)) fC (λW1 p=> ?_)
 obtain⟨hbp,hbj,hlv,hls,hX⟩:=p.k5 hbp hbj hlv hls hX
 replace hB:=cW hB p hN0
 have j:=hbj
 have hS:=World.grownBy.refl W1 (some bj)
 refine Tk 0 rfl (λ_ hq=>cD (v:= .pointer (some ⟨bj,0,none⟩)) rfl dE (At.cell (At.grownAt hbp j hq Dd) rfl)) hS<|Tk 1 rfl (λ_ hq=>cD (v:= .pointer (some ⟨bj,0,none⟩)) rfl dE (At.cell (At.grownAt hbp j hq Dd) rfl)) hS<|Tk 2 rfl (λ_ hq=>cD (v:= .pointer (some ⟨bj,0,none⟩)) rfl dE (At.cell (At.grownAt hbp j hq Dd) rfl)) hS<|Tc 3 rfl rfl hS<|Tf 4 rfl rfl mj hS ?_
 refine iY (dd:=some 7) 5 ka rfl rfl rfl rfl (Yd.val (eQ rfl dX (At.cell hbj rfl) (At.cell hbj rfl) (At.cell hbj rfl) (At.cell hbj rfl)) ⟨.inl hS,?_⟩)
 refine To 6 rfl (TC (vs:=[.agg #[_,_,_,_]]) HL (wt T _ vs _ hlv.sl (f6.at hls) hmb) rfl λB W4 k f=>⟨.inl (cB hS (dC.grown k (some bj))),?_⟩)
 have s:=(go hN0 (Below.size hB))
 obtain⟨hbj,hX⟩:=k.k2 hbj hX
 replace hS:=cB hS (dC.grown k (some bj))
 have q:=s
 rcases f with f|f
 obtain⟨l,t,u,rfl,d,e⟩:=f
 replace d:=cH.mono d q
 replace e:=cH.mono e q
 refine Tw 7 (.tuple #[.agg #[.int .i64 _,t,u], .int .i64 0]) rfl rfl hS<|Tk 8 rfl (λ_ _=>cZ rfl) hS<|Tk 9 rfl (λ_ _=>c7 rfl) hS<|Tc 10 rfl rfl hS<|Tf 11 rfl rfl j7 hS<|To 12 rfl (iO rfl rfl ee rfl hbj xz (by exact ua (dp.one (cH.sl d)) (dp.one (cH.sl e))) λW8 g x=>⟨.inl (cB hS g),?_⟩)
 replace hS:=cB hS g
 replace hX:=Dx.trans hX (abZ g loj)
 replace d:=cH.grownAt d hbj g Dd
 replace e:=cH.grownAt e hbj g Dd
 replace hbj:=x
 replace hbj:At _ _ #[_,_,_,_,_,_,_,_,_,_,_,_,_,_,_,_,_,_,_,_,_] _:=hbj
 refine Tc 13 rfl rfl hS<|Tf 14 rfl rfl eZ hS<|To 15 rfl (db (v:= .int .i64 0) rfl rfl fe rfl hbj fD λC h y=>⟨.inl (cB hS h),?_⟩)
 replace hX:=Dx.trans hX (abZ h loj)
 replace d:=cH.grownAt d hbj h Dd
 replace e:=cH.grownAt e hbj h Dd
 replace hbj:=y
 replace hbj:At _ _ #[_,_,_,_,_,_,_,_,_,_,_,_,_,_,_,_,_,_,_,_,_] _:=hbj
 refine Td ?_
 repeat (first|refine eN ?_|refine ex ?_)
 refine eq ?_
 repeat (first|refine d9 ?_|refine dO ?_)
 refine oe ?_
 exact⟨hX, .inl ⟨l,_,_,hbj,d,e⟩⟩
 obtain⟨l,rfl⟩:=f
 refine Tw 7 (.tuple #[.agg #[.int .i64 0, .slice none 0 0, .slice none 0 0], .int .i64 _]) rfl rfl hS<|Tk 8 rfl (λ_ _=>cZ rfl) hS<|Tk 9 rfl (λ_ _=>c7 rfl) hS<|Tc 10 rfl rfl hS<|Tf 11 rfl rfl j7 hS<|To 12 rfl (iO rfl rfl ee rfl hbj xz (by exact ua rfl rfl) λD o z=>⟨.inl (cB hS o),?_⟩)
 replace hS:=cB hS o
 replace hX:=Dx.trans hX (abZ o loj)
 replace hbj:=z
 replace hbj:At _ _ #[_,_,_,_,_,_,_,_,_,_,_,_,_,_,_,_,_,_,_,_,_] _:=hbj
 refine Tc 13 rfl rfl hS<|Tf 14 rfl rfl eZ hS<|To 15 rfl (db (v:= .int .i64 _) rfl rfl fe rfl hbj fD λE r A=>⟨.inl (cB hS r),?_⟩)
 replace hX:=Dx.trans hX (abZ r loj)
 replace hbj:=A
 replace hbj:At _ _ #[_,_,_,_,_,_,_,_,_,_,_,_,_,_,_,_,_,_,_,_,_] _:=hbj
 refine Td ?_
 repeat (first|refine eN ?_|refine ex ?_)
 refine eq ?_
 repeat (first|refine d9 ?_|refine dO ?_)
 refine oe ?_
 exact⟨hX, .inr ⟨l,hbj⟩⟩
theorem AY (N bj bp:Nat) (T:Tb) (lv:Value) (vs:List AA) (w:World) (hN0:N≤w.heap.size) (hgl:∀W,Below N w W→Gl W) (hbp:At w bp #[.pointer (some ⟨bj,0,none⟩)] 125) (loj:N≤bj) (hbj:At w bj #[.int .i64 T.kind, .int .i64 T.ni, .int .i64 T.no,lv, .int .i64 0, .int .i64 0, .int .i64 0, .slice none 0 0, .int .i64 0, .slice none 0 0, .slice none 0 0, .slice none 0 0, .int .i64 0, .int .i64 0, .int .i64 0, .string ⟨#[]⟩, .int .i64 0, .int .i64 0, .int .i64 0, .int .i64 0, .int .i64 0] 127) (hlv:cH ik 3 37 w N lv (vs)) (hls:f6 3 N w vs T.ls) (hmb:∀i,i<T.ls.length→(T.ls.getD i jE).c.m<256∧(T.ls.getD i jE).c.v<256):
    lc Tryz.prog 75 #[.pointer (some ⟨bp,0,none⟩)] w λv w'=>Dx 127 N [bj] w w'∧((oo T=0∧∃onV mayV,At w' bj #[.int .i64 T.kind, .int .i64 T.ni, .int .i64 T.no,lv, .int .i64 0, .int .i64 0, .int .i64 0, .slice none 0 0, .int .i64 T.ni,onV,mayV, .slice none 0 0, .int .i64 0, .int .i64 0, .int .i64 0, .string ⟨#[]⟩, .int .i64 0, .int .i64 0, .int .i64 0, .int .i64 0, .int .i64 0] 127∧cH fh 4 40 w' N onV (pg T T.no.toNat)∧cH fh 4 40 w' N mayV (lK T T.no.toNat))∨(¬oo T=0∧At w' bj #[.int .i64 T.kind, .int .i64 T.ni, .int .i64 T.no,lv, .int .i64 0, .int .i64 0, .int .i64 0, .slice none 0 0, .int .i64 0, .slice none 0 0, .slice none 0 0, .slice none 0 0, .int .i64 0, .int .i64 0, .int .i64 0, .string ⟨#[]⟩, .int .i64 0, .int .i64 0, .int .i64 0, .int .i64 0, .int .i64 (oo T)] 127)):=by
 refine dK (n:=15) (N:=N) Tryz.func75 rfl rfl rfl λhB=> ?_
 have hX:Dx 127 N [bj] w w:=Dx.refl
 refine eP (λa b=>a.grownBy b (some bj)) fC (λW1 p=> ?_)
 obtain⟨hbp,hbj,hlv,hls,hX⟩:=p.k5 hbp hbj hlv hls hX
 replace hB:=cW hB p hN0
 have j:=hbj
 have hS:=World.grownBy.refl W1 (some bj)
 refine Tk 0 rfl (λ_ hq=>cD (v:= .pointer (some ⟨bj,0,none⟩)) rfl dE (At.cell (At.grownAt hbp j hq Dd) rfl)) hS<|Tk 1 rfl (λ_ hq=>cD (v:= .pointer (some ⟨bj,0,none⟩)) rfl dE (At.cell (At.grownAt hbp j hq Dd) rfl)) hS<|Tk 2 rfl (λ_ hq=>cD (v:= .pointer (some ⟨bj,0,none⟩)) rfl dE (At.cell (At.grownAt hbp j hq Dd) rfl)) hS<|Tc 3 rfl rfl hS<|Tf 4 rfl rfl mj hS ?_
 refine iY (dd:=some 7) 5 ka rfl rfl rfl rfl (Yd.val (eQ rfl dX (At.cell hbj rfl) (At.cell hbj rfl) (At.cell hbj rfl) (At.cell hbj rfl)) ⟨.inl hS,?_⟩)
 refine To 6 rfl (TC (vs:=[.agg #[_,_,_,_]]) HL (wt T _ vs _ hlv.sl (f6.at hls) hmb) rfl λB W4 k f=>⟨.inl (cB hS (dC.grown k (some bj))),?_⟩)
 have s:=(go hN0 (Below.size hB))
 obtain⟨hbj,hX⟩:=k.k2 hbj hX
 replace hS:=cB hS (dC.grown k (some bj))
 have q:=s
 rcases f with f|f
 obtain⟨l,t,u,rfl,d,e⟩:=f
 replace d:=cH.mono d q
 replace e:=cH.mono e q
 refine Tw 7 (.tuple #[.agg #[.int .i64 _,t,u], .int .i64 0]) rfl rfl hS<|Tk 8 rfl (λ_ _=>cZ rfl) hS<|Tk 9 rfl (λ_ _=>c7 rfl) hS<|Tc 10 rfl rfl hS<|Tf 11 rfl rfl j7 hS<|To 12 rfl (iO rfl rfl ee rfl hbj xz (by exact ua (dp.one (cH.sl d)) (dp.one (cH.sl e))) λW8 g x=>⟨.inl (cB hS g),?_⟩)
 replace hS:=cB hS g
 replace hX:=Dx.trans hX (abZ g loj)
 replace d:=cH.grownAt d hbj g Dd
 replace e:=cH.grownAt e hbj g Dd
 replace hbj:=x
 replace hbj:At _ _ #[_,_,_,_,_,_,_,_,_,_,_,_,_,_,_,_,_,_,_,_,_] _:=hbj
 refine Tc 13 rfl rfl hS<|Tf 14 rfl rfl eZ hS<|To 15 rfl (db (v:= .int .i64 0) rfl rfl fe rfl hbj fD λC h y=>⟨.inl (cB hS h),?_⟩)
 replace hX:=Dx.trans hX (abZ h loj)
 replace d:=cH.grownAt d hbj h Dd
 replace e:=cH.grownAt e hbj h Dd
 replace hbj:=y
 replace hbj:At _ _ #[_,_,_,_,_,_,_,_,_,_,_,_,_,_,_,_,_,_,_,_,_] _:=hbj
 refine Td ?_
 repeat (first|refine eN ?_|refine ex ?_)
 refine eq ?_
 repeat (first|refine d9 ?_|refine dO ?_)
 refine oe ?_
 exact⟨hX, .inl ⟨l,_,_,hbj,d,e⟩⟩
 obtain⟨l,rfl⟩:=f
 refine Tw 7 (.tuple #[.agg #[.int .i64 0, .slice none 0 0, .slice none 0 0], .int .i64 _]) rfl rfl hS<|Tk 8 rfl (λ_ _=>cZ rfl) hS<|Tk 9 rfl (λ_ _=>c7 rfl) hS<|Tc 10 rfl rfl hS<|Tf 11 rfl rfl j7 hS<|To 12 rfl (iO rfl rfl ee rfl hbj xz (by exact ua rfl rfl) λD o z=>⟨.inl (cB hS o),?_⟩)
 replace hS:=cB hS o
 replace hX:=Dx.trans hX (abZ o loj)
 replace hbj:=z
 replace hbj:At _ _ #[_,_,_,_,_,_,_,_,_,_,_,_,_,_,_,_,_,_,_,_,_] _:=hbj
 refine Tc 13 rfl rfl hS<|Tf 14 rfl rfl eZ hS<|To 15 rfl (db (v:= .int .i64 _) rfl rfl fe rfl hbj fD λE r A=>⟨.inl (cB hS r),?_⟩)
 replace hX:=Dx.trans hX (abZ r loj)
 replace hbj:=A
 replace hbj:At _ _ #[_,_,_,_,_,_,_,_,_,_,_,_,_,_,_,_,_,_,_,_,_] _:=hbj
 refine Td ?_
 repeat (first|refine eN ?_|refine ex ?_)
 refine eq ?_
 repeat (first|refine d9 ?_|refine dO ?_)
 refine oe ?_
 exact⟨hX, .inr ⟨l,hbj⟩⟩
theorem FE (N bj bp:Nat) (bb:Nat) (S:Sp) (onV mayV:Value) (b0 b1 ln:Int) (t0 t1 t2 t3:Value) (w:World) (hN0:N≤w.heap.size) (hgl:∀W,Below N w W→Gl W) (hbp:At w bp #[.pointer (some ⟨bj,0,none⟩)] 125) (loj:N≤bj) (hbj:At w bj #[t0,t1,t2,t3, .int .i64 0, .int .i64 0, .int .i64 0, .slice none 0 0, .int .i64 S.n,onV,mayV, .slice none 0 0, .int .i64 0, .int .i64 0, .int .i64 0, .string ⟨#[]⟩, .int .i64 0, .int .i64 0, .int .i64 0, .int .i64 ln, .int .i64 0] 127) (hon:cH fh 4 40 w N onV (S.on)) (hmay:cH fh 4 40 w N mayV (S.may)) (hbb:At w bb #[.int .i64 b0, .int .i64 b1] 49) (hs:dt S=true→S.n≤4∧S.on.length≤3):
    lc Tryz.prog 71 #[.pointer (some ⟨bp,0,none⟩), .pointer (some ⟨bb,0,none⟩)] w λv w'=>Dx 127 N [bj] w w'∧(((dt S=true∧ot b0 b1)∧∃x how why sp Rr,At w' bj #[t0,t1,t2,t3, .int .i64 0, .int .i64 0, .int .i64 0, .slice none 0 0, .int .i64 S.n,onV,mayV,x, .int .i64 how, .int .i64 why, .int .i64 sp, .string ⟨#[]⟩, .int .i64 0, .int .i64 0, .int .i64 0, .int .i64 ln, .int .i64 0] 127∧cH gx 3 158 w' N x (Rr)∧J7 b0.toNat b1.toNat S how why sp Rr)∨(¬(dt S=true∧ot b0 b1)∧At w' bj #[t0,t1,t2,t3, .int .i64 0, .int .i64 0, .int .i64 0, .slice none 0 0, .int .i64 S.n,onV,mayV, .slice none 0 0, .int .i64 0, .int .i64 0, .int .i64 0, .string ⟨#[]⟩, .int .i64 0, .int .i64 0, .int .i64 0, .int .i64 ln, .int .i64 1] 127)):=by
 refine dK (n:=17) (N:=N) Tryz.func71 rfl rfl rfl λhB=> ?_
 have hX:Dx 127 N [bj] w w:=Dx.refl
 refine eP (λa b=>a.grownBy b (some bj)) fC (λW1 j=> ?_)
 obtain⟨hbp,hbj,hon,hmay,hbb,hX⟩:=j.k6 hbp hbj hon hmay hbb hX
 replace hB:=cW hB j hN0
 have d:=hbj
 have hS:=World.grownBy.refl W1 (some bj)
 refine Tk 0 rfl (λ_ hq=>cD (v:= .pointer (some ⟨bj,0,none⟩)) rfl dE (At.cell (At.grownAt hbp d hq Dd) rfl)) hS<|Tk 1 rfl (λ_ hq=>cD (v:= .pointer (some ⟨bj,0,none⟩)) rfl dE (At.cell (At.grownAt hbp d hq Dd) rfl)) hS<|Tk 2 rfl (λ_ hq=>cD (v:= .pointer (some ⟨bj,0,none⟩)) rfl dE (At.cell (At.grownAt hbp d hq Dd) rfl)) hS<|Tc 3 rfl rfl hS<|Tf 4 rfl rfl j7 hS<|Tk 6 rfl (λ_ hq=>cz rfl uY rfl (At.grownAt hbb d hq Dd)) hS ?_
 refine iY (dd:=some 8) 5 ka rfl rfl rfl rfl (Yd.val (jc rfl ee (At.cell hbj rfl) (At.cell hbj rfl) (At.cell hbj rfl)) ⟨.inl hS,?_⟩)
 refine To 7 rfl (TC (vs:=[.agg #[_,_,_], .agg #[_,_]]) VH (wB S _ _ b0 b1 _ hon.sl hmay.sl hs) rfl λr W4 e f=>⟨.inl (cB hS (dC.grown e (some bj))),?_⟩)
 have l:=(go hN0 (Below.size hB))
 obtain⟨hbp,hbj,hon,hmay,hbb,hX⟩:=e.k6 hbp hbj hon hmay hbb hX
 replace hB:=cW hB e hN0
 replace hS:=cB hS (dC.grown e (some bj))
 have hszm:=l
 by_cases hbm:dt S=true∧ot b0 b1
 rw[if_pos hbm]at f
 obtain⟨x0_7,how0_7,why0_7,sp0_7,Rr0_7,rfl,c,hmo0_7⟩:=f
 replace c:=cH.mono c hszm
 refine Tw 8 (.tuple #[.agg #[x0_7, .int .i64 _, .int .i64 _, .int .i64 _], .int .i64 0]) rfl rfl hS<|Tk 9 rfl (λ_ _=>cZ rfl) hS<|Tk 10 rfl (λ_ _=>c7 rfl) hS<|Tc 11 rfl rfl hS<|Tf 12 rfl rfl mh hS<|To 13 rfl (iO rfl rfl fq rfl hbj xz (by exact rf (cH.one c)) λW8 g m=>⟨.inl (cB hS g),?_⟩)
 replace hS:=cB hS g
 replace hX:=Dx.trans hX (abZ g loj)
 replace c:=cH.grownAt c hbj g Dd
 replace hbj:=m
 replace hbj:At _ _ #[_,_,_,_,_,_,_,_,_,_,_,_,_,_,_,_,_,_,_,_,_] _:=hbj
 refine Tc 14 rfl rfl hS<|Tf 15 rfl rfl eZ hS<|To 16 rfl (db (v:= .int .i64 0) rfl rfl fe rfl hbj fD λs h o=>⟨.inl (cB hS h),?_⟩)
 replace hX:=Dx.trans hX (abZ h loj)
 replace c:=cH.grownAt c hbj h Dd
 replace hbj:=o
 replace hbj:At _ _ #[_,_,_,_,_,_,_,_,_,_,_,_,_,_,_,_,_,_,_,_,_] _:=hbj
 refine Td ?_
 repeat (first|refine eN ?_|refine ex ?_)
 refine eq ?_
 repeat (first|refine d9 ?_|refine dO ?_)
 refine oe ?_
 exact⟨hX, .inl ⟨hbm,_,_,_,_,_,hbj,c,hmo0_7⟩⟩
 rw[if_neg hbm]at f
 obtain rfl:=f
 refine Tw 8 (.tuple #[.agg #[.slice none 0 0, .int .i64 0, .int .i64 0, .int .i64 0], .int .i64 1]) rfl rfl hS<|Tk 9 rfl (λ_ _=>cZ rfl) hS<|Tk 10 rfl (λ_ _=>c7 rfl) hS<|Tc 11 rfl rfl hS<|Tf 12 rfl rfl mh hS<|To 13 rfl (iO rfl rfl fq rfl hbj xz (by exact rf rfl) λt i p=>⟨.inl (cB hS i),?_⟩)
 replace hS:=cB hS i
 replace hX:=Dx.trans hX (abZ i loj)
 replace hbj:=p
 replace hbj:At _ _ #[_,_,_,_,_,_,_,_,_,_,_,_,_,_,_,_,_,_,_,_,_] _:=hbj
 refine Tc 14 rfl rfl hS<|Tf 15 rfl rfl eZ hS<|To 16 rfl (db (v:= .int .i64 1) rfl rfl fe rfl hbj fD λu k q=>⟨.inl (cB hS k),?_⟩)
 replace hX:=Dx.trans hX (abZ k loj)
 replace hbj:=q
 replace hbj:At _ _ #[_,_,_,_,_,_,_,_,_,_,_,_,_,_,_,_,_,_,_,_,_] _:=hbj
 refine Td ?_
 repeat (first|refine eN ?_|refine ex ?_)
 refine eq ?_
 repeat (first|refine d9 ?_|refine dO ?_)
 refine oe ?_
 exact⟨hX, .inr ⟨hbm,hbj⟩⟩
theorem EO (N bj bp:Nat) (S:Sp) (onV mayV x:Value) (Rr:List Rw) (ln:Int) (t0 t1 t2 t3 r1 r2 r3:Value) (w:World) (hN0:N≤w.heap.size) (hgl:∀W,Below N w W→Gl W) (hbp:At w bp #[.pointer (some ⟨bj,0,none⟩)] 125) (loj:N≤bj) (hbj:At w bj #[t0,t1,t2,t3, .int .i64 0, .int .i64 0, .int .i64 0, .slice none 0 0, .int .i64 S.n,onV,mayV,x,r1,r2,r3, .string ⟨#[]⟩, .int .i64 0, .int .i64 0, .int .i64 0, .int .i64 ln, .int .i64 0] 127) (hon:cH fh 4 40 w N onV (S.on)) (hmay:cH fh 4 40 w N mayV (S.may)) (hx:cH gx 3 158 w N x (Rr)) (hr:dt S=true) (hm:km S Rr=true) (hrb:iC Rr) (h64:Rr.length≤64):
    lc Tryz.prog 72 #[.pointer (some ⟨bp,0,none⟩)] w λv w'=>Dx 127 N [bj] w w'∧(∃lv vs,At w' bj #[t0,t1,t2,t3, .int .i64 1, .int .i64 S.n, .int .i64 (S.on.length:Int),lv, .int .i64 S.n,onV,mayV,x,r1,r2,r3, .string ⟨#[]⟩, .int .i64 0, .int .i64 0, .int .i64 0, .int .i64 ln, .int .i64 0] 127∧cH ik 3 37 w' N lv vs∧f6 3 N w' vs (nK S Rr).ls):=by
 refine dK (n:=20) (N:=N) Tryz.func72 rfl rfl rfl λhB=> ?_
 have hX:Dx 127 N [bj] w w:=Dx.refl
 refine eP (λa b=>a.grownBy b (some bj)) fC (λW1 o=> ?_)
 obtain⟨hbp,hbj,hon,hmay,hx,hX⟩:=o.k6 hbp hbj hon hmay hx hX
 replace hB:=cW hB o hN0
 have h:=hbj
 have hS:=World.grownBy.refl W1 (some bj)
 refine Tk 0 rfl (λ_ hq=>cD (v:= .pointer (some ⟨bj,0,none⟩)) rfl dE (At.cell (At.grownAt hbp h hq Dd) rfl)) hS<|Tk 1 rfl (λ_ hq=>cD (v:= .pointer (some ⟨bj,0,none⟩)) rfl dE (At.cell (At.grownAt hbp h hq Dd) rfl)) hS<|Tk 2 rfl (λ_ hq=>cD (v:= .pointer (some ⟨bj,0,none⟩)) rfl dE (At.cell (At.grownAt hbp h hq Dd) rfl)) hS<|Tc 3 rfl rfl hS<|Tf 4 rfl rfl j7 hS<|Tk 6 rfl (λ_ hq=>cD (v:= .pointer (some ⟨bj,0,none⟩)) rfl dE (At.cell (At.grownAt hbp h hq Dd) rfl)) hS<|Tc 7 rfl rfl hS<|Tf 8 rfl rfl mh hS<|Tf 9 rfl rfl sk hS ?_
 refine v8 5 10 ka rfl rfl rfl rfl rfl rfl rfl rfl (Yd.val (jc rfl ee (At.cell hbj rfl) (At.cell hbj rfl) (At.cell hbj rfl)) ⟨.inl hS,?_⟩) (Yd.val (cD (v:=x) rfl ng (At.cell hbj rfl)) ⟨.inl hS,?_⟩)
 refine iY (dd:=some 12) 10 ka rfl rfl rfl rfl (Yd.val (cD (v:=x) rfl ng (At.cell hbj rfl)) ⟨.inl hS,?_⟩)
 refine To 11 rfl (TC (vs:=[.agg #[_,_,_],x]) Nk (u7 S _ _ _ Rr _ hon.sl hmay.sl hx.sl Om hrb (by have:=(dz.1 hr);omega)) rfl λr W4 k e=>⟨.inl (cB hS (dC.grown k (some bj))),?_⟩)
 have p:=(go hN0 (Below.size hB))
 obtain⟨hbj,hX⟩:=k.k2 hbj hX
 replace hS:=cB hS (dC.grown k (some bj))
 rw[if_pos ⟨hr,hm⟩,if_pos h64]at e
 obtain⟨l,s,rfl,c,d⟩:=e
 replace c:=cH.mono c p
 replace d:=f6.mono d p
 refine Tw 12 (.tuple #[.agg #[.int .i64 _, .int .i64 _, .int .i64 _,l], .int .i64 0]) rfl rfl hS<|Tk 13 rfl (λ_ _=>cZ rfl) hS<|Tk 14 rfl (λ_ _=>c7 rfl) hS<|Tc 15 rfl rfl hS<|Tf 16 rfl rfl jZ hS<|To 17 rfl (iO rfl rfl dX rfl hbj xz (by exact qv (dp.one (cH.sl c))) λW8 f t=>⟨.inl (cB hS f),?_⟩)
 replace hS:=cB hS f
 replace hX:=Dx.trans hX (abZ f loj)
 replace c:=cH.grownAt c hbj f Dd
 replace d:=f6.grownAt d hbj f Dd
 replace hbj:=t
 replace hbj:At _ _ #[_,_,_,_,_,_,_,_,_,_,_,_,_,_,_,_,_,_,_,_,_] _:=hbj
 refine Tc 18 rfl rfl hS<|Tf 19 rfl rfl eZ hS<|To 20 rfl (db (v:= .int .i64 0) rfl rfl fe rfl hbj fD λA i u=>⟨.inl (cB hS i),?_⟩)
 replace hX:=Dx.trans hX (abZ i loj)
 replace c:=cH.grownAt c hbj i Dd
 replace d:=f6.grownAt d hbj i Dd
 replace hbj:=u
 replace hbj:At _ _ #[_,_,_,_,_,_,_,_,_,_,_,_,_,_,_,_,_,_,_,_,_] _:=hbj
 refine Td ?_
 repeat (first|refine eN ?_|refine ex ?_)
 refine eq ?_
 repeat (first|refine d9 ?_|refine dO ?_)
 refine oe ?_
 exact⟨hX,_,_,hbj,c,d⟩
 refine iY (dd:=some 7) 5 ka rfl rfl rfl rfl (Yd.val (jc rfl ee (At.cell hbj rfl) (At.cell hbj rfl) (At.cell hbj rfl)) ⟨.inl hS,?_⟩)
 refine To 11 rfl (TC (vs:=[.agg #[_,_,_],x]) Nk (u7 S _ _ _ Rr _ hon.sl hmay.sl hx.sl Om hrb (by have:=(dz.1 hr);omega)) rfl λr B m e=>⟨.inl (cB hS (dC.grown m (some bj))),?_⟩)
 have q:=(go hN0 (Below.size hB))
 obtain⟨hbj,hX⟩:=m.k2 hbj hX
 replace hS:=cB hS (dC.grown m (some bj))
 rw[if_pos ⟨hr,hm⟩,if_pos h64]at e
 obtain⟨l,s,rfl,c,d⟩:=e
 replace c:=cH.mono c q
 replace d:=f6.mono d q
 refine Tw 12 (.tuple #[.agg #[.int .i64 _, .int .i64 _, .int .i64 _,l], .int .i64 0]) rfl rfl hS<|Tk 13 rfl (λ_ _=>cZ rfl) hS<|Tk 14 rfl (λ_ _=>c7 rfl) hS<|Tc 15 rfl rfl hS<|Tf 16 rfl rfl jZ hS<|To 17 rfl (iO rfl rfl dX rfl hbj xz (by exact qv (dp.one (cH.sl c))) λC g y=>⟨.inl (cB hS g),?_⟩)
 replace hS:=cB hS g
 replace hX:=Dx.trans hX (abZ g loj)
 replace c:=cH.grownAt c hbj g Dd
 replace d:=f6.grownAt d hbj g Dd
 replace hbj:=y
 replace hbj:At _ _ #[_,_,_,_,_,_,_,_,_,_,_,_,_,_,_,_,_,_,_,_,_] _:=hbj
 refine Tc 18 rfl rfl hS<|Tf 19 rfl rfl eZ hS<|To 20 rfl (db (v:= .int .i64 0) rfl rfl fe rfl hbj fD λD j z=>⟨.inl (cB hS j),?_⟩)
 replace hX:=Dx.trans hX (abZ j loj)
 replace c:=cH.grownAt c hbj j Dd
 replace d:=f6.grownAt d hbj j Dd
 replace hbj:=z
 replace hbj:At _ _ #[_,_,_,_,_,_,_,_,_,_,_,_,_,_,_,_,_,_,_,_,_] _:=hbj
 refine Td ?_
 repeat (first|refine eN ?_|refine ex ?_)
 refine eq ?_
 repeat (first|refine d9 ?_|refine dO ?_)
 refine oe ?_
 exact⟨hX,_,_,hbj,c,d⟩
theorem EZ (N bj bp:Nat) (T:Tb) (lv:Value) (vs:List AA) (ln:Int) (t0 t1 t2 t3 s0 s1 s2 r0 r1 r2 r3:Value) (w:World) (hN0:N≤w.heap.size) (hgl:∀W,Below N w W→Gl W) (hbp:At w bp #[.pointer (some ⟨bj,0,none⟩)] 125) (loj:N≤bj) (hbj:At w bj #[t0,t1,t2,t3, .int .i64 T.kind, .int .i64 T.ni, .int .i64 T.no,lv,s0,s1,s2,r0,r1,r2,r3, .string ⟨#[]⟩, .int .i64 0, .int .i64 0, .int .i64 0, .int .i64 ln, .int .i64 0] 127) (hlv:cH ik 3 37 w N lv (vs)) (hls:f6 3 N w vs T.ls) (hmb:∀i,i<T.ls.length→(T.ls.getD i jE).c.m<256∧(T.ls.getD i jE).c.v<256) (hrU:fy T=true):
    lc Tryz.prog 73 #[.pointer (some ⟨bp,0,none⟩)] w λv w'=>Dx 127 N [bj] w w'∧(At w' bj #[t0,t1,t2,t3, .int .i64 T.kind, .int .i64 T.ni, .int .i64 T.no,lv,s0,s1,s2,r0,r1,r2,r3,dY (iV T), .int .i64 0, .int .i64 0, .int .i64 0, .int .i64 ln, .int .i64 0] 127):=by
 refine dK (n:=16) (N:=N) Tryz.func73 rfl rfl rfl λhB=> ?_
 have hX:Dx 127 N [bj] w w:=Dx.refl
 refine eP (λa b=>a.grownBy b (some bj)) fC (λW1 g=> ?_)
 obtain⟨hbp,hbj,hlv,hls,hX⟩:=g.k5 hbp hbj hlv hls hX
 replace hB:=cW hB g hN0
 have d:=hbj
 have hS:=World.grownBy.refl W1 (some bj)
 refine Tk 0 rfl (λ_ hq=>cD (v:= .pointer (some ⟨bj,0,none⟩)) rfl dE (At.cell (At.grownAt hbp d hq Dd) rfl)) hS<|Tk 1 rfl (λ_ hq=>cD (v:= .pointer (some ⟨bj,0,none⟩)) rfl dE (At.cell (At.grownAt hbp d hq Dd) rfl)) hS<|Tk 2 rfl (λ_ hq=>cD (v:= .pointer (some ⟨bj,0,none⟩)) rfl dE (At.cell (At.grownAt hbp d hq Dd) rfl)) hS<|Tc 3 rfl rfl hS<|Tf 4 rfl rfl jZ hS ?_
 refine iY (dd:=some 7) 5 ka rfl rfl rfl rfl (Yd.val (eQ rfl dX (At.cell hbj rfl) (At.cell hbj rfl) (At.cell hbj rfl) (At.cell hbj rfl)) ⟨.inl hS,?_⟩)
 refine To 6 rfl (TC (vs:=[.agg #[_,_,_,_]]) VC (FD T _ vs _ (hgl _ hB) hlv.sl (f6.at hls) hmb) rfl λo W4 e h=>⟨.inl (cB hS (dC.grown e (some bj))),?_⟩)
 obtain⟨hbj,hX⟩:=e.k2 hbj hX
 replace hS:=cB hS (dC.grown e (some bj))
 rw[if_pos hrU]at h
 obtain rfl:=h
 refine Tw 7 (.tuple #[.string _, .int .i64 0]) rfl rfl hS<|Tk 8 rfl (λ_ _=>cZ rfl) hS<|Tk 9 rfl (λ_ _=>c7 rfl) hS<|Tc 10 rfl rfl hS<|Tf 11 rfl rfl oa hS<|Tf 12 rfl rfl sj hS<|To 13 rfl (db (v:= .string _) rfl rfl kM rfl hbj xz λW8 f k=>⟨.inl (cB hS f),?_⟩)
 replace hS:=cB hS f
 replace hX:=Dx.trans hX (abZ f loj)
 replace hbj:=k
 replace hbj:At _ _ #[_,_,_,_,_,_,_,_,_,_,_,_,_,_,_,_,_,_,_,_,_] _:=hbj
 refine Tc 14 rfl rfl hS<|Tf 15 rfl rfl eZ hS<|To 16 rfl (db (v:= .int .i64 0) rfl rfl fe rfl hbj fD λp j l=>⟨.inl (cB hS j),?_⟩)
 replace hX:=Dx.trans hX (abZ j loj)
 replace hbj:=l
 replace hbj:At _ _ #[_,_,_,_,_,_,_,_,_,_,_,_,_,_,_,_,_,_,_,_,_] _:=hbj
 refine Td ?_
 repeat (first|refine eN ?_|refine ex ?_)
 refine eq ?_
 repeat (first|refine d9 ?_|refine dO ?_)
 refine oe ?_
 exact⟨hX,hbj⟩
end
section
open Go Go.RowKit
def DX (s:List UInt8) (b0 b1 ln e:Int):Prop:=
 (¬(cF s).2.2=0∧ln=(cF s).2.1∧e=(cF s).2.2)∨((cF s).2.2=0∧¬oo (cF s).1=0∧ln=0∧e=oo (cF s).1)∨((cF s).2.2=0∧oo (cF s).1=0∧¬ot b0 b1∧ln=0∧e=1)
def AP (s:List UInt8) (b0 b1:Int) (tx:List UInt8) (how why rows ln e:Int):Prop:=
 (DX s b0 b1 ln e∧tx=[]∧how=0∧why=0∧rows=0)∨
 ((cF s).2.2=0∧oo (cF s).1=0∧ot b0 b1∧ln=0∧e=0∧∃sp Rr,J7 b0.toNat b1.toNat (eg (cF s).1) how why sp Rr∧tx=iV (nK (eg (cF s).1) Rr)∧rows=(Rr.length:Int))
def yA (s:List UInt8) (a b:Int):Prop:=(cF s).2.2=0→(cF s).1.ni≤a∧(cF s).1.no≤b
section
variable {s:List UInt8} {b0 b1 ln e:Int}
theorem DX.ne (h:DX s b0 b1 ln e):¬e=0:=by
 rcases h with ⟨h1,_,rfl⟩|⟨_,h1,_,rfl⟩|⟨_,_,_,_,rfl⟩
 ·exact h1
 ·exact h1
 ·decide
theorem FP (h:(cF s).2.2=0):(cF s).2.1=0:=by
 rcases ro s with ⟨h1,_⟩|⟨_,h2,_⟩
 ·exact absurd h h1
 ·exact h2
theorem pF (h:yA s 4 3) (hp:(cF s).2.2=0):dt (eg (cF s).1)=true→(eg (cF s).1).n≤4∧(eg (cF s).1).on.length≤3:=λ_=>by
 obtain⟨h1,h2⟩:=h hp
 refine⟨h1,?_⟩
 show (pg _ _).length≤3
 rw[ku]
 omega
end
end
end Go.Proofs.YtedeonkjellcpaaGreatDoor
