/- The walk of plain rows. The walks of package minim. What a step on a job leaves as it was; five closures. No program in it. The steps of package run, each by itself; the way through them. What a text comes to, when it is run. No program in it. The way through a job's steps; a text, run. Room and ste -/
import Derived.Test.YtedeonkjellcpaaGreatDoorWRef12
namespace Go.Proofs.YtedeonkjellcpaaGreatDoor
set_option linter.unusedVariables false
set_option linter.unusedSimpArgs false
section
open Go Go.RowKit
theorem PU:cX Tryz.prog 149=true:=by kernel_rfl
theorem IZ:cX Tryz.prog 150=true:=by kernel_rfl
theorem tZ:mU Tryz.prog 211=some (158,4):=by kernel_rfl
theorem Od {f:Nat→Value} {w:World} {d:Option Nat} {ty t2:TypeId} {ps:String} {af:Array Edge} {g:Option (Nat×Bool)} {x y:Operand} {a0 a1 a2 b0 b1 b2:Int} (hx:dg f x= .agg #[.int .u8 a0, .int .u8 a1, .int .u8 a2]) (hy:dg f y= .agg #[.int .u8 b0, .int .u8 b1, .int .u8 b2]):
    (execOp (dg f) ⟨d, .binOp .eql 158 x y t2,ty,ps,af,g⟩).run Tryz.prog w= .ok (.value (.bool (decide ((a0=b0∧a1=b1∧a2=b2))))) w:=by
  have hg:Tryz.prog.eqGuardType Tryz.prog.depth 158=false:=by kernel_rfl
  have hp158:Tryz.prog.stoodInHeld 158=false:=by kernel_rfl
  have hu158:Tryz.prog.underlying 158=some (.struct (Tryz.prog.fieldsOf 158)):=by kernel_rfl
  have hp34:Tryz.prog.stoodInHeld 34=false:=by kernel_rfl
  have hu34:Tryz.prog.underlying 34=some (.struct (Tryz.prog.fieldsOf 34)):=by kernel_rfl
  obtain⟨j34,hj34,hs34⟩:=go.1 (show (Tryz.prog.info? 34).map (·.size)=some 2 by kernel_rfl)
  simp only[execOp,hx,hy,Sem.run_bind,run_eqGuard_agg _ _ _ _ _ _ _ hg,Result.andThen_ok,run_eql_struct,run_equalIn_agg _ 9999 158 _ _ hu158 hp158]
  simp only[Program.fieldsOf,Tryz.underlying158]
  simp[Op.eqFields,part,isAgg,run_equalIn_int _ 9998 5 _ _ _ _ Tryz.underlying5,run_underlying Tryz.underlying5,run_equalIn_agg _ 9998 34 _ _ hu34 hp34,Program.fieldsOf,Tryz.underlying34,run_equalIn_int _ 9997 5 _ _ _ _ Tryz.underlying5,sizeOf,typeInfo,hj34,hs34,run_underlying Tryz.underlying34]
  by_cases q0:a0=b0<;>by_cases q1:a1=b1<;>by_cases q2:a2=b2<;>simp[q0,q1,q2]
theorem rK:qc Tryz.prog 158 (λv=>∃a:Rw,v=sq a):=by
  refine pd Tryz.underlying158 ?_ ?_ ?_ ?_
  · rintro w _ _ ⟨a,rfl⟩ ⟨c,rfl⟩
    have hg:Tryz.prog.eqGuardType Tryz.prog.depth 158=false:=by kernel_rfl
    exact⟨_,rW hg (Od rfl rfl),by rw[decide_eq_true_eq];constructor<;>intro h<;>simpa [sq] using h⟩
  · rintro _ _ ⟨a,rfl⟩ ⟨c,rfl⟩
    exact .inl rfl
  · rintro w em _ ⟨a,rfl⟩
    have h2:∀k,(Instr.checkKey em (k+1+1+1) 158 (sq a)).run Tryz.prog w= .ok () w:=λk=>by
      simp[sq,Instr.checkKey,part,isAgg,run_underlying Tryz.underlying158,run_underlying Tryz.underlying34,run_underlying Tryz.underlying5]
    exact h2 9997
  · rintro _ ⟨a,rfl⟩
    simp[sq,Instr.sameBits]
theorem Cq (S:Sp) (onV mayV:Value) (w:World) (hon:dh fT 4 w onV S.on) (hmay:dh fT 4 w mayV S.may):
    Fn Tryz.prog 103 #[.agg #[.int .i64 S.n,onV,mayV]] w λv w'=>if dq S=true then ∃x,v= .tuple #[x, .int .i64 0]∧cD gv 3 158 w' w.heap.size x (mL S)else v= .tuple #[.slice none 0 0, .int .i64 1]:=by
 refine cH (n:=66) Tryz.func103 rfl rfl rfl λhB=> ?_
 refine Zr<|Zy (dt (c:= #[_,_,_]) rfl rfl λZ W3 aM ad f=> ?_)
 replace hB:=Ze hB ad
 refine Zw (.slice none 0 0) rfl<|ZZ rfl<|Zq<|Zr<|Zv (cy rfl el rfl f)<|ZC (vs:=[.agg #[_,_,_]]) oB (iJ S _ _ _ (Below.slT hB hon) (Below.slT hB hmay)) rfl λaN aO ae af=> ?_
 obtain⟨hB,f⟩:=ae.k2 hB f
 obtain rfl:=af
 refine Zv (eR rfl)<|ct<|ZQ rfl (λL=> ?_) λL=> ?_
 refine Zr<|Zw (.slice none 0 0) rfl<|ZZ rfl<|Zt<|dL (v:= .slice none 0 0) rfl (v1:= .int .i64 1) rfl ⟨hB,?_⟩
 rw[if_neg (by rw[show dq S=false from kT L];decide)]
 refine cu ?_
 have hr:dq S=true:=ms L
 obtain⟨h0,h8,h1,h4,h5,hin⟩:=dD.1 hr
 refine Zr<|Zy (gQ (enc:=sq) (encV:=Value.bool) λt aP ag ah d=> ?_)
 have aa:=ZO ag hB
 obtain⟨hB,f⟩:=ah.k2 hB f
 replace d:du sq Value.bool _ _ (fp []):=d
 refine Zw (.map (some t)) rfl<|ct<|Zr<|Zw (.slice none 0 0) rfl<|ct<|Zq<|Zr<|Zf rfl iG<|ZL onV rfl ft f rfl<|Zv (cT (v:=onV) rfl (Below.slT hB hon) eN)<|ZZ rfl<|cx ?_
 refine cS (σ:=(Nat)×(Value)) [5,9,11,13,21,64] (λ(o,v0)=>[(21, .int .i64 (o:Int)),(5,v0)]) (λsg W=>match sg with|(o,v0)=>(Below w.heap.size w W)∧(At W Z _ 59)∧(du sq Value.bool W t (fp (GZ S o)))∧(cD gv 3 158 W w.heap.size v0 (GZ S o))∧(o≤S.on.length)∧(True)) (λ(o,v0)=>S.on.length-o) ((0, .slice none 0 0)) ⟨rfl,rfl,trivial⟩ ⟨hB,f,d,cD.nil,(my _),trivial⟩ ?_
 rintro⟨o,v0⟩ aQ aR ⟨hB,f,d,ho,hoo,_⟩ aS ai
 refine Zr<|Zv (dk rfl rfl)<|ct<|Zq<|ZQ rfl (λaj=> ?_) λaj=> ?_
 refine cu<|Zq<|cx ?_
 have D:o<S.on.length:=by omega
 have h7:=Al (show o<8 by omega)
 have hgl:=LW hr D
 have hpl:=Cn hr o (by omega)
 refine Zr<|Zi rfl<|Zv (df (v:=onV) rfl (Below.slT hB hon) rfl eN Om (by omega))<|Zv (fv rfl cA (dh.cell (Below.slT hB hon) dE 0 Om (by omega) 0 rfl) (dh.cell (Below.slT hB hon) dE 0 Om (by omega) 1 rfl) (dh.cell (Below.slT hB hon) dE 0 Om (by omega) 2 rfl) (dh.cell (Below.slT hB hon) dE 0 Om (by omega) 3 rfl))<|Zy (cI ee rfl λab ak al ao g=> ?_)
 have ap:=ZO al hB
 obtain⟨hB,f,d,ho⟩:=ao.k4 hB f d ho
 replace g:At ak ab #[wv 0 0,wv 0 1,wv 0 2,wv 0 3] 40:=g
 refine Zi rfl<|Zy (cz rfl rfl cA rfl g rfl rfl λaT J aq=> ?_)
 replace hB:=Zg hB J ap
 replace f:=At.grownAt f g J Dd
 replace d:=du.grownAt d g J
 replace ho:=cD.grownAt ho g J Dd
 replace g:=aq
 refine ct<|Zd dz λar au=> ?_
 obtain⟨hB,f,d,ho,g⟩:=au.k5 hB f d ho g
 have hS:=dz.refl ar
 refine Tk 0 rfl (λ_ hq=>cy rfl cA rfl (hq.at g)) hS<|Tf 1 rfl rfl gS hS<|Tk 2 rfl (λ_ hq=>cB (v:=mayV) rfl ft (At.cell (hq.at f) rfl)) hS<|Ti 3 rfl rfl hS<|Tk 4 rfl (λ_ hq=>df (v:=mayV) rfl (hq.slT (Below.slT hB hmay)) rfl eN Om (by omega)) hS<|Tk 5 rfl (λ_ hq=>fv rfl cA (dh.cell (hq.slT (Below.slT hB hmay)) dE 0 Om (by omega) 0 rfl) (dh.cell (hq.slT (Below.slT hB hmay)) dE 0 Om (by omega) 1 rfl) (dh.cell (hq.slT (Below.slT hB hmay)) dE 0 Om (by omega) 2 rfl) (dh.cell (hq.slT (Below.slT hB hmay)) dE 0 Om (by omega) 3 rfl)) hS<|Tf 6 rfl rfl iF hS<|Tk 7 rfl (λ_ hq=>cB (v:= .int .i64 _) rfl cK (At.cell (hq.at f) rfl)) hS<|To 8 rfl (TC (vs:=[.agg #[_,_,_,_], .agg #[_,_,_,_], .int .i64 _]) PU (BR (Bh S o) (kM S o) S.n _) rfl λaU aV M av=>⟨.inl (hS.trans M),?_⟩)
 have aw:=(Below.size hB)
 obtain⟨hB,f,d,ho,g⟩:=M.k5 hB f d ho g
 replace hS:=hS.trans M
 obtain⟨x_hP8_8,er_hP8_8,l_hP8_8,rfl,ho_hP8_8,hc_hP8_8⟩:=JV av
 replace ho_hP8_8:=cD.mono ho_hP8_8 aw
 refine Tw 9 (.tuple #[x_hP8_8, .int .i64 _]) rfl rfl hS<|Tk 10 rfl (λ_ _=>c7 rfl) hS<|Tk 11 rfl (λ_ _=>da rfl) hS<|Tw 12 x_hP8_8 rfl rfl hS<|Ti 13 rfl rfl hS<|Td ?_
 obtain⟨_,hleq⟩:=OG hc_hP8_8 (by intro h;exact h (by rcases hc_hP8_8 with ⟨_,h,_⟩|⟨h,_⟩;exact h;rw[rh hr D]at h;cases h))
 have hleq2:l_hP8_8=vh S o:=hleq
 subst hleq2
 refine Zr<|Zw x_hP8_8 rfl<|Zv (cT (v:=x_hP8_8) rfl ho_hP8_8.sl eo)<|ZZ rfl<|cx ?_
 refine cS (σ:=(Nat)×(Value)) [5,5,11,13,40,63] (λ(i,v1)=>[(40, .int .i64 (i:Int)),(5,v1)]) (λsg W=>match sg with|(i,v1)=>(Below w.heap.size w W)∧(At W Z _ 59)∧(At W ab _ 40)∧(cD im 2 34 W w.heap.size x_hP8_8 _)∧(du sq Value.bool W t (fp (Jm S o (GZ S o) i)))∧(cD gv 3 158 W w.heap.size v1 (Jm S o (GZ S o) i))∧(i≤(vh S o).length)∧(True)) (λ(i,v1)=>(vh S o).length-i) ((0,v0)) ⟨rfl,rfl,trivial⟩ ⟨hB,f,g,ho_hP8_8,d,(by exact ho),(my _),trivial⟩ ?_
 rintro⟨i,v1⟩ aW aX ⟨hB,f,g,ho_hP8_8,d,hoo2,hi,_⟩ aY K
 refine Zr<|Zv (dk rfl rfl)<|ct<|Zq<|ZQ rfl (λax=> ?_) λax=> ?_
 refine cu<|Zq<|cx ?_
 have hi2:i<(vh S o).length:=by omega
 have hgg:=IR hr D hi2
 have hcl:=Df S o (GZ S o) i
 refine Zr<|Zv (df (v:=x_hP8_8) rfl ho_hP8_8.sl rfl eo Om (by omega))<|Zv (fD rfl cZ (dh.cell ho_hP8_8.sl gr ⟨0,0⟩ Om (by omega) 0 rfl) (dh.cell ho_hP8_8.sl gr ⟨0,0⟩ Om (by omega) 1 rfl))<|Zy (cI gV rfl λay aZ ac az p=> ?_)
 have aA:=ZO ac hB
 have aB:=aaQ (b:=ay) ho_hP8_8 (aae ac.symm)
 obtain⟨hB,f,g,ho_hP8_8,d,hoo2⟩:=az.k6 hB f g ho_hP8_8 d hoo2
 refine Zy (cz rfl rfl cZ rfl p rfl rfl λa0 A aC=> ?_)
 replace hB:=Zg hB A aA
 replace f:=At.grownAt f p A Dd
 replace g:=At.grownAt g p A Dd
 replace ho_hP8_8:=aat ho_hP8_8 aB A
 replace d:=du.grownAt d p A
 replace hoo2:=cD.grownAt hoo2 p A Dd
 replace p:=aC
 refine ct<|Zd dz λaD aE=> ?_
 obtain⟨hB,f,g,ho_hP8_8,d,hoo2,p⟩:=aE.k7 hB f g ho_hP8_8 d hoo2 p
 have hS:=dz.refl aD
 refine Tk 0 rfl (λ_ hq=>cy rfl el rfl (hq.at f)) hS<|Tk 1 rfl (λ_ hq=>cy rfl cZ rfl (hq.at p)) hS<|Ti 2 rfl rfl hS<|Tk 3 rfl (λ_ _=>jA (m:=1) rfl rfl Om (by simp only[IntKind.bits];omega) yR) hS<|Tk 4 rfl (λ_ _=>kw (h0:=rfl) (h1:=rfl) (k1:=rfl) (c1_0:= .int .u8 _)) hS ?_
 refine tw 5 9 jW rfl rfl rfl rfl rfl rfl rfl rfl (Yd.call (xR IZ (v0:= .agg #[_,_,_]) rfl (v1:= .agg #[_,_,_]) rfl) (uZ S _ _ ⟨((vh S o).getD i ⟨0,0⟩),1*2^o⟩ _ (Below.slT hB hon) (Below.slT hB hmay) ⟨hgg.1,hgg.2,(by show 1*2^o<256;omega)⟩) (λaF a1 N E=>⟨.inl (hS.trans N),?_⟩)) (cI jD rfl (λy a2 O P l=>⟨.inl (hS.trans P),?_⟩))
 obtain⟨hB,f,g,ho_hP8_8,d,hoo2⟩:=N.k6 hB f g ho_hP8_8 d hoo2
 replace hS:=hS.trans N
 rw[aap,if_pos (zH hr D hi2)]at E
 obtain rfl:=E
 refine Tw 6 (.tuple #[.agg #[_,_,_], .int .i64 _]) rfl rfl hS<|Tk 7 rfl (λ_ _=>c7 rfl) hS<|Tk 8 rfl (λ_ _=>da rfl) hS<|To 9 rfl (cI jD rfl λy a3 Q R l=>⟨.inl (hS.trans R),?_⟩)
 have T:=ZO Q hB
 have F:=an (dz.size hS) (aae Q.symm)
 have U:=aaQ (b:=y) hoo2 (aae Q.symm)
 obtain⟨hB,f,g,ho_hP8_8,d,hoo2⟩:=R.k6 hB f g ho_hP8_8 d hoo2
 replace hS:=hS.trans R
 refine To 10 rfl (cz rfl rfl dP rfl l rfl rfl λa4 r aG=>⟨.inl (db hS r (am _) (λj hj=>by have e:y=j:=Z9 hj;rw[←e];exact F)),?_⟩)
 replace hS:dz _ _:=db hS r (am _) (λj hj=>by have e:y=j:=Z9 hj;rw[←e];exact F)
 replace hB:=Zg hB r T
 replace f:=At.grownAt f l r Dd
 replace g:=At.grownAt g l r Dd
 replace ho_hP8_8:=cD.grownAt ho_hP8_8 l r Dd
 replace d:=du.grownAt d l r
 replace hoo2:=aat hoo2 U r
 replace l:=aG
 refine Ti 11 rfl rfl hS<|Td<|Zr<|Zw (.map (some t)) rfl<|Zv (cy rfl dP rfl l)<|Zv (fV (enc:=sq) (encV:=Value.bool) (v0:=false) (k:=(w4 S o i)) rfl rfl tZ rK (λa=>⟨a,rfl⟩) uH qj rfl d)<|Zv (eR rfl)<|ct<|ZQ rfl (λq=> ?_) λq=> ?_
 refine Zr<|Zw (.map (some t)) rfl<|Zv (cy rfl dP rfl l) ?_
 refine gK (dd:=none) rfl rfl rfl (fJ (enc:=sq) (encV:=Value.bool) (k:=(w4 S o i)) (v:=true) rfl rfl rfl tZ rK (λa=>⟨a,rfl⟩) uH d (λa5 B aH=> ?_))
 replace hB:=Zg hB B aa
 replace f:=At.grownMap f d B
 replace g:=At.grownMap g d B
 replace ho_hP8_8:=cD.grownMap ho_hP8_8 d B
 replace hoo2:=cD.grownMap hoo2 d B
 replace l:=At.grownMap l d B
 replace d:=aH
 rw[jP]at d
 refine ct<|cN<|Zw v1 rfl<|Zv (cy rfl dP rfl l)<|Zy (eK (u:= .agg #[_,_,_]) rfl dM g7 rfl Dd Dd λV a6 a7 aI X=> ?_)
 obtain⟨hB,f,g,ho_hP8_8,d,hoo2⟩:=aI.k6 hB f g ho_hP8_8 d hoo2
 refine Zy (dZ (v:=v1) (v2:= .slice (some ⟨V,0,none⟩) 1 1) rfl rfl dM g7 Dd hoo2 (eT X rfl) rfl (n4 hB) (by omega) (by omega) λG a8 H z=> ?_)
 replace z:=cD.snoc (enc:=gv) (x:=(w4 S o i)) rfl rfl rfl rfl z
 replace hB:=ZG hB H hoo2
 replace f:=At.grownOw f hoo2 H Dd
 replace g:=At.grownOw g hoo2 H Dd
 replace ho_hP8_8:=cD.grownOw ho_hP8_8 hoo2 H Dd
 replace d:=du.grownOw d hoo2 H
 refine Zw G rfl<|ct<|ZT rfl rfl rfl ?_
 exact K _ _ ((i+1,G)) Za ⟨rfl,rfl,trivial⟩ ⟨hB,f,g,ho_hP8_8,(by exact d),(by (rw[←IC (Iz (kk:=w4 S o i) q)];exact z)),Om,trivial⟩ (by show (vh S o).length-(i+1)<(vh S o).length-i;omega)
 refine cu<|ZT rfl rfl rfl ?_
 exact K _ _ ((i+1,v1)) Za ⟨rfl,rfl,trivial⟩ ⟨hB,f,g,ho_hP8_8,(by (rw[←xS (BV (kk:=w4 S o i) q)];exact d)),(by (rw[←xS (BV (kk:=w4 S o i) q)];exact hoo2)),Om,trivial⟩ (by show (vh S o).length-(i+1)<(vh S o).length-i;omega)
 have T:=ZO O hB
 have F:=an (dz.size hS) (aae O.symm)
 have U:=aaQ (b:=y) hoo2 (aae O.symm)
 obtain⟨hB,f,g,ho_hP8_8,d,hoo2⟩:=P.k6 hB f g ho_hP8_8 d hoo2
 replace hS:=hS.trans P
 refine To 5 rfl (TC (vs:=[.agg #[_,_,_], .agg #[_,_,_]]) IZ (uZ S _ _ ⟨((vh S o).getD i ⟨0,0⟩),1*2^o⟩ _ (Below.slT hB hon) (Below.slT hB hmay) ⟨hgg.1,hgg.2,(by show 1*2^o<256;omega)⟩) rfl λaF a9 Y E=>⟨.inl (hS.trans Y),?_⟩)
 obtain⟨hB,f,g,ho_hP8_8,d,hoo2,l⟩:=Y.k7 hB f g ho_hP8_8 d hoo2 l
 replace hS:=hS.trans Y
 rw[aap,if_pos (zH hr D hi2)]at E
 obtain rfl:=E
 refine Tw 6 (.tuple #[.agg #[_,_,_], .int .i64 _]) rfl rfl hS<|Tk 7 rfl (λ_ _=>c7 rfl) hS<|Tk 8 rfl (λ_ _=>da rfl) hS<|To 10 rfl (cz rfl rfl dP rfl l rfl rfl λba s aJ=>⟨.inl (db hS s (am _) (λj hj=>by have e:y=j:=Z9 hj;rw[←e];exact F)),?_⟩)
 replace hS:dz _ _:=db hS s (am _) (λj hj=>by have e:y=j:=Z9 hj;rw[←e];exact F)
 replace hB:=Zg hB s T
 replace f:=At.grownAt f l s Dd
 replace g:=At.grownAt g l s Dd
 replace ho_hP8_8:=cD.grownAt ho_hP8_8 l s Dd
 replace d:=du.grownAt d l s
 replace hoo2:=aat hoo2 U s
 replace l:=aJ
 refine Ti 11 rfl rfl hS<|Td<|Zr<|Zw (.map (some t)) rfl<|Zv (cy rfl dP rfl l)<|Zv (fV (enc:=sq) (encV:=Value.bool) (v0:=false) (k:=(w4 S o i)) rfl rfl tZ rK (λa=>⟨a,rfl⟩) uH qj rfl d)<|Zv (eR rfl)<|ct<|ZQ rfl (λq=> ?_) λq=> ?_
 refine Zr<|Zw (.map (some t)) rfl<|Zv (cy rfl dP rfl l) ?_
 refine gK (dd:=none) rfl rfl rfl (fJ (enc:=sq) (encV:=Value.bool) (k:=(w4 S o i)) (v:=true) rfl rfl rfl tZ rK (λa=>⟨a,rfl⟩) uH d (λbb C aK=> ?_))
 replace hB:=Zg hB C aa
 replace f:=At.grownMap f d C
 replace g:=At.grownMap g d C
 replace ho_hP8_8:=cD.grownMap ho_hP8_8 d C
 replace hoo2:=cD.grownMap hoo2 d C
 replace l:=At.grownMap l d C
 replace d:=aK
 rw[jP]at d
 refine ct<|cN<|Zw v1 rfl<|Zv (cy rfl dP rfl l)<|Zy (eK (u:= .agg #[_,_,_]) rfl dM g7 rfl Dd Dd λV bc bd aL X=> ?_)
 obtain⟨hB,f,g,ho_hP8_8,d,hoo2⟩:=aL.k6 hB f g ho_hP8_8 d hoo2
 refine Zy (dZ (v:=v1) (v2:= .slice (some ⟨V,0,none⟩) 1 1) rfl rfl dM g7 Dd hoo2 (eT X rfl) rfl (n4 hB) (by omega) (by omega) λG bf I z=> ?_)
 replace z:=cD.snoc (enc:=gv) (x:=(w4 S o i)) rfl rfl rfl rfl z
 replace hB:=ZG hB I hoo2
 replace f:=At.grownOw f hoo2 I Dd
 replace g:=At.grownOw g hoo2 I Dd
 replace ho_hP8_8:=cD.grownOw ho_hP8_8 hoo2 I Dd
 replace d:=du.grownOw d hoo2 I
 refine Zw G rfl<|ct<|ZT rfl rfl rfl ?_
 exact K _ _ ((i+1,G)) Za ⟨rfl,rfl,trivial⟩ ⟨hB,f,g,ho_hP8_8,(by exact d),(by (rw[←IC (Iz (kk:=w4 S o i) q)];exact z)),Om,trivial⟩ (by show (vh S o).length-(i+1)<(vh S o).length-i;omega)
 refine cu<|ZT rfl rfl rfl ?_
 exact K _ _ ((i+1,v1)) Za ⟨rfl,rfl,trivial⟩ ⟨hB,f,g,ho_hP8_8,(by (rw[←xS (BV (kk:=w4 S o i) q)];exact d)),(by (rw[←xS (BV (kk:=w4 S o i) q)];exact hoo2)),Om,trivial⟩ (by show (vh S o).length-(i+1)<(vh S o).length-i;omega)
 refine cR<|ZT rfl rfl rfl ?_
 exact ai _ _ ((o+1,v1)) Za ⟨rfl,rfl,trivial⟩ ⟨hB,f,(by rw[GZ];have e:i=(vh S o).length:=Om;subst e;exact d),(by rw[GZ];have e:i=(vh S o).length:=Om;subst e;exact hoo2),Om,trivial⟩ (by show S.on.length-(o+1)<S.on.length-o;omega)
 refine cR<|Zr<|Zw v0 rfl<|Zw v0 rfl<|ZZ rfl<|Zt<|dL (v:=v0) rfl (v1:= .int .i64 0) rfl ⟨hB,?_⟩
 obtain rfl:o=S.on.length:=by omega
 rw[if_pos hr]
 exact⟨_,rfl,ho⟩
end
section
open Go Go.RowKit
theorem RM:cX Tryz.prog 174=true:=by kernel_rfl
theorem SD:cX Tryz.prog 175=true:=by kernel_rfl
theorem St:cX Tryz.prog 176=true:=by kernel_rfl
theorem ru:dT Tryz.prog 85=some (.agg #[.slice none 0 0, .int .i64 0, .int .i64 0, .int .i64 0]):=by kernel_rfl
theorem vF:dS Tryz.prog 49 0=some 0:=by kernel_rfl
theorem Q4:cX Tryz.prog 145=true:=by kernel_rfl
theorem vQ:(Tryz.prog.info? 83).map (·.size)=some 1:=by kernel_rfl
theorem jI {f:Nat→Value} {w:World} {d:Option Nat} {ty:TypeId} {ps:String} {af:Array Edge} {g:Option (Nat×Bool)}:
    (execOp (dg f) ⟨d, .build 85 #[],ty,ps,af,g⟩).run Tryz.prog w= .ok (.value (.agg #[.slice none 0 0, .int .i64 0, .int .i64 0, .int .i64 0])) w:=by
  obtain⟨i0,hi0,hz0⟩:=Do.1 (show (Tryz.prog.info? 85).bind (·.zero)=_ from ru)
  obtain⟨j3,hj3,hs3⟩:=go.1 fH
  obtain⟨j27,hj27,hs27⟩:=go.1 np
  obtain⟨j83,hj83,hs83⟩:=go.1 vQ
  simp[execOp,Instr.build,zeroValue,typeInfo,sizeOf,hi0,hz0,run_underlying Tryz.underlying85,Instr.fill,dX,hj3,hs3,hj27,hs27,hj83,hs83]
theorem fk:j8 Tryz.prog 85=some 4:=by kernel_rfl
theorem Rk:cX Tryz.prog 146=true:=by kernel_rfl
theorem r8:dS Tryz.prog 49 1=some 1:=by kernel_rfl
theorem PM:cX Tryz.prog 148=true:=by kernel_rfl
theorem x6 {f:Nat→Value} {w:World} {d:Option Nat} {ty:TypeId} {ps:String} {af:Array Edge} {g:Option (Nat×Bool)} {x0 x1:Operand} {c0_0 c1_0:Value} (h0:dg f x0=c0_0) (k0:c0_0.cells= #[c0_0]) (h1:dg f x1=c1_0) (k1:c1_0.cells= #[c1_0]):
    (execOp (dg f) ⟨d, .build 85 #[(1,x0),(3,x1)],ty,ps,af,g⟩).run Tryz.prog w= .ok (.value (.agg #[.slice none 0 0,c0_0, .int .i64 0,c1_0])) w:=by
  obtain⟨i0,hi0,hz0⟩:=Do.1 (show (Tryz.prog.info? 85).bind (·.zero)=_ from ru)
  obtain⟨j3,hj3,hs3⟩:=go.1 fH
  obtain⟨j27,hj27,hs27⟩:=go.1 np
  obtain⟨j83,hj83,hs83⟩:=go.1 vQ
  simp[execOp,h0,k0,h1,k1,Instr.build,zeroValue,typeInfo,sizeOf,hi0,hz0,run_underlying Tryz.underlying85,Instr.fill,dX,hj3,hs3,hj27,hs27,hj83,hs83]
theorem rL:dS Tryz.prog 85 0=some 0:=by kernel_rfl
theorem RG:cX Tryz.prog 103=true:=by kernel_rfl
theorem Qm:cX Tryz.prog 104=true:=by kernel_rfl
theorem tL {f:Nat→Value} {w:World} {d:Option Nat} {ty:TypeId} {ps:String} {af:Array Edge} {g:Option (Nat×Bool)} {x0 x1 x2 x3:Operand} {c0_0 c1_0 c2_0 c3_0:Value} (h0:dg f x0=c0_0) (k0:c0_0.cells= #[c0_0]) (h1:dg f x1=c1_0) (k1:c1_0.cells= #[c1_0]) (h2:dg f x2=c2_0) (k2:c2_0.cells= #[c2_0]) (h3:dg f x3=c3_0) (k3:c3_0.cells= #[c3_0]):
    (execOp (dg f) ⟨d, .build 85 #[(0,x0),(1,x1),(2,x2),(3,x3)],ty,ps,af,g⟩).run Tryz.prog w= .ok (.value (.agg #[c0_0,c1_0,c2_0,c3_0])) w:=by
  obtain⟨i0,hi0,hz0⟩:=Do.1 (show (Tryz.prog.info? 85).bind (·.zero)=_ from ru)
  obtain⟨j3,hj3,hs3⟩:=go.1 fH
  obtain⟨j27,hj27,hs27⟩:=go.1 np
  obtain⟨j83,hj83,hs83⟩:=go.1 vQ
  simp[execOp,h0,k0,h1,k1,h2,k2,h3,k3,Instr.build,zeroValue,typeInfo,sizeOf,hi0,hz0,run_underlying Tryz.underlying85,Instr.fill,dX,hj3,hs3,hj27,hs27,hj83,hs83]
theorem JI:j8 Tryz.prog 49=some 2:=by kernel_rfl
theorem Rb:cX Tryz.prog 101=true:=by kernel_rfl
theorem Vy:dT Tryz.prog 27=some (.int .i64 0):=by kernel_rfl
theorem H5:cX Tryz.prog 102=true:=by kernel_rfl
set_option maxRecDepth 20000 in
theorem zb (S:Sp) (onV mayV:Value) (R:Nat) (w:World) (hon:dh fT 4 w onV S.on) (hmay:dh fT 4 w mayV S.may) (hr:dq S=true) (hR:R≤20000):
    Fn Tryz.prog 145 #[.agg #[.int .i64 S.n,onV,mayV], .int .i64 (R:Int)] w λv w'=>∃x e,v= .tuple #[x, .int .i64 e]∧S8 R S e∧(e=0→cD gv 3 158 w' w.heap.size x (eW S)):=by
 refine cH (n:=31) Tryz.func145 rfl rfl rfl λhB=> ?_
 refine Zr<|Zy (dt (c:= #[_,_,_]) rfl rfl λu W3 y k a=> ?_)
 replace hB:=Ze hB k
 refine Zw (.slice none 0 0) rfl<|ZZ rfl<|Zr<|Zi rfl<|ZC RM (Lh R _ hR) rfl λz W8 l m=> ?_
 have o:=(Below.size hB)
 obtain⟨hB,a⟩:=l.k2 hB a
 obtain⟨bz,ba,bm,rfl,hz,hD⟩:=m
 replace hD:=fC.mono hD o
 refine Zw (.tuple #[.pointer (some ⟨bz,0,none⟩), .int .i64 0]) rfl<|Zv (c7 rfl)<|Zv (da rfl)<|Zp rfl<|ZZ rfl<|Zq<|Zr<|Zi rfl<|Zv (ep rfl rfl)<|ct<|ZQ rfl (λg=> ?_) λg=> ?_
 exact absurd rfl g
 refine cu<|Zq<|Zr<|Zp rfl<|Zv (cy rfl el rfl a)<|ZH (vs:=[.pointer (some ⟨bz,0,none⟩), .agg #[_,_,_]]) SD (CD w _ _ _ _ _ S onV mayV _ hB hz hD hr hon hmay) rfl λA B p=> ?_
 obtain⟨C,r,h,rfl,b,s,i⟩:=p
 replace hB:=Below.dx hB (am _) (am _) b
 replace a:=At.dx hD b a Dd Dd
 replace hz:=At.dx hD b hz Dd Dd
 replace hD:=s
 refine Zw (.tuple #[.int .i64 (r:Int), .int .i64 h]) rfl<|Zv (c7 rfl)<|Zv (da rfl)<|Zi rfl<|ZZ rfl ?_
 have hro5:=hD.room
 have hwf5:=hD.wf
 refine Zr<|Zi rfl<|Zv (ep rfl rfl)<|ct<|ZQ rfl (λd=> ?_) λd=> ?_
 refine Zr<|Zi rfl<|Zw (.slice none 0 0) rfl<|ZZ rfl<|Zt<|dL (v:= .slice none 0 0) rfl (v1:= .int .i64 _) rfl ⟨hB,?_⟩
 exact⟨_,_,rfl,⟨_,_,i,hro5,hwf5⟩,λq=>absurd q d⟩
 refine cu ?_
 have he0:h=0:=aaa d
 refine Zr<|Zv (cy rfl el rfl a)<|ZC (vs:=[.agg #[_,_,_]]) St (E9 S _ _ _ (Below.slT hB hon) (Below.slT hB hmay)) rfl λD E f j=> ?_
 have t:=(Below.size hB)
 obtain⟨hB,a⟩:=f.k2 hB a
 replace hD:=fC.ext f hD
 replace hz:=f.at hz
 rw[if_pos hr]at j
 obtain⟨xl,rfl,hol⟩:=j
 replace hol:=cD.mono hol t
 refine Zv (c7 rfl)<|Zv (da rfl)<|Zw xl rfl<|ZZ rfl<|Zt<|dL (v:=xl) rfl (v1:= .int .i64 0) rfl ⟨hB,?_⟩
 exact⟨_,_,rfl,⟨_,_,he0▸i,hro5,hwf5⟩,λ_=>hol⟩
set_option maxRecDepth 20000 in
theorem zF (S:Sp) (onV mayV:Value) (R T:Nat) (w:World) (hon:dh fT 4 w onV S.on) (hmay:dh fT 4 w mayV S.may) (hr:dq S=true) (hR:R≤20000) (hT:T≤1000000) (h4:S.n≤4) (h3:S.on.length≤3):
    Fn Tryz.prog 101 #[.agg #[.int .i64 S.n,onV,mayV], .agg #[.int .i64 (R:Int), .int .i64 (T:Int)]] w λv w'=>∃x how sp e Rr,v= .tuple #[.agg #[x, .int .i64 how, .int .i64 0, .int .i64 sp], .int .i64 e]∧cD gv 3 158 w' w.heap.size x Rr∧Yz R T S how sp e Rr:=by
 refine cH (n:=91) Tryz.func101 rfl rfl rfl λhB=> ?_
 refine Zr<|Zy (dt (c:= #[_,_,_]) rfl rfl λY W3 a6 Z f=> ?_)
 replace hB:=Ze hB Z
 refine Zy (dt (c:= #[_,_]) rfl rfl λaa W6 a7 ab g=> ?_)
 obtain⟨hB,f⟩:=ab.k2 hB f
 refine Zy (cI ru rfl λac W9 ad ae d=> ?_)
 have D:=ZO ad hB
 obtain⟨hB,f,g⟩:=ae.k3 hB f g
 refine ZZ rfl<|Zr<|Zv (cy rfl el rfl f)<|Zf rfl vF<|Zl rfl cK g rfl<|ZC (vs:=[.agg #[_,_,_], .int .i64 _]) Q4 (zb S _ _ R _ (Below.slT hB hon) (Below.slT hB hmay) hr hR) rfl λa8 a9 af ag=> ?_
 have ah:=(Below.size hB)
 obtain⟨hB,f,g,d⟩:=af.k4 hB f g d
 obtain⟨x1_3,e1_3,rfl,hno1_3,hxo1_3⟩:=ag
 have hszP:=ah
 refine Zw (.tuple #[x1_3, .int .i64 e1_3]) rfl<|Zv (c7 rfl)<|Zv (da rfl)<|Zw x1_3 rfl<|Zw (.int .i64 e1_3) rfl<|ct<|Zq<|Zr<|Zw (.int .i64 e1_3) rfl<|Zv (ep rfl rfl)<|ct<|ZQ rfl (λE=> ?_) λE=> ?_
 refine Zr<|Zv (jI)<|Zw (.int .i64 e1_3) rfl<|Zy (cz rfl rfl fk rfl d rfl rfl λba ai aj=> ?_)
 replace hB:=Zg hB ai D
 replace d:=aj
 refine Zw (.int .i64 e1_3) rfl<|ct<|Zt<|eI rfl fk d rfl (v1:= .int .i64 e1_3) rfl ⟨hB,?_⟩
 exact⟨_,_,_,_,_,rfl,cD.nil, .inr (.inl (by obtain⟨ns',id,h⟩:=hno1_3;obtain rfl:=ZJ h.1 E;exact⟨rfl,ns',id,h⟩))⟩
 refine cu ?_
 have he0:e1_3=0:=aaa E
 have hxo:=cD.mono (hxo1_3 he0) hszP
 have hl2:=KB hr h4 h3
 have hl4:(eW S).length≤4000:=by omega
 have ak:=Vm hr hl4
 have al:=kE (S:=S) hl4
 have hrl0:=N2 hr
 refine Zr<|Zv (cy rfl el rfl f)<|Zw x1_3 rfl<|ZC (vs:=[.agg #[_,_,_],x1_3]) Rk (Co S _ _ _ (eW S) _ (Below.slT hB hon) (Below.slT hB hmay) hxo.sl Om (UC hr)) rfl λbb bc ao I=> ?_
 obtain⟨hB,f,g,d,hxo⟩:=ao.k5 hB f g d hxo
 rw[if_pos ak]at I
 obtain⟨rv4_2,bd,rfl,hk4_2,hLO4_2⟩:=I
 replace hk4_2:=cD.mono hk4_2 (my _)
 replace hLO4_2:=LO.mono hLO4_2 (my _)
 refine Zw (.tuple #[.agg #[.int .i64 _,rv4_2], .int .i64 0]) rfl<|Zv (c7 rfl)<|Zv (da rfl)<|Zy (cI gq rfl λap bf aq ar i=> ?_)
 have au:=ZO aq hB
 obtain⟨hB,f,g,d,hxo,hk4_2,hLO4_2⟩:=ar.k7 hB f g d hxo hk4_2 hLO4_2
 refine Zy (cz rfl rfl cY rfl i rfl (by exact iB (cD.one hk4_2)) λbg s av=> ?_)
 replace hB:=Zg hB s au
 replace f:=At.grownAt f i s Dd
 replace g:=At.grownAt g i s Dd
 replace d:=At.grownAt d i s Dd
 replace hxo:=cD.grownAt hxo i s Dd
 replace hk4_2:=cD.grownAt hk4_2 i s Dd
 replace hLO4_2:=LO.grownAt hLO4_2 i s Dd
 replace i:=av
 refine ZZ rfl<|Zq<|Zr<|Zi rfl<|Zv (ep rfl rfl)<|ct<|ZQ rfl (λJ=> ?_) λJ=> ?_
 exact absurd rfl J
 refine cu<|Zr<|Zv (cy rfl cY rfl i)<|ZC (vs:=[.agg #[_,_]]) It (qa _ _ _ (mI S (eW S)) _ (cD.mono hk4_2 (my _)) (LO.mono hLO4_2 (my _)) al Om) rfl λbh bi aw ax=> ?_
 have ay:=(Below.size hB)
 obtain⟨hB,f,g,d,hxo,hk4_2,hLO4_2,i⟩:=aw.k8 hB f g d hxo hk4_2 hLO4_2 i
 obtain⟨tv7_1,T7_1,rv7_1,bj,L7_1,rfl,ht7_1,hk7_1,hLO7_1,hrd7_1,az,hln7_1,hTl7_1⟩:=ax
 skip
 replace ht7_1:=cD.mono ht7_1 ay
 refine Zw (.tuple #[tv7_1, .agg #[.int .i64 _,rv7_1], .int .i64 0]) rfl<|Zv (iO rfl)<|Zv (kf rfl)<|Zv (jS rfl)<|Zy (cI gq rfl λaA bk K aB l=> ?_)
 have aC:=ZO K hB
 have aD:=Zn K i.lt
 obtain⟨hB,f,g,d,hxo,hk4_2,hLO4_2,i,ht7_1,hk7_1,hLO7_1⟩:=aB.k11 hB f g d hxo hk4_2 hLO4_2 i ht7_1 hk7_1 hLO7_1
 refine Zw tv7_1 rfl<|Zy (cz rfl rfl cY rfl l rfl (by exact iB (cD.one hk7_1)) λbl o aE=> ?_)
 replace hB:=Zg hB o aC
 replace f:=At.grownAt f l o Dd
 replace g:=At.grownAt g l o Dd
 replace d:=At.grownAt d l o Dd
 replace hxo:=cD.grownAt hxo l o Dd
 replace hk4_2:=cD.grownAt hk4_2 l o Dd
 replace hLO4_2:=LO.grownAt hLO4_2 l o Dd
 replace i:=At.grownNe i aD o
 replace ht7_1:=cD.grownAt ht7_1 l o Dd
 replace hk7_1:=cD.grownAt hk7_1 l o Dd
 replace hLO7_1:=LO.grownAt hLO7_1 l o Dd
 replace l:=aE
 refine ZZ rfl<|Zr<|Zv (cy rfl cY rfl l)<|Zf rfl r8<|Zl rfl cK g rfl<|ZC (vs:=[.agg #[_,_], .int .i64 _]) PM (w8 _ _ _ L7_1 (T:Int) _ (cD.mono hk7_1 (my _)) (LO.mono hLO7_1 (my _)) az Om (Kh hr hl4 hrd7_1) Om) rfl λbm bn aF aG=> ?_
 have bo:=abU ht7_1
 have aH:=(Below.size hB)
 obtain⟨hB,f,g,d,hxo,hk4_2,hLO4_2,i,ht7_1,hk7_1,hLO7_1,l⟩:=aF.k12 hB f g d hxo hk4_2 hLO4_2 i ht7_1 hk7_1 hLO7_1 l
 obtain⟨tv8_3,X8_3,s8_3,e8_3,rfl,ht8_3,hXl8_3,aI,hsb8_3,hfw8_3,hto8_3⟩:=Ko aG (Int.natCast_nonneg _)
 replace ht8_3:=cD.mono ht8_3 aH
 refine Zw (.tuple #[tv8_3, .int .i64 s8_3, .int .i64 e8_3]) rfl<|Zv (iO rfl)<|Zv (kf rfl)<|Zv (jS rfl)<|Zw tv8_3 rfl<|Zw (.int .i64 s8_3) rfl<|Zw (.int .i64 e8_3) rfl<|ct<|Zq<|Zr<|Zw (.int .i64 e8_3) rfl<|Zv (ep rfl rfl)<|ct<|ZQ rfl (λA=> ?_) λA=> ?_
 refine Zr<|Zv (jI)<|Zw (.int .i64 e8_3) rfl<|Zy (cz rfl rfl fk rfl d rfl rfl λbp aJ aK=> ?_)
 replace hB:=Zg hB aJ D
 replace d:=aK
 refine Zw (.int .i64 e8_3) rfl<|ct<|Zt<|eI rfl fk d rfl (v1:= .int .i64 e8_3) rfl ⟨hB,?_⟩
 exact⟨_,_,_,_,_,rfl,cD.nil, .inr (.inr ⟨(hto8_3 A).1,he0▸hno1_3,L7_1,T7_1,hrd7_1,by have:=(hto8_3 A).2;rwa [so]at this⟩)⟩
 refine cu<|Zr<|Zy (gQ (enc:=eH) (encV:=Value.bool) λB bq aL L y=> ?_)
 have aM:=ZO aL hB
 obtain⟨hB,f,g,d,hxo,hk4_2,hLO4_2,i,ht7_1,hk7_1,hLO7_1,l⟩:=L.k12 hB f g d hxo hk4_2 hLO4_2 i ht7_1 hk7_1 hLO7_1 l
 replace ht8_3:=L.ow ht8_3
 replace y:du eH Value.bool _ _ (fp []):=y
 refine Zw (.map (some B)) rfl<|ct<|Zq<|Zr<|Zw tv7_1 rfl<|Zw tv8_3 rfl<|Zy (dZ (v:=tv7_1) (v2:=tv8_3) rfl rfl cM eQ Dd ht7_1 ht8_3.sl (lN) (n4 hB) Om Om λF br p q=> ?_)
 replace q:=cD.app (enc:=dJ) rfl rfl rfl rfl q
 replace hB:=ZG hB p ht7_1
 replace f:=At.grownOw f ht7_1 p Dd
 replace g:=At.grownOw g ht7_1 p Dd
 replace d:=At.grownOw d ht7_1 p Dd
 replace hxo:=cD.grownOw hxo ht7_1 p Dd
 replace hk4_2:=cD.grownOw hk4_2 ht7_1 p Dd
 replace i:=At.grownOw i ht7_1 p Dd
 replace hk7_1:=cD.grownOw hk7_1 ht7_1 p Dd
 replace l:=At.grownOw l ht7_1 p Dd
 replace y:=du.grownOw y ht7_1 p
 refine Zv (cT (v:=F) rfl q.sl cM)<|ZZ rfl<|cx ?_
 refine cS (σ:=(Nat)) [16,16,64,70] (λj=>[(64, .int .i64 (j:Int))]) (λj W=>(Below w.heap.size w W)∧(At W Y _ 59)∧(At W aa _ 49)∧(At W ac _ 85)∧(cD gv 3 158 W w.heap.size x1_3 _)∧(cD encV 1 35 W 0 rv4_2 _)∧(At W ap _ 203)∧(cD encV 1 35 W 0 rv7_1 _)∧(At W aA _ 203)∧(cD dJ 1 3 W w.heap.size F _)∧(du eH Value.bool W B (fp (qs [] (T7_1++X8_3) j)))∧(j≤(T7_1++X8_3).length)∧(True)) (λj=>(T7_1++X8_3).length-j) (0) ⟨rfl,trivial⟩ ⟨hB,f,g,d,hxo,hk4_2,i,hk7_1,l,q,y,(my _),trivial⟩ ?_
 rintro j bs z ⟨hB,f,g,d,hxo,hk4_2,i,hk7_1,l,q,hmk,hj,_⟩ bt aN
 have hcl:(T7_1++X8_3).length≤16000:=by rw[An];omega
 refine Zr<|Zv (dk rfl rfl)<|ct<|Zq<|ZQ rfl (λaO=> ?_) λaO=> ?_
 refine cu<|Zq<|cx<|Zr<|Zv (df (v:=F) rfl q.sl rfl cM Om Om)<|Zv (cB (v:= .int .i64 _) rfl cK (dh.cell q.sl dI 0 Om Om 0 rfl))<|ZZ rfl<|cN<|Zw (.map (some B)) rfl<|Zi rfl ?_
 refine gK (dd:=none) rfl rfl rfl (fJ (enc:=eH) (encV:=Value.bool) (k:=((T7_1++X8_3).getD j 0)) (v:=true) rfl rfl rfl mp gT (λa=>⟨a,rfl⟩) fU hmk (λbu r aP=> ?_))
 replace hB:=Zg hB r aM
 replace f:=At.grownMap f hmk r
 replace g:=At.grownMap g hmk r
 replace d:=At.grownMap d hmk r
 replace hxo:=cD.grownMap hxo hmk r
 replace hk4_2:=cD.grownMap hk4_2 hmk r
 replace i:=At.grownMap i hmk r
 replace hk7_1:=cD.grownMap hk7_1 hmk r
 replace l:=At.grownMap l hmk r
 replace q:=cD.grownMap q hmk r
 replace hmk:=aP
 rw[jP]at hmk
 refine ct<|ZT rfl rfl rfl ?_
 exact aN _ _ (j+1) Za ⟨rfl,trivial⟩ ⟨hB,f,g,d,hxo,hk4_2,i,hk7_1,l,q,(by exact hmk),Om,trivial⟩ Zo
 refine cR ?_
 have bv:=Below.slT hB hon
 have bw:=Below.slT hB hmay
 have M:=hB
 replace hB:=Below.refl z.heap.size z
 obtain rfl:j=(T7_1++X8_3).length:=by omega
 refine Zr<|Zw (.int .i64 s8_3) rfl<|Zv (x6 (h0:=rfl) (k0:=rfl) (h1:=rfl) (k1:=rfl) (c0_0:= .int .i64 1) (c1_0:= .int .i64 s8_3))<|Zy (cI ru rfl λaQ bx aR aS m=> ?_)
 have N:=ZO aR hB
 replace hB:=Ze hB aS
 refine Zy (cz rfl rfl fk rfl m rfl rfl λbz aT aU=> ?_)
 replace hB:=Zg hB aT N
 replace m:=aU
 refine ct<|Zq<|Zr<|Zw x1_3 rfl<|Zv (cT (v:=x1_3) rfl ((Below.ow hB hxo)).sl dM)<|ZZ rfl<|cx ?_
 refine cS (σ:=(Nat)×(Value)) [18,19,75,89] (λ(k,v0)=>[(75, .int .i64 (k:Int))]) (λsg W=>match sg with|(k,v0)=>(Below z.heap.size z W)∧(At W aQ #[v0, .int .i64 1, .int .i64 0, .int .i64 s8_3] 85)∧(cD gv 3 158 W z.heap.size v0 (z6 (eW S) (qs [] (T7_1++X8_3) (T7_1++X8_3).length) k))∧(k≤(eW S).length)∧(True)) (λ(k,v0)=>(eW S).length-k) ((0, .slice none 0 0)) ⟨rfl,trivial⟩ ⟨hB,m,cD.nil,(my _),trivial⟩ ?_
 rintro⟨k,v0⟩ bA bB ⟨hB,m,ho,hk,_⟩ bC O
 refine Zr<|Zv (dk rfl rfl)<|ct<|Zq<|ZQ rfl (λaV=> ?_) λaV=> ?_
 refine cu<|Zq<|cx<|Zr<|Zi rfl<|Zv (df (v:=x1_3) rfl ((Below.ow hB hxo)).sl rfl dM Om Om)<|Zv (gH rfl dP (dh.cell ((Below.ow hB hxo)).sl eh ⟨⟨0,0⟩,0⟩ Om Om 0 rfl) (dh.cell ((Below.ow hB hxo)).sl eh ⟨⟨0,0⟩,0⟩ Om Om 1 rfl) (dh.cell ((Below.ow hB hxo)).sl eh ⟨⟨0,0⟩,0⟩ Om Om 2 rfl))<|Zy (cI jD rfl λaW bD P aX C=> ?_)
 have aY:=ZO P hB
 have aZ:=aaQ (b:=aW) ho (aae P.symm)
 obtain⟨hB,m,ho⟩:=aX.k3 hB m ho
 refine Zi rfl<|Zy (cz rfl rfl dP rfl C rfl rfl λbE G a0=> ?_)
 replace hB:=Zg hB G aY
 replace m:=At.grownAt m C G Dd
 replace ho:=aat ho aZ G
 replace C:=a0
 refine ct<|Zr<|Zw (.map (some B)) rfl<|Zi rfl<|Zv (fV (enc:=eH) (encV:=Value.bool) (v0:=false) (k:=_) rfl rfl mp gT (λa=>⟨a,rfl⟩) fU qj rfl (abt hB hmk))<|ct<|ZQ rfl (λH=> ?_) λH=> ?_
 refine cN<|Zf rfl rL<|ZL v0 rfl m3 m rfl<|Zv (cy rfl dP rfl C)<|Zy (eK (u:= .agg #[_,_,_]) rfl dM g7 rfl Dd Dd λa1 bF bG a2 a3=> ?_)
 obtain⟨hB,m,ho⟩:=a2.k3 hB m ho
 refine Zy (dZ (v:=v0) (v2:= .slice (some ⟨a1,0,none⟩) 1 1) rfl rfl dM g7 Dd ho (eT a3 rfl) rfl (n4 hB) (by have:=Jr (eW S) (qs [] (T7_1++X8_3) (T7_1++X8_3).length) k;omega) (by have:=Jr (eW S) (qs [] (T7_1++X8_3) (T7_1++X8_3).length) k;omega) λQ bH U t=> ?_)
 replace t:=cD.snoc (enc:=gv) (x:=((eW S).getD k ⟨⟨0,0⟩,0⟩)) rfl rfl rfl rfl t
 replace hB:=ZG hB U ho
 replace m:=At.grownOw m ho U Dd
 refine Zf rfl rL<|Zy (dm (v:=Q) rfl rfl m3 (dh.one t.sl) m gj λbI V a4=> ?_)
 replace hB:=Zg hB V N
 replace t:=cD.grownAt t m V Dd
 replace m:=a4
 replace m:At _ _ #[_,_,_,_] _:=m
 refine ct<|ZT rfl rfl rfl ?_
 exact O _ _ ((k+1,Q)) Za ⟨rfl,trivial⟩ ⟨hB,(by exact m),(by (rw[←WZ (uf H)];exact t)),Om,trivial⟩ (by show (eW S).length-(k+1)<(eW S).length-k;omega)
 refine cu<|ZT rfl rfl rfl ?_
 exact O _ _ ((k+1,v0)) Za ⟨rfl,trivial⟩ ⟨hB,(by exact m),(by (rw[←X5 (qR H)];exact ho)),Om,trivial⟩ (by show (eW S).length-(k+1)<(eW S).length-k;omega)
 refine cR ?_
 replace d:=On hB d
 have hzs:=an (am _) (Below.size M)
 replace ho:=cD.mono ho hzs
 replace hB:=Below.trans M (Below.mono hB hzs)
 obtain rfl:k=(eW S).length:=by omega
 refine Zr<|Zv (cy rfl fk rfl m)<|Zy (cz rfl rfl fk rfl d rfl (by exact rk (cD.one ho)) λbJ X a5=> ?_)
 replace hB:=Zg hB X D
 replace ho:=cD.grownAt ho d X Dd
 replace d:=a5
 refine ZZ rfl<|Zt<|eI rfl fk d rfl (v1:= .int .i64 0) rfl ⟨hB,?_⟩
 exact⟨_,_,_,_,_,rfl,ho, .inl ⟨rfl,rfl,aI,hsb8_3,he0▸hno1_3,Qi hr hl4 hrd7_1 (hfw8_3 (aaa A)) (λc=>Vp) (ye List.nodup_nil _)⟩⟩
theorem nA (S:Sp) (onV mayV:Value) (p q:Int) (bs be:Nat) (w:World) (hon:dh fT 4 w onV S.on) (hmay:dh fT 4 w mayV S.may) (hr:dq S=true) (hsp:At w bs #[.int .i64 S.n,onV,mayV] 59) (hbe:At w be #[.int .i64 q] 27):
    Fn Tryz.prog 102 #[.int .i64 p, .pointer (some ⟨bs,0,none⟩), .pointer (some ⟨be,0,none⟩)] w λv w'=>∃x,v= .tuple #[.agg #[x, .int .i64 2, .int .i64 q, .int .i64 p], .int .i64 0]∧cD gv 3 158 w' w.heap.size x (kY S (mL S)):=by
 refine cH (n:=26) Tryz.func102 rfl rfl rfl λhB=> ?_
 refine Zr<|Zy (cI ru rfl λm W3 e f a=> ?_)
 have g:=ZO e hB
 replace hB:=Ze hB f
 refine ZZ rfl<|Zr<|Zv (cy rfl el rfl (On hB hsp))<|ZC (vs:=[.agg #[_,_,_]]) RG (Cq S _ _ _ (Below.slT hB hon) (Below.slT hB hmay)) rfl λo W8 h b=> ?_
 have i:=(Below.size hB)
 obtain⟨hB,a⟩:=h.k2 hB a
 rw[if_pos hr]at b
 obtain⟨xpl,rfl,hpl⟩:=b
 replace hpl:=cD.mono hpl i
 refine Zw (.tuple #[xpl, .int .i64 0]) rfl<|Zv (c7 rfl)<|Zv (da rfl)<|Zw xpl rfl<|ZZ rfl<|Zr<|Zv (cy rfl el rfl (On hB hsp))<|Zw xpl rfl<|ZC (vs:=[.agg #[_,_,_],xpl]) Qm (Fh S _ _ _ (mL S) _ (Below.slT hB hon) (Below.slT hB hmay) hpl.sl (by have:=Ll hr;omega) (QY hr) (by have:=(dD.1 hr);omega)) rfl λr s j c=> ?_
 have t:=abU hpl
 have k:=(Below.size hB)
 obtain⟨hB,a⟩:=j.k2 hB a
 rw[if_pos (wa hr)]at c
 obtain⟨xtn,rfl,htn⟩:=c
 replace htn:=cD.mono htn k
 refine Zw (.tuple #[xtn, .int .i64 0]) rfl<|Zv (c7 rfl)<|Zv (da rfl)<|Zw xtn rfl<|ZZ rfl<|Zr<|Zw xtn rfl<|Zl rfl gn (On hB hbe) rfl<|Zi rfl<|Zv (tL (h0:=rfl) (k0:=dh.cells htn.sl) (h1:=rfl) (k1:=rfl) (h2:=rfl) (k2:=rfl) (h3:=rfl) (k3:=rfl) (c0_0:=xtn) (c1_0:= .int .i64 2) (c2_0:= .int .i64 _) (c3_0:= .int .i64 _))<|Zi rfl<|Zy (cz rfl rfl fk rfl a rfl (by exact rk (cD.one htn)) λu d l=> ?_)
 replace hB:=Zg hB d g
 replace htn:=cD.grownAt htn a d Dd
 replace a:=l
 refine ZZ rfl<|Zt<|eI rfl fk a rfl (v1:= .int .i64 0) rfl ⟨hB,?_⟩
 exact⟨_,rfl,htn⟩
theorem vI (S:Sp) (onV mayV:Value) (b0 b1:Int) (w:World) (hon:dh fT 4 w onV S.on) (hmay:dh fT 4 w mayV S.may) (hs:dq S=true→S.n≤4∧S.on.length≤3):
    Fn Tryz.prog 38 #[.agg #[.int .i64 S.n,onV,mayV], .agg #[.int .i64 b0, .int .i64 b1]] w λv w'=>if dq S=true∧oK b0 b1 then ∃x how why sp Rr,v= .tuple #[.agg #[x, .int .i64 how, .int .i64 why, .int .i64 sp], .int .i64 0]∧cD gv 3 158 w' w.heap.size x Rr∧LA b0.toNat b1.toNat S how why sp Rr else v= .tuple #[.agg #[.slice none 0 0, .int .i64 0, .int .i64 0, .int .i64 0], .int .i64 1]:=by
 refine cH (n:=56) Tryz.func38 rfl rfl rfl λhB=> ?_
 refine Zr<|Zy (dt (c:= #[_,_,_]) rfl rfl λi W3 ay D b=> ?_)
 replace hB:=Ze hB D
 refine Zy (dt (c:= #[_,_]) rfl rfl λaz W6 aA E d=> ?_)
 obtain⟨hB,b⟩:=E.k2 hB b
 refine Zy (cI ru rfl λaB W9 F G a=> ?_)
 have j:=ZO F hB
 obtain⟨hB,b,d⟩:=G.k3 hB b d
 refine ZZ rfl<|Zq<|Zr<|Zv (cy rfl el rfl b)<|ZC (vs:=[.agg #[_,_,_]]) oB (iJ S _ _ _ (Below.slT hB hon) (Below.slT hB hmay)) rfl λaC aD H I=> ?_
 obtain⟨hB,b,d,a⟩:=H.k4 hB b d a
 obtain rfl:=I
 refine Zv (eR rfl)<|ZX rfl (λr=> ?_) λr=> ?_
 refine Zs<|Zs<|Zs<|Zb rfl<|Zb rfl<|Zs<|Zs<|Zs<|Zb rfl<|Zb rfl<|Zs<|Zs<|Zs<|Zb rfl ?_
 refine Zb rfl<|Zs<|Zs<|Zs<|Zb rfl<|ct<|cF rfl ?_
 have hno:¬(dq S=true∧oK b0 b1):=λh=>by rw[kT r]at h;exact Bool.noConfusion h.1
 refine Zr<|Zv (jI)<|Zy (cz rfl rfl fk rfl a rfl rfl λaE J K=> ?_)
 replace hB:=Zg hB J j
 replace a:=K
 refine ZZ rfl<|Zt<|eI rfl fk a rfl (v1:= .int .i64 1) rfl ⟨hB,?_⟩
 rw[if_neg hno]
 refine Zf rfl vF<|Zl rfl cK d rfl<|Zv (dk rfl rfl)<|Zb rfl<|ZX rfl (λL=> ?_) λL=> ?_
 refine Zs<|Zs<|Zs<|Zb rfl<|Zb rfl<|Zs<|Zs<|Zs<|Zb rfl<|Zb rfl<|Zs<|Zs<|Zs<|Zb rfl ?_
 refine ct<|cF rfl ?_
 have hno:¬(dq S=true∧oK b0 b1):=λh=>by have:=h.2;unfold oK at this;omega
 refine Zr<|Zv (jI)<|Zy (cz rfl rfl fk rfl a rfl rfl λaF M N=> ?_)
 replace hB:=Zg hB M j
 replace a:=N
 refine ZZ rfl<|Zt<|eI rfl fk a rfl (v1:= .int .i64 1) rfl ⟨hB,?_⟩
 rw[if_neg hno]
 refine Zf rfl vF<|Zl rfl cK d rfl<|Zv (il rfl rfl)<|Zb rfl<|ZX rfl (λO=> ?_) λO=> ?_
 refine Zs<|Zs<|Zs<|Zb rfl<|Zb rfl<|Zs<|Zs<|Zs<|Zb rfl<|ct<|cF rfl ?_
 have hno:¬(dq S=true∧oK b0 b1):=λh=>by have:=h.2;unfold oK at this;omega
 refine Zr<|Zv (jI)<|Zy (cz rfl rfl fk rfl a rfl rfl λaG P Q=> ?_)
 replace hB:=Zg hB P j
 replace a:=Q
 refine ZZ rfl<|Zt<|eI rfl fk a rfl (v1:= .int .i64 1) rfl ⟨hB,?_⟩
 rw[if_neg hno]
 refine Zf rfl r8<|Zl rfl cK d rfl<|Zv (dk rfl rfl)<|Zb rfl<|ZX rfl (λU=> ?_) λU=> ?_
 refine Zs<|Zs<|Zs<|Zb rfl<|ct<|cF rfl ?_
 have hno:¬(dq S=true∧oK b0 b1):=λh=>by have:=h.2;unfold oK at this;omega
 refine Zr<|Zv (jI)<|Zy (cz rfl rfl fk rfl a rfl rfl λaH V W=> ?_)
 replace hB:=Zg hB V j
 replace a:=W
 refine ZZ rfl<|Zt<|eI rfl fk a rfl (v1:= .int .i64 1) rfl ⟨hB,?_⟩
 rw[if_neg hno]
 refine Zf rfl r8<|Zl rfl cK d rfl<|Zv (il rfl rfl)<|Zb rfl<|ct<|ZQ rfl (λX=> ?_) λX=> ?_
 have hno:¬(dq S=true∧oK b0 b1):=λh=>by have:=h.2;unfold oK at this;omega
 refine Zr<|Zv (jI)<|Zy (cz rfl rfl fk rfl a rfl rfl λaI Y Z=> ?_)
 replace hB:=Zg hB Y j
 replace a:=Z
 refine ZZ rfl<|Zt<|eI rfl fk a rfl (v1:= .int .i64 1) rfl ⟨hB,?_⟩
 rw[if_neg hno]
 refine cu ?_
 have hr:dq S=true:=ms r
 have hm:oK b0 b1:=⟨⟨by omega,by omega⟩,by omega,by omega⟩
 obtain⟨R,T,rfl,rfl,hbd⟩:=U4 hm
 refine Zr<|Zv (cy rfl el rfl b)<|Zv (cy rfl JI rfl d)<|ZC (vs:=[.agg #[_,_,_], .agg #[_,_]]) Rb (zF S _ _ R T _ (Below.slT hB hon) (Below.slT hB hmay) hr hbd.2.1 hbd.2.2 (hs hr).1 (hs hr).2) rfl λaJ aK aa ab=> ?_
 have ac:=(Below.size hB)
 obtain⟨hB,b,d,a⟩:=aa.k4 hB b d a
 obtain⟨x3_2,how3_2,sp3_2,e3_2,Rr3_2,rfl,e,hfo3_2⟩:=ab
 replace e:=cD.mono e ac
 refine Zw (.tuple #[.agg #[x3_2, .int .i64 how3_2, .int .i64 0, .int .i64 sp3_2], .int .i64 e3_2]) rfl<|Zv (c7 rfl)<|Zv (da rfl)<|Zy (cI ru rfl λaL aM z ad g=> ?_)
 have ae:=ZO z hB
 have af:=Zn z a.lt
 obtain⟨hB,b,d,a,e⟩:=ad.k5 hB b d a e
 refine Zy (cI Vy rfl λk aN ag ah f=> ?_)
 have ai:=ZO ag hB
 obtain⟨hB,b,d,a,e,g⟩:=ah.k6 hB b d a e g
 refine Zy (cz rfl rfl fk rfl g rfl (by exact rk (cD.one e)) λaO l aj=> ?_)
 replace hB:=Zg hB l ae
 replace b:=At.grownAt b g l Dd
 replace d:=At.grownAt d g l Dd
 replace a:=At.grownNe a af l
 replace e:=cD.grownAt e g l Dd
 replace f:=At.grownAt f g l Dd
 replace g:=aj
 refine Zy (dm (v:= .int .i64 e3_2) rfl rfl gn rfl f LK λaP m ak=> ?_)
 replace hB:=Zg hB m ai
 replace b:=At.grownAt b f m Dd
 replace d:=At.grownAt d f m Dd
 replace a:=At.grownAt a f m Dd
 replace e:=cD.grownAt e f m Dd
 replace g:=At.grownAt g f m Dd
 replace f:=ak
 replace f:At _ _ #[_] _:=f
 refine ct<|Zr<|Zv (fI (vs:= #[.pointer (some ⟨i,0,none⟩), .pointer (some ⟨k,0,none⟩)]) Ga)<|Zw (.func (.func 102) #[] #[.pointer (some ⟨i,0,none⟩), .pointer (some ⟨k,0,none⟩)]) rfl<|ct<|Zq<|Zr<|ZL (.int .i64 e3_2) rfl gn f rfl<|ct<|cx<|Zr<|Zv (dW rfl rfl)<|Zb rfl<|ct ?_
 refine ZQ rfl (λs=> ?_) λs=> ?_
 refine Zr<|Zv (cy rfl fk rfl g)<|Zy (cz rfl rfl fk rfl a rfl (by exact rk (cD.one e)) λaQ A al=> ?_)
 replace hB:=Zg hB A j
 replace e:=cD.grownAt e a A Dd
 replace a:=al
 refine ZZ rfl<|Zt<|eI rfl fk a rfl (v1:= .int .i64 0) rfl ⟨hB,?_⟩
 (rw[if_pos ⟨hr,hm⟩];exact⟨_,_,_,_,_,rfl,e,ZA hfo3_2 s⟩)
 refine Zr<|Zv (dW rfl rfl)<|Zb rfl<|ct<|ZQ rfl (λt=> ?_) λt=> ?_
 have u:=Below.slT hB hon
 have y:=Below.slT hB hmay
 refine Zr<|Zw (.func (.func 102) #[] #[.pointer (some ⟨i,0,none⟩), .pointer (some ⟨k,0,none⟩)]) rfl<|Zf rfl r8<|Zl rfl cK d rfl ?_
 refine ol (dd:=some 49) rfl rfl rfl (ij (q:=102) (first:= #[]) (cap:= #[.pointer (some ⟨i,0,none⟩), .pointer (some ⟨k,0,none⟩)]) (vs:= #[.int .i64 _, .pointer (some ⟨i,0,none⟩), .pointer (some ⟨k,0,none⟩)]) rfl H5 Gb) (nA S _ _ _ _ _ _ _ u y hr b f) (λaR aS ao ap=> ?_)
 have aq:=(Below.size hB)
 obtain⟨hB,a⟩:=ao.k2 hB a
 obtain⟨x9_3,rfl,o⟩:=ap
 replace o:=cD.mono o aq
 refine Zv (c7 rfl)<|Zv (da rfl)<|Zy (cz rfl rfl fk rfl a rfl (by exact rk (cD.one o)) λaT B ar=> ?_)
 replace hB:=Zg hB B j
 replace o:=cD.grownAt o a B Dd
 replace a:=ar
 refine ZZ rfl<|Zt<|eI rfl fk a rfl (v1:= .int .i64 0) rfl ⟨hB,?_⟩
 (rw[if_pos ⟨hr,hm⟩];exact⟨_,_,_,_,_,rfl,o,YP hfo3_2 t⟩)
 refine cu ?_
 have u:=Below.slT hB hon
 have y:=Below.slT hB hmay
 refine Zr<|Zw (.func (.func 102) #[] #[.pointer (some ⟨i,0,none⟩), .pointer (some ⟨k,0,none⟩)]) rfl ?_
 refine ol (dd:=some 53) rfl rfl rfl (ij (q:=102) (first:= #[]) (cap:= #[.pointer (some ⟨i,0,none⟩), .pointer (some ⟨k,0,none⟩)]) (vs:= #[.int .i64 0, .pointer (some ⟨i,0,none⟩), .pointer (some ⟨k,0,none⟩)]) rfl H5 Gb) (nA S _ _ _ _ _ _ _ u y hr b f) (λaU aV au av=> ?_)
 have aw:=(Below.size hB)
 obtain⟨hB,a⟩:=au.k2 hB a
 obtain⟨x10_1,rfl,p⟩:=av
 replace p:=cD.mono p aw
 refine Zv (c7 rfl)<|Zv (da rfl)<|Zy (cz rfl rfl fk rfl a rfl (by exact rk (cD.one p)) λaW C ax=> ?_)
 replace hB:=Zg hB C j
 replace p:=cD.grownAt p a C Dd
 replace a:=ax
 refine ZZ rfl<|Zt<|eI rfl fk a rfl (v1:= .int .i64 0) rfl ⟨hB,?_⟩
 (rw[if_pos ⟨hr,hm⟩];exact⟨_,_,_,_,_,rfl,p,Yi hfo3_2 s t⟩)
end
section
open Go Go.RowKit
section
variable {Tj Ti T:TypeId} {N N' bj b:Nat} {w w':World} {c cj:Array Value}
theorem acq (hX:Dx Tj N [bj] w w') (hj:At w bj cj Tj) (k:At w b c T) (hT:T≠Tj):At w' b c T:=by
 have hne:=aco k hj hT
 unfold At at*
 rw[hX.block b (gf k) (.inr ⟨by simpa using hne,λc' fr e=>by rw[k]at e;simp at e;exact hT e.2.1⟩)]
 exact k
theorem ack {α:Type} {enc:α→List Value} {sz:Nat} {v:Value} {l:List α} (hX:Dx Tj N [bj] w w') (hj:At w bj cj Tj) (ho:cD enc sz T w N' v l) (hT:T≠Tj):cD enc sz T w' N' v l:=by
 obtain⟨q1,q2|⟨g,cap,cur,q3,hg,hh,q⟩⟩:=ho
 ·exact⟨q1, .inl q2⟩
 ·exact⟨q1, .inr ⟨g,cap,cur,q3,hg,acq (c:=cur) hX hj hh hT,q⟩⟩
theorem iT.dxj {vs:List uI} {ls:List Ln} (hX:Dx Tj N [bj] w w') (hj:At w bj cj Tj) (k:iT Ti N' w vs ls) (hT:Ti≠Tj):iT Ti N' w' vs ls:=⟨k.len,k.c,λi hi=>ack hX hj (k.o i hi) hT⟩
theorem mS.mono {P:Program} {g:Nat} {vs:Array Value} {w:World} {Post Post':Value→World→Prop} (h:mS P g vs w Post) (hp:∀v w',Post v w'→Post' v w'):mS P g vs w Post':=
 ⟨Calls.mono h.out λ_ _ ⟨v,he,hq⟩=>⟨v,he,hp _ _ hq⟩⟩
theorem Dx.below2 {T':TypeId} {xs:List Nat} (h:Dx T' N xs w w') (hN:N≤w.heap.size):Go.RowKit.Below N w w':=Below.dx (Go.RowKit.Below.refl N w) (am _) hN h
theorem abZ {T':TypeId} (h:w.grownBy w' (some bj)) (hN:N≤bj):Dx T' N [bj] w w':=Dx.grown h gj hN
end
structure Az (b K:Nat) (w w':World):Prop where
 g:w.grownBy w' (some b)
 keep:∀c T,At w b c T→∃c',At w' b c' T∧∀o,o<K→c'[o]? =c[o]?
section
variable {b K o:Nat} {w w' w0:World} {c:Array Value} {T:TypeId} {v:Value}
theorem Az.refl:Az b K w w:=⟨World.grownBy.refl _ _,λc T h=>⟨c,h,λ_ _=>rfl⟩⟩
theorem Az.ext (h:Az b K w0 w) (hE:dz w w'):Az b K w0 w':=⟨cC h.g (dz.grown hE (some b)),λc T k=>by
 obtain⟨c',h1,h2⟩:=h.keep c T k
 exact⟨c',hE.at h1,h2⟩⟩
theorem acg (h:Az b K w0 w) (k:At w b c T) (hG:w.grownBy w' (some b)) (k':At w' b (c.setIfInBounds o v) T) (ho:K≤o):Az b K w0 w':=⟨cC h.g hG,λc0 T0 k0=>by
 obtain⟨c1,h1,h2⟩:=h.keep c0 T0 k0
 have e:c1=c∧T0=T:=by
  unfold At at h1 k
  rw[h1]at k
  simp at k
  exact k
 obtain⟨rfl,rfl⟩:=e
 exact⟨_,k',λq hq=>by rw[abd (by omega)];exact h2 q hq⟩⟩
theorem Az.cell (h:Az b K w0 w) (k:At w0 b c T) (ho:o<K) (hc:c[o]? =some v):w.cell? ⟨b,o,none⟩=some v:=by
 obtain⟨c',h1,h2⟩:=h.keep c T k
 exact At.cell h1 (by rw[h2 o ho];exact hc)
end
def ZK (q0 q1 q2 q3 q4:Nat):Nat→Nat
 |0=>q0|1=>q1|2=>q2|3=>q3|_=>q4
def ZN (c0 c1 c2 c3 c4:Array Value):Nat→Array Value
 |0=>c0|1=>c1|2=>c2|3=>c3|_=>c4
def Yl (q0 q1 q2 q3 q4:Nat) (c0 c1 c2 c3 c4:Array Value):List Value:=[.func (.func q0) #[] c0, .func (.func q1) #[] c1, .func (.func q2) #[] c2, .func (.func q3) #[] c3, .func (.func q4) #[] c4]
section
variable {P:Program} {q0 q1 q2 q3 q4 k:Nat} {c0 c1 c2 c3 c4:Array Value}
theorem SL (hk:k<5):(Yl q0 q1 q2 q3 q4 c0 c1 c2 c3 c4).getD k undef= .func (.func (ZK q0 q1 q2 q3 q4 k)) #[] (ZN c0 c1 c2 c3 c4 k):=by
 match k,hk with
 |0,_|1,_|2,_|3,_|4,_=>rfl
theorem ZV (h0:cX P q0=true) (h1:cX P q1=true) (h2:cX P q2=true) (h3:cX P q3=true) (h4:cX P q4=true):cX P (ZK q0 q1 q2 q3 q4 k)=true:=by
 match k with
 |0=>exact h0
 |1=>exact h1
 |2=>exact h2
 |3=>exact h3
 |_+4=>exact h4
end
theorem X8 (u0 u1 u2 u3 u4:Value) (z:Array Value) (h0:u0.cells= #[u0]) (h1:u1.cells= #[u1]) (h2:u2.cells= #[u2]) (h3:u3.cells= #[u3]) (h4:u4.cells= #[u4]) (hz:z.size=5):Instr.fill (λi=>some (i*1,1)) z [(0,u0),(1,u1),(2,u2),(3,u3),(4,u4)]=some #[u0,u1,u2,u3,u4]:=by
 rw[gR 1 0 u0 _ z (by rw[h0];rfl) (by omega),gR 1 1 u1 _ _ (by rw[h1];rfl) (by simp[h0];omega),gR 1 2 u2 _ _ (by rw[h2];rfl) (by simp[h0,h1];omega),gR 1 3 u3 _ _ (by rw[h3];rfl) (by simp[h0,h1,h2];omega),gR 1 4 u4 _ _ (by rw[h4];rfl) (by simp[h0,h1,h2,h3];omega),Instr.fill,h0,h1,h2,h3,h4]
 obtain⟨l⟩:=z
 match l,hz with
 |[a,b,c,d,e],_=>simp
section
variable {P:Program} {f:Nat→Value} {w w':World} {d:Option Nat} {ty:TypeId} {ps:String} {af:Array Edge} {g:Option (Nat×Bool)} {t e T:TypeId} {by_ N b:Nat} {K:Value→World→Prop}
theorem Ux {x0 x1 x2 x3 x4:Operand} {u0 u1 u2 u3 u4:Value} (hx0:dg f x0=u0) (hx1:dg f x1=u1) (hx2:dg f x2=u2) (hx3:dg f x3=u3) (hx4:dg f x4=u4) (hT:fj P t=some (e,1,by_)) (hz:(dT P e).map (λz=>z.cells.size)=some 1) (h0:u0.cells= #[u0]) (h1:u1.cells= #[u1]) (h2:u2.cells= #[u2]) (h3:u3.cells= #[u3]) (h4:u4.cells= #[u4])
  (hK:∀b w',b=w.heap.size→dz w w'→At w' b #[u0,u1,u2,u3,u4] e→K (.slice (some ⟨b,0,none⟩) 5 5) w'):Yd P ⟨d, .buildSlice t 5 #[(0,x0),(1,x1),(2,x2),(3,x3),(4,x4)],ty,ps,af,g⟩ f w K:=by
 obtain⟨z,hz,hzs⟩:=go.1 hz
 unfold dT at hz
 obtain⟨i,hi,hzz⟩:=Do.1 hz
 unfold fj at hT
 cases hun:P.underlying t with
 |none=>simp[hun]at hT
 |some desc=>
  cases desc<;>simp[hun]at hT
  rename_i e'
  obtain⟨i',hi',rfl,q1,rfl⟩:=hT
  obtain rfl:i'=i:=by rw[hi]at hi';exact(Z9 hi').symm
  refine .val (w':=w.alloc (.cells #[u0,u1,u2,u3,u4] e')) ?_ (hK w.heap.size _ rfl (dz.alloc w _) (mz w _ _))
  have hf:=X8 u0 u1 u2 u3 u4 ((Array.range (5*1)).map (z.cells[·%z.cells.size]!)) h0 h1 h2 h3 h4 gj
  simp only[abB]at hf
  simp[execOp,hx0,hx1,hx2,hx3,hx4,Instr.buildSlice,run_underlying hun,sizeOf,typeInfo,hi,q1,zeroValue,hzz,newRow,hf]
theorem LG {f0 f1 f2 f3 f4:Value} (k:At w b #[f0,f1,f2,f3,f4] T) (hN:N≤b):cD encV 1 T w N (.slice (some ⟨b,0,none⟩) 5 5) [f0,f1,f2,f3,f4]:=
 ⟨rfl, .inr ⟨b,5,_,rfl,hN,k,am _,by decide,rfl,rfl⟩⟩
end
end
section
open Go Go.RowKit
theorem eX:eE Tryz.prog 125=true:=by kernel_rfl
theorem Nn:cX Tryz.prog 15=true:=by kernel_rfl
theorem yf:dS Tryz.prog 127 0=some 0:=by kernel_rfl
theorem yq:dS Tryz.prog 127 5=some 19:=by kernel_rfl
theorem iR:dS Tryz.prog 127 6=some 20:=by kernel_rfl
theorem tu:dS Tryz.prog 127 1=some 4:=by kernel_rfl
theorem UZ:cX Tryz.prog 25=true:=by kernel_rfl
theorem pu:dS Tryz.prog 127 2=some 8:=by kernel_rfl
theorem T5:cX Tryz.prog 38=true:=by kernel_rfl
theorem l3:dS Tryz.prog 127 3=some 11:=by kernel_rfl
theorem OP:cX Tryz.prog 39=true:=by kernel_rfl
theorem LJ:cX Tryz.prog 14=true:=by kernel_rfl
theorem nY:dS Tryz.prog 127 4=some 15:=by kernel_rfl
theorem Ku:dS Tryz.prog 52 0=some 0:=by kernel_rfl
theorem Ex (N bj bp:Nat) (bt:Nat) (s:List UInt8) (w:World) (hN0:N≤w.heap.size) (hgl:∀W,Below N w W→Gl W) (hbp:At w bp #[.pointer (some ⟨bj,0,none⟩)] 125) (loj:N≤bj) (hbj:At w bj #[.int .i64 0, .int .i64 0, .int .i64 0, .slice none 0 0, .int .i64 0, .int .i64 0, .int .i64 0, .slice none 0 0, .int .i64 0, .slice none 0 0, .slice none 0 0, .slice none 0 0, .int .i64 0, .int .i64 0, .int .i64 0, .string ⟨#[]⟩, .int .i64 0, .int .i64 0, .int .i64 0, .int .i64 0, .int .i64 0] 127) (hbt:At w bt #[eM s] 9) (hsl:s.length≤100000):
    mS Tryz.prog 69 #[.pointer (some ⟨bt,0,none⟩), .pointer (some ⟨bp,0,none⟩)] w λv w'=>Dx 127 N [bj] w w'∧(∃lv vs,At w' bj #[.int .i64 (de s).1.kind, .int .i64 (de s).1.ni, .int .i64 (de s).1.no,lv, .int .i64 0, .int .i64 0, .int .i64 0, .slice none 0 0, .int .i64 0, .slice none 0 0, .slice none 0 0, .slice none 0 0, .int .i64 0, .int .i64 0, .int .i64 0, .string ⟨#[]⟩, .int .i64 0, .int .i64 0, .int .i64 0, .int .i64 ((de s).2.1:Int), .int .i64 (de s).2.2] 127∧cD iH 3 37 w' N lv vs∧iT 3 N w' vs (de s).1.ls):=by
 refine d5 (n:=17) (N:=N) Tryz.func69 rfl rfl rfl λhB=> ?_
 have hX:Dx 127 N [bj] w w:=Dx.refl
 refine fe (λa b=>a.grownBy b (some bj)) fQ (λW1 j=> ?_)
 obtain⟨hbp,hbj,hbt,hX⟩:=j.k4 hbp hbj hbt hX
 replace hB:=cW hB j hN0
 have g:=hbj
 have hS:=World.grownBy.refl W1 (some bj)
 refine Tk 0 rfl (λ_ hq=>cB (v:= .pointer (some ⟨bj,0,none⟩)) rfl eX (At.cell (At.grownAt hbp g hq Dd) rfl)) hS<|Tk 1 rfl (λ_ hq=>cB (v:= .pointer (some ⟨bj,0,none⟩)) rfl eX (At.cell (At.grownAt hbp g hq Dd) rfl)) hS<|Tk 2 rfl (λ_ hq=>cB (v:= .pointer (some ⟨bj,0,none⟩)) rfl eX (At.cell (At.grownAt hbp g hq Dd) rfl)) hS<|Tk 3 rfl (λ_ hq=>cB (v:=eM s) rfl rF (At.cell (At.grownAt hbt g hq Dd) rfl)) hS<|To 4 rfl (TC Nn (wQ s _ (hgl _ hB) hsl) rfl λr W4 i l=>⟨.inl (cC hS (dz.grown i (some bj))),?_⟩)
 have k:=(an hN0 (Below.size hB))
 obtain⟨hbj,hX⟩:=i.k2 hbj hX
 replace hS:=cC hS (dz.grown i (some bj))
 obtain⟨m,t,rfl,c,d⟩:=l
 replace c:=cD.mono c k
 replace d:=iT.mono d k
 refine Tw 5 (.tuple #[.agg #[.int .i64 _, .int .i64 _, .int .i64 _,m], .int .i64 _, .int .i64 _]) rfl rfl hS<|Tk 6 rfl (λ_ _=>iO rfl) hS<|Tk 7 rfl (λ_ _=>kf rfl) hS<|Tk 8 rfl (λ_ _=>jS rfl) hS<|Tc 9 rfl rfl hS<|Tf 10 rfl rfl yf hS<|To 11 rfl (km rfl rfl eA rfl hbj D5 (by exact vE (dh.one (cD.sl c))) λW8 e o=>⟨.inl (cC hS e),?_⟩)
 replace hS:=cC hS e
 replace hX:=Dx.trans hX (abZ e loj)
 replace c:=cD.grownAt c hbj e Dd
 replace d:=iT.grownAt d hbj e Dd
 replace hbj:=o
 replace hbj:At _ _ #[_,_,_,_,_,_,_,_,_,_,_,_,_,_,_,_,_,_,_,_,_] _:=hbj
 refine Tc 12 rfl rfl hS<|Tf 13 rfl rfl yq hS<|To 14 rfl (dm (v:= .int .i64 _) rfl rfl cK rfl hbj gj λu f p=>⟨.inl (cC hS f),?_⟩)
 replace hS:=cC hS f
 replace hX:=Dx.trans hX (abZ f loj)
 replace c:=cD.grownAt c hbj f Dd
 replace d:=iT.grownAt d hbj f Dd
 replace hbj:=p
 replace hbj:At _ _ #[_,_,_,_,_,_,_,_,_,_,_,_,_,_,_,_,_,_,_,_,_] _:=hbj
 refine Tc 15 rfl rfl hS<|Tf 16 rfl rfl iR hS<|To 17 rfl (dm (v:= .int .i64 _) rfl rfl gn rfl hbj gj λx h q=>⟨.inl (cC hS h),?_⟩)
 replace hX:=Dx.trans hX (abZ h loj)
 replace c:=cD.grownAt c hbj h Dd
 replace d:=iT.grownAt d hbj h Dd
 replace hbj:=q
 replace hbj:At _ _ #[_,_,_,_,_,_,_,_,_,_,_,_,_,_,_,_,_,_,_,_,_] _:=hbj
 refine Td ?_
 repeat (first|refine gW ?_|refine f7 ?_)
 refine gk ?_
 repeat (first|refine eJ ?_|refine eg ?_)
 refine vt ?_
 exact⟨hX,_,_,hbj,c,d⟩
theorem EG (N bj bp:Nat) (T:Tb) (lv:Value) (vs:List uI) (ln:Int) (w:World) (hN0:N≤w.heap.size) (hgl:∀W,Below N w W→Gl W) (hbp:At w bp #[.pointer (some ⟨bj,0,none⟩)] 125) (loj:N≤bj) (hbj:At w bj #[.int .i64 T.kind, .int .i64 T.ni, .int .i64 T.no,lv, .int .i64 0, .int .i64 0, .int .i64 0, .slice none 0 0, .int .i64 0, .slice none 0 0, .slice none 0 0, .slice none 0 0, .int .i64 0, .int .i64 0, .int .i64 0, .string ⟨#[]⟩, .int .i64 0, .int .i64 0, .int .i64 0, .int .i64 ln, .int .i64 0] 127) (hlv:cD iH 3 37 w N lv (vs)) (hls:iT 3 N w vs T.ls) (hmb:∀i,i<T.ls.length→(T.ls.getD i eV).c.m<256∧(T.ls.getD i eV).c.v<256):
    mS Tryz.prog 70 #[.pointer (some ⟨bp,0,none⟩)] w λv w'=>Dx 127 N [bj] w w'∧((zB T=0∧∃onV mayV,At w' bj #[.int .i64 T.kind, .int .i64 T.ni, .int .i64 T.no,lv, .int .i64 0, .int .i64 0, .int .i64 0, .slice none 0 0, .int .i64 T.ni,onV,mayV, .slice none 0 0, .int .i64 0, .int .i64 0, .int .i64 0, .string ⟨#[]⟩, .int .i64 0, .int .i64 0, .int .i64 0, .int .i64 ln, .int .i64 0] 127∧cD fT 4 40 w' N onV (su T T.no.toNat)∧cD fT 4 40 w' N mayV (mP T T.no.toNat))∨(¬zB T=0∧At w' bj #[.int .i64 T.kind, .int .i64 T.ni, .int .i64 T.no,lv, .int .i64 0, .int .i64 0, .int .i64 0, .slice none 0 0, .int .i64 0, .slice none 0 0, .slice none 0 0, .slice none 0 0, .int .i64 0, .int .i64 0, .int .i64 0, .string ⟨#[]⟩, .int .i64 0, .int .i64 0, .int .i64 0, .int .i64 ln, .int .i64 (zB T)] 127)):=by
 refine d5 (n:=15) (N:=N) Tryz.func70 rfl rfl rfl λhB=> ?_
 have hX:Dx 127 N [bj] w w:=Dx.refl
 refine fe (λa b=>a.grownBy b (some bj)) fQ (λW1 p=> ?_)
 obtain⟨hbp,hbj,hlv,hls,hX⟩:=p.k5 hbp hbj hlv hls hX
 replace hB:=cW hB p hN0
 have j:=hbj
 have hS:=World.grownBy.refl W1 (some bj)
 refine Tk 0 rfl (λ_ hq=>cB (v:= .pointer (some ⟨bj,0,none⟩)) rfl eX (At.cell (At.grownAt hbp j hq Dd) rfl)) hS<|Tk 1 rfl (λ_ hq=>cB (v:= .pointer (some ⟨bj,0,none⟩)) rfl eX (At.cell (At.grownAt hbp j hq Dd) rfl)) hS<|Tk 2 rfl (λ_ hq=>cB (v:= .pointer (some ⟨bj,0,none⟩)) rfl eX (At.cell (At.grownAt hbp j hq Dd) rfl)) hS<|Tc 3 rfl rfl hS<|Tf 4 rfl rfl yf hS ?_
 refine jK (dd:=some 7) 5 jW rfl rfl rfl rfl (Yd.val (fv rfl eA (At.cell hbj rfl) (At.cell hbj rfl) (At.cell hbj rfl) (At.cell hbj rfl)) ⟨.inl hS,?_⟩)
 refine To 6 rfl (TC (vs:=[.agg #[_,_,_,_]]) UZ (K4 T _ vs _ hlv.sl (iT.at hls) hmb) rfl λB W4 k f=>⟨.inl (cC hS (dz.grown k (some bj))),?_⟩)
 have s:=(an hN0 (Below.size hB))
 obtain⟨hbj,hX⟩:=k.k2 hbj hX
 replace hS:=cC hS (dz.grown k (some bj))
 have q:=s
 rcases f with f|f
 obtain⟨l,t,u,rfl,d,e⟩:=f
 replace d:=cD.mono d q
 replace e:=cD.mono e q
 refine Tw 7 (.tuple #[.agg #[.int .i64 _,t,u], .int .i64 0]) rfl rfl hS<|Tk 8 rfl (λ_ _=>c7 rfl) hS<|Tk 9 rfl (λ_ _=>da rfl) hS<|Tc 10 rfl rfl hS<|Tf 11 rfl rfl pu hS<|To 12 rfl (km rfl rfl el rfl hbj D5 (by exact G2 (dh.one (cD.sl d)) (dh.one (cD.sl e))) λW8 g x=>⟨.inl (cC hS g),?_⟩)
 replace hS:=cC hS g
 replace hX:=Dx.trans hX (abZ g loj)
 replace d:=cD.grownAt d hbj g Dd
 replace e:=cD.grownAt e hbj g Dd
 replace hbj:=x
 replace hbj:At _ _ #[_,_,_,_,_,_,_,_,_,_,_,_,_,_,_,_,_,_,_,_,_] _:=hbj
 refine Tc 13 rfl rfl hS<|Tf 14 rfl rfl iR hS<|To 15 rfl (dm (v:= .int .i64 0) rfl rfl gn rfl hbj gj λC h y=>⟨.inl (cC hS h),?_⟩)
 replace hX:=Dx.trans hX (abZ h loj)
 replace d:=cD.grownAt d hbj h Dd
 replace e:=cD.grownAt e hbj h Dd
 replace hbj:=y
 replace hbj:At _ _ #[_,_,_,_,_,_,_,_,_,_,_,_,_,_,_,_,_,_,_,_,_] _:=hbj
 refine Td ?_
 repeat (first|refine gW ?_|refine f7 ?_)
 refine gk ?_
 repeat (first|refine eJ ?_|refine eg ?_)
 refine vt ?_
 exact⟨hX, .inl ⟨l,_,_,hbj,d,e⟩⟩
 obtain⟨l,rfl⟩:=f
 refine Tw 7 (.tuple #[.agg #[.int .i64 0, .slice none 0 0, .slice none 0 0], .int .i64 _]) rfl rfl hS<|Tk 8 rfl (λ_ _=>c7 rfl) hS<|Tk 9 rfl (λ_ _=>da rfl) hS<|Tc 10 rfl rfl hS<|Tf 11 rfl rfl pu hS<|To 12 rfl (km rfl rfl el rfl hbj D5 (by exact G2 rfl rfl) λD o z=>⟨.inl (cC hS o),?_⟩)
 replace hS:=cC hS o
 replace hX:=Dx.trans hX (abZ o loj)
 replace hbj:=z
 replace hbj:At _ _ #[_,_,_,_,_,_,_,_,_,_,_,_,_,_,_,_,_,_,_,_,_] _:=hbj
 refine Tc 13 rfl rfl hS<|Tf 14 rfl rfl iR hS<|To 15 rfl (dm (v:= .int .i64 _) rfl rfl gn rfl hbj gj λE r A=>⟨.inl (cC hS r),?_⟩)
 replace hX:=Dx.trans hX (abZ r loj)
 replace hbj:=A
 replace hbj:At _ _ #[_,_,_,_,_,_,_,_,_,_,_,_,_,_,_,_,_,_,_,_,_] _:=hbj
 refine Td ?_
 repeat (first|refine gW ?_|refine f7 ?_)
 refine gk ?_
 repeat (first|refine eJ ?_|refine eg ?_)
 refine vt ?_
 exact⟨hX, .inr ⟨l,hbj⟩⟩
theorem DJ (N bj bp:Nat) (bb:Nat) (S:Sp) (onV mayV:Value) (b0 b1 ln:Int) (t0 t1 t2 t3:Value) (w:World) (hN0:N≤w.heap.size) (hgl:∀W,Below N w W→Gl W) (hbp:At w bp #[.pointer (some ⟨bj,0,none⟩)] 125) (loj:N≤bj) (hbj:At w bj #[t0,t1,t2,t3, .int .i64 0, .int .i64 0, .int .i64 0, .slice none 0 0, .int .i64 S.n,onV,mayV, .slice none 0 0, .int .i64 0, .int .i64 0, .int .i64 0, .string ⟨#[]⟩, .int .i64 0, .int .i64 0, .int .i64 0, .int .i64 ln, .int .i64 0] 127) (hon:cD fT 4 40 w N onV (S.on)) (hmay:cD fT 4 40 w N mayV (S.may)) (hbb:At w bb #[.int .i64 b0, .int .i64 b1] 49) (hs:dq S=true→S.n≤4∧S.on.length≤3):
    mS Tryz.prog 71 #[.pointer (some ⟨bp,0,none⟩), .pointer (some ⟨bb,0,none⟩)] w λv w'=>Dx 127 N [bj] w w'∧(((dq S=true∧oK b0 b1)∧∃x how why sp Rr,At w' bj #[t0,t1,t2,t3, .int .i64 0, .int .i64 0, .int .i64 0, .slice none 0 0, .int .i64 S.n,onV,mayV,x, .int .i64 how, .int .i64 why, .int .i64 sp, .string ⟨#[]⟩, .int .i64 0, .int .i64 0, .int .i64 0, .int .i64 ln, .int .i64 0] 127∧cD gv 3 158 w' N x (Rr)∧LA b0.toNat b1.toNat S how why sp Rr)∨(¬(dq S=true∧oK b0 b1)∧At w' bj #[t0,t1,t2,t3, .int .i64 0, .int .i64 0, .int .i64 0, .slice none 0 0, .int .i64 S.n,onV,mayV, .slice none 0 0, .int .i64 0, .int .i64 0, .int .i64 0, .string ⟨#[]⟩, .int .i64 0, .int .i64 0, .int .i64 0, .int .i64 ln, .int .i64 1] 127)):=by
 refine d5 (n:=17) (N:=N) Tryz.func71 rfl rfl rfl λhB=> ?_
 have hX:Dx 127 N [bj] w w:=Dx.refl
 refine fe (λa b=>a.grownBy b (some bj)) fQ (λW1 j=> ?_)
 obtain⟨hbp,hbj,hon,hmay,hbb,hX⟩:=j.k6 hbp hbj hon hmay hbb hX
 replace hB:=cW hB j hN0
 have d:=hbj
 have hS:=World.grownBy.refl W1 (some bj)
 refine Tk 0 rfl (λ_ hq=>cB (v:= .pointer (some ⟨bj,0,none⟩)) rfl eX (At.cell (At.grownAt hbp d hq Dd) rfl)) hS<|Tk 1 rfl (λ_ hq=>cB (v:= .pointer (some ⟨bj,0,none⟩)) rfl eX (At.cell (At.grownAt hbp d hq Dd) rfl)) hS<|Tk 2 rfl (λ_ hq=>cB (v:= .pointer (some ⟨bj,0,none⟩)) rfl eX (At.cell (At.grownAt hbp d hq Dd) rfl)) hS<|Tc 3 rfl rfl hS<|Tf 4 rfl rfl pu hS<|Tk 6 rfl (λ_ hq=>cy rfl JI rfl (At.grownAt hbb d hq Dd)) hS ?_
 refine jK (dd:=some 8) 5 jW rfl rfl rfl rfl (Yd.val (gH rfl el (At.cell hbj rfl) (At.cell hbj rfl) (At.cell hbj rfl)) ⟨.inl hS,?_⟩)
 refine To 7 rfl (TC (vs:=[.agg #[_,_,_], .agg #[_,_]]) T5 (vI S _ _ b0 b1 _ hon.sl hmay.sl hs) rfl λr W4 e f=>⟨.inl (cC hS (dz.grown e (some bj))),?_⟩)
 have l:=(an hN0 (Below.size hB))
 obtain⟨hbp,hbj,hon,hmay,hbb,hX⟩:=e.k6 hbp hbj hon hmay hbb hX
 replace hB:=cW hB e hN0
 replace hS:=cC hS (dz.grown e (some bj))
 have hszm:=l
 by_cases hbm:dq S=true∧oK b0 b1
 rw[if_pos hbm]at f
 obtain⟨x0_7,how0_7,why0_7,sp0_7,Rr0_7,rfl,c,hmo0_7⟩:=f
 replace c:=cD.mono c hszm
 refine Tw 8 (.tuple #[.agg #[x0_7, .int .i64 _, .int .i64 _, .int .i64 _], .int .i64 0]) rfl rfl hS<|Tk 9 rfl (λ_ _=>c7 rfl) hS<|Tk 10 rfl (λ_ _=>da rfl) hS<|Tc 11 rfl rfl hS<|Tf 12 rfl rfl l3 hS<|To 13 rfl (km rfl rfl fk rfl hbj D5 (by exact rk (cD.one c)) λW8 g m=>⟨.inl (cC hS g),?_⟩)
 replace hS:=cC hS g
 replace hX:=Dx.trans hX (abZ g loj)
 replace c:=cD.grownAt c hbj g Dd
 replace hbj:=m
 replace hbj:At _ _ #[_,_,_,_,_,_,_,_,_,_,_,_,_,_,_,_,_,_,_,_,_] _:=hbj
 refine Tc 14 rfl rfl hS<|Tf 15 rfl rfl iR hS<|To 16 rfl (dm (v:= .int .i64 0) rfl rfl gn rfl hbj gj λs h o=>⟨.inl (cC hS h),?_⟩)
 replace hX:=Dx.trans hX (abZ h loj)
 replace c:=cD.grownAt c hbj h Dd
 replace hbj:=o
 replace hbj:At _ _ #[_,_,_,_,_,_,_,_,_,_,_,_,_,_,_,_,_,_,_,_,_] _:=hbj
 refine Td ?_
 repeat (first|refine gW ?_|refine f7 ?_)
 refine gk ?_
 repeat (first|refine eJ ?_|refine eg ?_)
 refine vt ?_
 exact⟨hX, .inl ⟨hbm,_,_,_,_,_,hbj,c,hmo0_7⟩⟩
 rw[if_neg hbm]at f
 obtain rfl:=f
 refine Tw 8 (.tuple #[.agg #[.slice none 0 0, .int .i64 0, .int .i64 0, .int .i64 0], .int .i64 1]) rfl rfl hS<|Tk 9 rfl (λ_ _=>c7 rfl) hS<|Tk 10 rfl (λ_ _=>da rfl) hS<|Tc 11 rfl rfl hS<|Tf 12 rfl rfl l3 hS<|To 13 rfl (km rfl rfl fk rfl hbj D5 (by exact rk rfl) λt i p=>⟨.inl (cC hS i),?_⟩)
 replace hS:=cC hS i
 replace hX:=Dx.trans hX (abZ i loj)
 replace hbj:=p
 replace hbj:At _ _ #[_,_,_,_,_,_,_,_,_,_,_,_,_,_,_,_,_,_,_,_,_] _:=hbj
 refine Tc 14 rfl rfl hS<|Tf 15 rfl rfl iR hS<|To 16 rfl (dm (v:= .int .i64 1) rfl rfl gn rfl hbj gj λu k q=>⟨.inl (cC hS k),?_⟩)
 replace hX:=Dx.trans hX (abZ k loj)
 replace hbj:=q
 replace hbj:At _ _ #[_,_,_,_,_,_,_,_,_,_,_,_,_,_,_,_,_,_,_,_,_] _:=hbj
 refine Td ?_
 repeat (first|refine gW ?_|refine f7 ?_)
 refine gk ?_
 repeat (first|refine eJ ?_|refine eg ?_)
 refine vt ?_
 exact⟨hX, .inr ⟨hbm,hbj⟩⟩
theorem FD (N bj bp:Nat) (S:Sp) (onV mayV x:Value) (Rr:List Rw) (ln:Int) (t0 t1 t2 t3 r1 r2 r3:Value) (w:World) (hN0:N≤w.heap.size) (hgl:∀W,Below N w W→Gl W) (hbp:At w bp #[.pointer (some ⟨bj,0,none⟩)] 125) (loj:N≤bj) (hbj:At w bj #[t0,t1,t2,t3, .int .i64 0, .int .i64 0, .int .i64 0, .slice none 0 0, .int .i64 S.n,onV,mayV,x,r1,r2,r3, .string ⟨#[]⟩, .int .i64 0, .int .i64 0, .int .i64 0, .int .i64 ln, .int .i64 0] 127) (hon:cD fT 4 40 w N onV (S.on)) (hmay:cD fT 4 40 w N mayV (S.may)) (hx:cD gv 3 158 w N x (Rr)) (hr:dq S=true) (hm:mQ S Rr=true) (hrb:ix Rr) (h64:Rr.length≤64):
    mS Tryz.prog 72 #[.pointer (some ⟨bp,0,none⟩)] w λv w'=>Dx 127 N [bj] w w'∧(∃lv vs,At w' bj #[t0,t1,t2,t3, .int .i64 1, .int .i64 S.n, .int .i64 (S.on.length:Int),lv, .int .i64 S.n,onV,mayV,x,r1,r2,r3, .string ⟨#[]⟩, .int .i64 0, .int .i64 0, .int .i64 0, .int .i64 ln, .int .i64 0] 127∧cD iH 3 37 w' N lv vs∧iT 3 N w' vs (HH S Rr).ls):=by
 refine d5 (n:=20) (N:=N) Tryz.func72 rfl rfl rfl λhB=> ?_
 have hX:Dx 127 N [bj] w w:=Dx.refl
 refine fe (λa b=>a.grownBy b (some bj)) fQ (λW1 o=> ?_)
 obtain⟨hbp,hbj,hon,hmay,hx,hX⟩:=o.k6 hbp hbj hon hmay hx hX
 replace hB:=cW hB o hN0
 have h:=hbj
 have hS:=World.grownBy.refl W1 (some bj)
 refine Tk 0 rfl (λ_ hq=>cB (v:= .pointer (some ⟨bj,0,none⟩)) rfl eX (At.cell (At.grownAt hbp h hq Dd) rfl)) hS<|Tk 1 rfl (λ_ hq=>cB (v:= .pointer (some ⟨bj,0,none⟩)) rfl eX (At.cell (At.grownAt hbp h hq Dd) rfl)) hS<|Tk 2 rfl (λ_ hq=>cB (v:= .pointer (some ⟨bj,0,none⟩)) rfl eX (At.cell (At.grownAt hbp h hq Dd) rfl)) hS<|Tc 3 rfl rfl hS<|Tf 4 rfl rfl pu hS<|Tk 6 rfl (λ_ hq=>cB (v:= .pointer (some ⟨bj,0,none⟩)) rfl eX (At.cell (At.grownAt hbp h hq Dd) rfl)) hS<|Tc 7 rfl rfl hS<|Tf 8 rfl rfl l3 hS<|Tf 9 rfl rfl rL hS ?_
 refine tw 5 10 jW rfl rfl rfl rfl rfl rfl rfl rfl (Yd.val (gH rfl el (At.cell hbj rfl) (At.cell hbj rfl) (At.cell hbj rfl)) ⟨.inl hS,?_⟩) (Yd.val (cB (v:=x) rfl m3 (At.cell hbj rfl)) ⟨.inl hS,?_⟩)
 refine jK (dd:=some 12) 10 jW rfl rfl rfl rfl (Yd.val (cB (v:=x) rfl m3 (At.cell hbj rfl)) ⟨.inl hS,?_⟩)
 refine To 11 rfl (TC (vs:=[.agg #[_,_,_],x]) OP (uO S _ _ _ Rr _ hon.sl hmay.sl hx.sl Om hrb (by have:=(dD.1 hr);omega)) rfl λr W4 k e=>⟨.inl (cC hS (dz.grown k (some bj))),?_⟩)
 have p:=(an hN0 (Below.size hB))
 obtain⟨hbj,hX⟩:=k.k2 hbj hX
 replace hS:=cC hS (dz.grown k (some bj))
 rw[if_pos ⟨hr,hm⟩,if_pos h64]at e
 obtain⟨l,s,rfl,c,d⟩:=e
 replace c:=cD.mono c p
 replace d:=iT.mono d p
 refine Tw 12 (.tuple #[.agg #[.int .i64 _, .int .i64 _, .int .i64 _,l], .int .i64 0]) rfl rfl hS<|Tk 13 rfl (λ_ _=>c7 rfl) hS<|Tk 14 rfl (λ_ _=>da rfl) hS<|Tc 15 rfl rfl hS<|Tf 16 rfl rfl tu hS<|To 17 rfl (km rfl rfl eA rfl hbj D5 (by exact vE (dh.one (cD.sl c))) λW8 f t=>⟨.inl (cC hS f),?_⟩)
 replace hS:=cC hS f
 replace hX:=Dx.trans hX (abZ f loj)
 replace c:=cD.grownAt c hbj f Dd
 replace d:=iT.grownAt d hbj f Dd
 replace hbj:=t
 replace hbj:At _ _ #[_,_,_,_,_,_,_,_,_,_,_,_,_,_,_,_,_,_,_,_,_] _:=hbj
 refine Tc 18 rfl rfl hS<|Tf 19 rfl rfl iR hS<|To 20 rfl (dm (v:= .int .i64 0) rfl rfl gn rfl hbj gj λA i u=>⟨.inl (cC hS i),?_⟩)
 replace hX:=Dx.trans hX (abZ i loj)
 replace c:=cD.grownAt c hbj i Dd
 replace d:=iT.grownAt d hbj i Dd
 replace hbj:=u
 replace hbj:At _ _ #[_,_,_,_,_,_,_,_,_,_,_,_,_,_,_,_,_,_,_,_,_] _:=hbj
 refine Td ?_
 repeat (first|refine gW ?_|refine f7 ?_)
 refine gk ?_
 repeat (first|refine eJ ?_|refine eg ?_)
 refine vt ?_
 exact⟨hX,_,_,hbj,c,d⟩
 refine jK (dd:=some 7) 5 jW rfl rfl rfl rfl (Yd.val (gH rfl el (At.cell hbj rfl) (At.cell hbj rfl) (At.cell hbj rfl)) ⟨.inl hS,?_⟩)
 refine To 11 rfl (TC (vs:=[.agg #[_,_,_],x]) OP (uO S _ _ _ Rr _ hon.sl hmay.sl hx.sl Om hrb (by have:=(dD.1 hr);omega)) rfl λr B m e=>⟨.inl (cC hS (dz.grown m (some bj))),?_⟩)
 have q:=(an hN0 (Below.size hB))
 obtain⟨hbj,hX⟩:=m.k2 hbj hX
 replace hS:=cC hS (dz.grown m (some bj))
 rw[if_pos ⟨hr,hm⟩,if_pos h64]at e
 obtain⟨l,s,rfl,c,d⟩:=e
 replace c:=cD.mono c q
 replace d:=iT.mono d q
 refine Tw 12 (.tuple #[.agg #[.int .i64 _, .int .i64 _, .int .i64 _,l], .int .i64 0]) rfl rfl hS<|Tk 13 rfl (λ_ _=>c7 rfl) hS<|Tk 14 rfl (λ_ _=>da rfl) hS<|Tc 15 rfl rfl hS<|Tf 16 rfl rfl tu hS<|To 17 rfl (km rfl rfl eA rfl hbj D5 (by exact vE (dh.one (cD.sl c))) λC g y=>⟨.inl (cC hS g),?_⟩)
 replace hS:=cC hS g
 replace hX:=Dx.trans hX (abZ g loj)
 replace c:=cD.grownAt c hbj g Dd
 replace d:=iT.grownAt d hbj g Dd
 replace hbj:=y
 replace hbj:At _ _ #[_,_,_,_,_,_,_,_,_,_,_,_,_,_,_,_,_,_,_,_,_] _:=hbj
 refine Tc 18 rfl rfl hS<|Tf 19 rfl rfl iR hS<|To 20 rfl (dm (v:= .int .i64 0) rfl rfl gn rfl hbj gj λD j z=>⟨.inl (cC hS j),?_⟩)
 replace hX:=Dx.trans hX (abZ j loj)
 replace c:=cD.grownAt c hbj j Dd
 replace d:=iT.grownAt d hbj j Dd
 replace hbj:=z
 replace hbj:At _ _ #[_,_,_,_,_,_,_,_,_,_,_,_,_,_,_,_,_,_,_,_,_] _:=hbj
 refine Td ?_
 repeat (first|refine gW ?_|refine f7 ?_)
 refine gk ?_
 repeat (first|refine eJ ?_|refine eg ?_)
 refine vt ?_
 exact⟨hX,_,_,hbj,c,d⟩
theorem FH (N bj bp:Nat) (T:Tb) (lv:Value) (vs:List uI) (ln:Int) (t0 t1 t2 t3 s0 s1 s2 r0 r1 r2 r3:Value) (w:World) (hN0:N≤w.heap.size) (hgl:∀W,Below N w W→Gl W) (hbp:At w bp #[.pointer (some ⟨bj,0,none⟩)] 125) (loj:N≤bj) (hbj:At w bj #[t0,t1,t2,t3, .int .i64 T.kind, .int .i64 T.ni, .int .i64 T.no,lv,s0,s1,s2,r0,r1,r2,r3, .string ⟨#[]⟩, .int .i64 0, .int .i64 0, .int .i64 0, .int .i64 ln, .int .i64 0] 127) (hlv:cD iH 3 37 w N lv (vs)) (hls:iT 3 N w vs T.ls) (hmb:∀i,i<T.ls.length→(T.ls.getD i eV).c.m<256∧(T.ls.getD i eV).c.v<256) (hrU:fc T=true):
    mS Tryz.prog 73 #[.pointer (some ⟨bp,0,none⟩)] w λv w'=>Dx 127 N [bj] w w'∧(At w' bj #[t0,t1,t2,t3, .int .i64 T.kind, .int .i64 T.ni, .int .i64 T.no,lv,s0,s1,s2,r0,r1,r2,r3,eM (jy T), .int .i64 0, .int .i64 0, .int .i64 0, .int .i64 ln, .int .i64 0] 127):=by
 refine d5 (n:=16) (N:=N) Tryz.func73 rfl rfl rfl λhB=> ?_
 have hX:Dx 127 N [bj] w w:=Dx.refl
 refine fe (λa b=>a.grownBy b (some bj)) fQ (λW1 g=> ?_)
 obtain⟨hbp,hbj,hlv,hls,hX⟩:=g.k5 hbp hbj hlv hls hX
 replace hB:=cW hB g hN0
 have d:=hbj
 have hS:=World.grownBy.refl W1 (some bj)
 refine Tk 0 rfl (λ_ hq=>cB (v:= .pointer (some ⟨bj,0,none⟩)) rfl eX (At.cell (At.grownAt hbp d hq Dd) rfl)) hS<|Tk 1 rfl (λ_ hq=>cB (v:= .pointer (some ⟨bj,0,none⟩)) rfl eX (At.cell (At.grownAt hbp d hq Dd) rfl)) hS<|Tk 2 rfl (λ_ hq=>cB (v:= .pointer (some ⟨bj,0,none⟩)) rfl eX (At.cell (At.grownAt hbp d hq Dd) rfl)) hS<|Tc 3 rfl rfl hS<|Tf 4 rfl rfl tu hS ?_
 refine jK (dd:=some 7) 5 jW rfl rfl rfl rfl (Yd.val (fv rfl eA (At.cell hbj rfl) (At.cell hbj rfl) (At.cell hbj rfl) (At.cell hbj rfl)) ⟨.inl hS,?_⟩)
 refine To 6 rfl (TC (vs:=[.agg #[_,_,_,_]]) LJ (wP T _ vs _ (hgl _ hB) hlv.sl (iT.at hls) hmb) rfl λo W4 e h=>⟨.inl (cC hS (dz.grown e (some bj))),?_⟩)
 obtain⟨hbj,hX⟩:=e.k2 hbj hX
 replace hS:=cC hS (dz.grown e (some bj))
 rw[if_pos hrU]at h
 obtain rfl:=h
 refine Tw 7 (.tuple #[.string _, .int .i64 0]) rfl rfl hS<|Tk 8 rfl (λ_ _=>c7 rfl) hS<|Tk 9 rfl (λ_ _=>da rfl) hS<|Tc 10 rfl rfl hS<|Tf 11 rfl rfl nY hS<|Tf 12 rfl rfl Ku hS<|To 13 rfl (dm (v:= .string _) rfl rfl rF rfl hbj D5 λW8 f k=>⟨.inl (cC hS f),?_⟩)
 replace hS:=cC hS f
 replace hX:=Dx.trans hX (abZ f loj)
 replace hbj:=k
 replace hbj:At _ _ #[_,_,_,_,_,_,_,_,_,_,_,_,_,_,_,_,_,_,_,_,_] _:=hbj
 refine Tc 14 rfl rfl hS<|Tf 15 rfl rfl iR hS<|To 16 rfl (dm (v:= .int .i64 0) rfl rfl gn rfl hbj gj λp j l=>⟨.inl (cC hS j),?_⟩)
 replace hX:=Dx.trans hX (abZ j loj)
 replace hbj:=l
 replace hbj:At _ _ #[_,_,_,_,_,_,_,_,_,_,_,_,_,_,_,_,_,_,_,_,_] _:=hbj
 refine Td ?_
 repeat (first|refine gW ?_|refine f7 ?_)
 refine gk ?_
 repeat (first|refine eJ ?_|refine eg ?_)
 refine vt ?_
 exact⟨hX,hbj⟩
end
section
open Go Go.RowKit
def CF (s:List UInt8) (b0 b1 ln e:Int):Prop:=
 (¬(de s).2.2=0∧ln=(de s).2.1∧e=(de s).2.2)∨((de s).2.2=0∧¬zB (de s).1=0∧ln=0∧e=zB (de s).1)∨((de s).2.2=0∧zB (de s).1=0∧¬oK b0 b1∧ln=0∧e=1)
def Vo (s:List UInt8) (b0 b1:Int) (tx:List UInt8) (how why rows ln e:Int):Prop:=
 (CF s b0 b1 ln e∧tx=[]∧how=0∧why=0∧rows=0)∨
 ((de s).2.2=0∧zB (de s).1=0∧oK b0 b1∧ln=0∧e=0∧∃sp Rr,LA b0.toNat b1.toNat (gF (de s).1) how why sp Rr∧tx=jy (HH (gF (de s).1) Rr)∧rows=(Rr.length:Int))
def My (s:List UInt8) (a b:Int):Prop:=(de s).2.2=0→(de s).1.ni≤a∧(de s).1.no≤b
section
variable {s:List UInt8} {b0 b1 ln e:Int}
theorem CF.ne (h:CF s b0 b1 ln e):¬e=0:=by
 rcases h with ⟨h1,_,rfl⟩|⟨_,h1,_,rfl⟩|⟨_,_,_,_,rfl⟩
 ·exact h1
 ·exact h1
 ·decide
theorem E5 (h:(de s).2.2=0):(de s).2.1=0:=by
 rcases wN s with ⟨h1,_⟩|⟨_,h2,_⟩
 ·exact absurd h h1
 ·exact h2
theorem qz (h:My s 4 3) (hp:(de s).2.2=0):dq (gF (de s).1)=true→(gF (de s).1).n≤4∧(gF (de s).1).on.length≤3:=λ_=>by
 obtain⟨h1,h2⟩:=h hp
 refine⟨h1,?_⟩
 show (su _ _).length≤3
 rw[o7]
 omega
end
end
section
open Go Go.RowKit
theorem yV:fj Tryz.prog 184=some (1,1,8):=by kernel_rfl
theorem VE:eE Tryz.prog 1=true:=by kernel_rfl
theorem Cf:dT Tryz.prog 52=some (.agg #[.string ⟨#[]⟩, .int .i64 0, .int .i64 0, .int .i64 0]):=by kernel_rfl
theorem Sd:dT Tryz.prog 127=some (.agg #[.int .i64 0, .int .i64 0, .int .i64 0, .slice none 0 0, .int .i64 0, .int .i64 0, .int .i64 0, .slice none 0 0, .int .i64 0, .slice none 0 0, .slice none 0 0, .slice none 0 0, .int .i64 0, .int .i64 0, .int .i64 0, .string ⟨#[]⟩, .int .i64 0, .int .i64 0, .int .i64 0, .int .i64 0, .int .i64 0]):=by kernel_rfl
theorem Ki:(Tryz.prog.info? 52).map (·.size)=some 4:=by kernel_rfl
theorem K5:(Tryz.prog.info? 59).map (·.size)=some 3:=by kernel_rfl
theorem K2:(Tryz.prog.info? 85).map (·.size)=some 4:=by kernel_rfl
theorem Ce {f:Nat→Value} {w:World} {d:Option Nat} {ty:TypeId} {ps:String} {af:Array Edge} {g:Option (Nat×Bool)}:
    (execOp (dg f) ⟨d, .build 127 #[],ty,ps,af,g⟩).run Tryz.prog w= .ok (.value (.agg #[.int .i64 0, .int .i64 0, .int .i64 0, .slice none 0 0, .int .i64 0, .int .i64 0, .int .i64 0, .slice none 0 0, .int .i64 0, .slice none 0 0, .slice none 0 0, .slice none 0 0, .int .i64 0, .int .i64 0, .int .i64 0, .string ⟨#[]⟩, .int .i64 0, .int .i64 0, .int .i64 0, .int .i64 0, .int .i64 0])) w:=by
  obtain⟨i0,hi0,hz0⟩:=Do.1 (show (Tryz.prog.info? 127).bind (·.zero)=_ from Sd)
  obtain⟨j3,hj3,hs3⟩:=go.1 fH
  obtain⟨j24,hj24,hs24⟩:=go.1 AH
  obtain⟨j27,hj27,hs27⟩:=go.1 np
  obtain⟨j52,hj52,hs52⟩:=go.1 Ki
  obtain⟨j59,hj59,hs59⟩:=go.1 K5
  obtain⟨j85,hj85,hs85⟩:=go.1 K2
  simp[execOp,Instr.build,zeroValue,typeInfo,sizeOf,hi0,hz0,run_underlying Tryz.underlying127,Instr.fill,dX,hj3,hs3,hj24,hs24,hj27,hs27,hj52,hs52,hj59,hs59,hj85,hs85]
theorem Rs:dT Tryz.prog 125=some (.pointer none):=by kernel_rfl
theorem UQ:(dT Tryz.prog 1).map (λz=>z.cells.size)=some 1:=by kernel_rfl
theorem UP:cX Tryz.prog 68=true:=by kernel_rfl
theorem Vh:cX Tryz.prog 69=true:=by kernel_rfl
theorem U9:cX Tryz.prog 70=true:=by kernel_rfl
theorem U5:cX Tryz.prog 71=true:=by kernel_rfl
theorem UO:cX Tryz.prog 72=true:=by kernel_rfl
theorem Uc:cX Tryz.prog 73=true:=by kernel_rfl
theorem KY:dS Tryz.prog 85 1=some 1:=by kernel_rfl
theorem Ld:dS Tryz.prog 85 2=some 2:=by kernel_rfl
theorem Bb:dS Tryz.prog 52 1=some 1:=by kernel_rfl
theorem Kn:dS Tryz.prog 52 2=some 2:=by kernel_rfl
theorem Ba:dS Tryz.prog 52 3=some 3:=by kernel_rfl
theorem pE:j8 Tryz.prog 52=some 4:=by kernel_rfl
theorem Nq:(Tryz.prog.info? 9).map (·.size)=some 1:=by kernel_rfl
theorem Fp {f:Nat→Value} {w:World} {d:Option Nat} {ty:TypeId} {ps:String} {af:Array Edge} {g:Option (Nat×Bool)}:
    (execOp (dg f) ⟨d, .build 52 #[],ty,ps,af,g⟩).run Tryz.prog w= .ok (.value (.agg #[.string ⟨#[]⟩, .int .i64 0, .int .i64 0, .int .i64 0])) w:=by
  obtain⟨i0,hi0,hz0⟩:=Do.1 (show (Tryz.prog.info? 52).bind (·.zero)=_ from Cf)
  obtain⟨j3,hj3,hs3⟩:=go.1 fH
  obtain⟨j9,hj9,hs9⟩:=go.1 Nq
  obtain⟨j27,hj27,hs27⟩:=go.1 np
  simp[execOp,Instr.build,zeroValue,typeInfo,sizeOf,hi0,hz0,run_underlying Tryz.underlying52,Instr.fill,dX,hj3,hs3,hj9,hs9,hj27,hs27]
theorem re (N bj:Nat) (xs:Value) (fs:List Value) (q:Nat→Nat) (cap:Nat→Array Value) (J:Nat→World→Prop) (E:World→Prop) (w:World) (hN0:N≤w.heap.size) (hsl:∀k W,J k W→dh encV 1 W xs fs) (hfl:fs.length≤100) (hfs:∀k,k<fs.length→fs.getD k undef= .func (.func (q k)) #[] (cap k)) (hcb:∀k,k<fs.length→cX Tryz.prog (q k)=true) (hJ:J 0 w) (hst:∀k W,k<fs.length→N≤W.heap.size→J k W→mS Tryz.prog (q k) (cap k) W λv W'=>Below N W W'∧∃cs e,At W' bj cs 127∧cs[20]? =some (.int .i64 e)∧(e=0→J (k+1) W')∧(¬e=0→E W')):
    mS Tryz.prog 68 #[.pointer (some ⟨bj,0,none⟩),xs] w λv w'=>Below N w w'∧((v= .bool true∧J fs.length w')∨(v= .bool false∧E w')):=by
 refine d5 (n:=21) (N:=N) Tryz.func68 rfl rfl rfl λhB=> ?_
 have hxs:=hsl 0 w hJ
 refine Zr<|Zb rfl<|ct<|Zq<|Zr<|Zw xs rfl<|Zv (cT (v:=xs) rfl hxs yV)<|ZZ rfl<|cx ?_
 refine cS (σ:=(Nat)) [4,4,6,6,9,20] (λk=>[(9, .int .i64 (k:Int))]) (λk W=>(Below N w W)∧(J k W)∧(dh encV 1 W xs fs)∧(k≤fs.length)∧(True)) (λk=>fs.length-k) (0) ⟨rfl,trivial⟩ ⟨hB,hJ,hxs,(my _),trivial⟩ ?_
 rintro k g8 W7 ⟨hB,hJ,hxs,hk,_⟩ J9 c
 refine Zr<|Zv (dk rfl rfl)<|ct<|Zq<|ZQ rfl (λd=> ?_) λd=> ?_
 refine cu<|Zq<|cx<|Zr<|Zv (df (v:=xs) rfl hxs rfl yV Om Om)<|Zv (cB (v:=(fs.getD k undef)) rfl VE (dh.cell hxs fS undef Om Om 0 rfl))<|Zw (fs.getD k undef) rfl<|ct<|Zr<|Zw (fs.getD k undef) rfl ?_
 refine mA (dd:=some 14) rfl rfl rfl (ij (q:=q k) (first:= #[]) (cap:=cap k) (vs:=cap k) (hfs k Om) (hcb k Om) gj) (hst k _ Om (an hN0 (Below.size hB)) hJ) (λg h f=> ?_)
 obtain⟨hBt,cs,e,hj,hc,h0,h1⟩:=f
 replace hB:=Below.trans hB hBt
 refine ct<|Zr<|Zp rfl<|Zc rfl<|Zf rfl iR<|Zv (cB (v:= .int .i64 e) rfl gn (At.cell hj hc))<|Zv (ep rfl rfl)<|ct<|ZQ rfl (λb=> ?_) λb=> ?_
 refine Zr<|Zb rfl<|ct<|Zt<|cV (v:= .bool false) rfl ?_
 exact⟨hB, .inr ⟨rfl,h1 b⟩⟩
 refine cu<|ZT rfl rfl rfl ?_
 exact c _ _ (k+1) Za ⟨rfl,trivial⟩ ⟨hB,(h0 (aaa b)),(hsl _ _ (h0 (aaa b))),Om,trivial⟩ Zo
 refine cR<|Zr<|Zb rfl<|ct<|Zt<|cV (v:= .bool true) rfl ?_
 (obtain rfl:k=fs.length:=(by omega);exact⟨hB, .inl ⟨rfl,hJ⟩⟩)
def Ad (N bp bt bb br bj:Nat) (xs:Value) (fs:List Value) (s:List UInt8) (b0 b1:Int) (W:World):Prop:=
  (∀V,Below N W V→Gl V)∧At W bp #[.pointer (some ⟨bj,0,none⟩)] 125∧At W bt #[eM s] 9∧At W bb #[.int .i64 b0, .int .i64 b1] 49∧At W br #[.string ⟨#[]⟩, .int .i64 0, .int .i64 0, .int .i64 0] 52∧cD encV 1 1 W N xs fs
theorem Ad.dx {N bp bt bb br bj:Nat} {xs:Value} {fs:List Value} {s:List UInt8} {b0 b1:Int} {W W':World} {cj:Array Value} (h:Ad N bp bt bb br bj xs fs s b0 b1 W) (hN:N≤W.heap.size) (hX:Dx 127 N [bj] W W') (hj:At W bj cj 127):Ad N bp bt bb br bj xs fs s b0 b1 W':=
  ⟨λV hV=>h.1 V (Below.trans (hX.below2 hN) hV),acq hX hj h.2.1 (by decide),acq hX hj h.2.2.1 (by decide),acq hX hj h.2.2.2.1 (by decide),acq hX hj h.2.2.2.2.1 (by decide),ack hX hj h.2.2.2.2.2 (by decide)⟩
def Kc (N bp bt bb br bj:Nat) (xs:Value) (fs:List Value) (s:List UInt8) (b0 b1:Int):Nat→World→Prop
  |0=>λW=>Ad N bp bt bb br bj xs fs s b0 b1 W∧At W bj #[.int .i64 0, .int .i64 0, .int .i64 0, .slice none 0 0, .int .i64 0, .int .i64 0, .int .i64 0, .slice none 0 0, .int .i64 0, .slice none 0 0, .slice none 0 0, .slice none 0 0, .int .i64 0, .int .i64 0, .int .i64 0, .string ⟨#[]⟩, .int .i64 0, .int .i64 0, .int .i64 0, .int .i64 0, .int .i64 0] 127
  |1=>λW=>Ad N bp bt bb br bj xs fs s b0 b1 W∧(de s).2.2=0∧∃lv vs,At W bj #[.int .i64 (de s).1.kind, .int .i64 (de s).1.ni, .int .i64 (de s).1.no,lv, .int .i64 0, .int .i64 0, .int .i64 0, .slice none 0 0, .int .i64 0, .slice none 0 0, .slice none 0 0, .slice none 0 0, .int .i64 0, .int .i64 0, .int .i64 0, .string ⟨#[]⟩, .int .i64 0, .int .i64 0, .int .i64 0, .int .i64 ((de s).2.1:Int), .int .i64 0] 127∧cD iH 3 37 W N lv vs∧iT 3 N W vs (de s).1.ls
  |2=>λW=>Ad N bp bt bb br bj xs fs s b0 b1 W∧(de s).2.2=0∧zB (de s).1=0∧∃lv onV mayV,At W bj #[.int .i64 (de s).1.kind, .int .i64 (de s).1.ni, .int .i64 (de s).1.no,lv, .int .i64 0, .int .i64 0, .int .i64 0, .slice none 0 0, .int .i64 (gF (de s).1).n,onV,mayV, .slice none 0 0, .int .i64 0, .int .i64 0, .int .i64 0, .string ⟨#[]⟩, .int .i64 0, .int .i64 0, .int .i64 0, .int .i64 ((de s).2.1:Int), .int .i64 0] 127∧cD fT 4 40 W N onV ((gF (de s).1).on)∧cD fT 4 40 W N mayV ((gF (de s).1).may)
  |3=>λW=>Ad N bp bt bb br bj xs fs s b0 b1 W∧(de s).2.2=0∧zB (de s).1=0∧oK b0 b1∧∃lv onV mayV x how why sp Rr,At W bj #[.int .i64 (de s).1.kind, .int .i64 (de s).1.ni, .int .i64 (de s).1.no,lv, .int .i64 0, .int .i64 0, .int .i64 0, .slice none 0 0, .int .i64 (gF (de s).1).n,onV,mayV,x, .int .i64 how, .int .i64 why, .int .i64 sp, .string ⟨#[]⟩, .int .i64 0, .int .i64 0, .int .i64 0, .int .i64 ((de s).2.1:Int), .int .i64 0] 127∧cD fT 4 40 W N onV ((gF (de s).1).on)∧cD fT 4 40 W N mayV ((gF (de s).1).may)∧cD gv 3 158 W N x (Rr)∧LA b0.toNat b1.toNat (gF (de s).1) how why sp Rr
  |4=>λW=>Ad N bp bt bb br bj xs fs s b0 b1 W∧(de s).2.2=0∧zB (de s).1=0∧oK b0 b1∧∃lv onV mayV x how why sp Rr lv2 vs2,At W bj #[.int .i64 (de s).1.kind, .int .i64 (de s).1.ni, .int .i64 (de s).1.no,lv, .int .i64 (HH (gF (de s).1) Rr).kind, .int .i64 (HH (gF (de s).1) Rr).ni, .int .i64 (HH (gF (de s).1) Rr).no,lv2, .int .i64 (gF (de s).1).n,onV,mayV,x, .int .i64 how, .int .i64 why, .int .i64 sp, .string ⟨#[]⟩, .int .i64 0, .int .i64 0, .int .i64 0, .int .i64 ((de s).2.1:Int), .int .i64 0] 127∧cD gv 3 158 W N x (Rr)∧LA b0.toNat b1.toNat (gF (de s).1) how why sp Rr∧cD iH 3 37 W N lv2 vs2∧iT 3 N W vs2 (HH (gF (de s).1) Rr).ls
  |_=>λW=>Ad N bp bt bb br bj xs fs s b0 b1 W∧(de s).2.2=0∧zB (de s).1=0∧oK b0 b1∧∃lv onV mayV x how why sp Rr lv2,At W bj #[.int .i64 (de s).1.kind, .int .i64 (de s).1.ni, .int .i64 (de s).1.no,lv, .int .i64 (HH (gF (de s).1) Rr).kind, .int .i64 (HH (gF (de s).1) Rr).ni, .int .i64 (HH (gF (de s).1) Rr).no,lv2, .int .i64 (gF (de s).1).n,onV,mayV,x, .int .i64 how, .int .i64 why, .int .i64 sp,eM (jy (HH (gF (de s).1) Rr)), .int .i64 0, .int .i64 0, .int .i64 0, .int .i64 ((de s).2.1:Int), .int .i64 0] 127∧cD gv 3 158 W N x (Rr)∧LA b0.toNat b1.toNat (gF (de s).1) how why sp Rr
def X2 (N bp bt bb br bj:Nat) (xs:Value) (fs:List Value) (s:List UInt8) (b0 b1:Int) (W:World):Prop:=At W bp #[.pointer (some ⟨bj,0,none⟩)] 125∧At W br #[.string ⟨#[]⟩, .int .i64 0, .int .i64 0, .int .i64 0] 52∧∃cs ln e,At W bj cs 127∧cs[19]? =some (.int .i64 ln)∧cs[20]? =some (.int .i64 e)∧CF s b0 b1 ln e
theorem Kc.xs {N bp bt bb br bj:Nat} {xs:Value} {fs:List Value} {s:List UInt8} {b0 b1:Int}:∀k W,Kc N bp bt bb br bj xs fs s b0 b1 k W→dh encV 1 W xs fs:=by
  intro k W h
  have hC:Ad N bp bt bb br bj xs fs s b0 b1 W:=by
    match k,h with
    |0,h|1,h|2,h|3,h|4,h|_+5,h=>exact h.1
  exact hC.2.2.2.2.2.sl
def Wx:Nat→Nat:=ZK 69 70 71 72 73
def pv (b:Nat):Value:= .pointer (some ⟨b,0,none⟩)
def Nh (bp bt bb:Nat):Nat→Array Value:=ZN #[pv bt,pv bp] #[pv bp] #[pv bp,pv bb] #[pv bp] #[pv bp]
theorem OY {N bp bt bb br bj:Nat} {xs:Value} {fs:List Value} {s:List UInt8} {b0 b1:Int} (loj:N≤bj) (hsl:s.length≤100000) (hfew:My s 4 3):∀k W,k<5→N≤W.heap.size→Kc N bp bt bb br bj xs fs s b0 b1 k W→
    mS Tryz.prog (Wx k) (Nh bp bt bb k) W λv W'=>Below N W W'∧∃cs e,At W' bj cs 127∧cs[20]? =some (.int .i64 e)∧(e=0→Kc N bp bt bb br bj xs fs s b0 b1 (k+1) W')∧(¬e=0→X2 N bp bt bb br bj xs fs s b0 b1 W'):=by
  intro k W hk hN hI
  match k,hk,hI with
  |0,_,hI=>
    obtain⟨hC,hj⟩:=hI
    refine mS.mono (Ex N bj bp bt s W hN hC.1 hC.2.1 loj hj hC.2.2.1 hsl) λv W' ⟨hX,lv,vs,h1,h2,h3⟩=>⟨hX.below2 hN,_,_,h1,rfl,λe=>⟨hC.dx hN hX hj,e,lv,vs,by rw[e]at h1;exact h1,h2,h3⟩,λe=>⟨(hC.dx hN hX hj).2.1,(hC.dx hN hX hj).2.2.2.2.1,_,_,_,h1,rfl,rfl, .inl ⟨e,rfl,rfl⟩⟩⟩
  |1,_,hI=>
    obtain⟨hC,hp,lv,vs,hj,hlv,hls⟩:=hI
    refine mS.mono (EG N bj bp (de s).1 lv vs _ W hN hC.1 hC.2.1 loj hj hlv hls (L8 s)) λv W' ⟨hX,h⟩=>⟨hX.below2 hN,?_⟩
    rcases h with ⟨h0,onV,mayV,h1,h2,h3⟩|⟨h0,h1⟩
    · exact⟨_,_,h1,rfl,λ_=>⟨hC.dx hN hX hj,hp,h0,lv,onV,mayV,h1,h2,h3⟩,λe=>absurd rfl e⟩
    · exact⟨_,_,h1,rfl,λe=>absurd e h0,λ_=>⟨(hC.dx hN hX hj).2.1,(hC.dx hN hX hj).2.2.2.2.1,_,_,_,h1,rfl,rfl, .inr (.inl ⟨hp,h0,by rw[E5 hp];rfl,rfl⟩)⟩⟩
  |2,_,hI=>
    obtain⟨hC,hp,h0,lv,onV,mayV,hj,hon,hmay⟩:=hI
    refine mS.mono (DJ N bj bp bb (gF (de s).1) onV mayV b0 b1 _ _ _ _ _ W hN hC.1 hC.2.1 loj hj hon hmay hC.2.2.2.1 (qz hfew hp)) λv W' ⟨hX,h⟩=>⟨hX.below2 hN,?_⟩
    rcases h with ⟨hb,x,how,why,sp,Rr,h1,h2,h3⟩|⟨hb,h1⟩
    · exact⟨_,_,h1,rfl,λ_=>⟨hC.dx hN hX hj,hp,h0,hb.2,lv,onV,mayV,x,how,why,sp,Rr,h1,ack hX hj hon (by decide),ack hX hj hmay (by decide),h2,h3⟩,λe=>absurd rfl e⟩
    · exact⟨_,_,h1,rfl,λe=>absurd e (by decide),λ_=>⟨(hC.dx hN hX hj).2.1,(hC.dx hN hX hj).2.2.2.2.1,_,_,_,h1,rfl,rfl, .inr (.inr ⟨hp,h0,λk=>hb ⟨tN h0,k⟩,by rw[E5 hp];rfl,rfl⟩)⟩⟩
  |3,_,hI=>
    obtain⟨hC,hp,h0,hb,lv,onV,mayV,x,how,why,sp,Rr,hj,hon,hmay,hx,hmo⟩:=hI
    have hr:=tN h0
    obtain⟨hcv,h48⟩:=O3 hr (qz hfew hp hr).1 (qz hfew hp hr).2 hmo
    have hm:=(fN.1 hcv).2.1
    refine mS.mono (FD N bj bp (gF (de s).1) onV mayV x Rr _ _ _ _ _ _ _ _ W hN hC.1 hC.2.1 loj hj hon hmay hx hr hm (MH hr hm) (by omega)) λv W' ⟨hX,lv2,vs2,h1,h2,h3⟩=>⟨hX.below2 hN,_,_,h1,rfl,λ_=>⟨hC.dx hN hX hj,hp,h0,hb,lv,onV,mayV,x,how,why,sp,Rr,lv2,vs2,h1,ack hX hj hx (by decide),hmo,h2,h3⟩,λe=>absurd rfl e⟩
  |4,_,hI=>
    obtain⟨hC,hp,h0,hb,lv,onV,mayV,x,how,why,sp,Rr,lv2,vs2,hj,hx,hmo,hlv2,hls2⟩:=hI
    have hr:=tN h0
    obtain⟨hcv,h48⟩:=O3 hr (qz hfew hp hr).1 (qz hfew hp hr).2 hmo
    have hT:=Kt hr (fN.1 hcv).2.1 (show Rr.length≤64 by omega)
    refine mS.mono (FH N bj bp (HH (gF (de s).1) Rr) lv2 vs2 _ _ _ _ _ _ _ _ _ _ _ _ W hN hC.1 hC.2.1 loj hj hlv2 hls2 (EU hT) hT) λv W' ⟨hX,h1⟩=>⟨hX.below2 hN,_,_,h1,rfl,λ_=>⟨hC.dx hN hX hj,hp,h0,hb,lv,onV,mayV,x,how,why,sp,Rr,lv2,h1,ack hX hj hx (by decide),hmo⟩,λe=>absurd rfl e⟩
  |k+5,hk,_=>exact absurd hk (by omega)
set_option maxHeartbeats 4000000 in
theorem AW (s:List UInt8) (b0 b1:Int) (w:World) (hgl:Gl w) (hsl:s.length≤100000) (hfew:My s 4 3):
    Fn Tryz.prog 23 #[eM s, .agg #[.int .i64 b0, .int .i64 b1]] w λv w'=>∃tx how why rows ln e,v= .tuple #[.agg #[eM tx, .int .i64 how, .int .i64 why, .int .i64 rows], .int .i64 ln, .int .i64 e]∧Vo s b0 b1 tx how why rows ln e:=by
 refine cH (n:=62) Tryz.func23 rfl rfl rfl λhB=> ?_
 refine Zr<|Zy (dt (c:= #[_]) rfl rfl λm W3 ai K h=> ?_)
 replace hB:=Ze hB K
 refine Zy (dt (c:= #[_,_]) rfl rfl λo W6 aj L j=> ?_)
 obtain⟨hB,h⟩:=L.k2 hB h
 refine Zy (cI Cf rfl λy W9 M N p=> ?_)
 have G:=ZO M hB
 obtain⟨hB,h,j⟩:=N.k3 hB h j
 refine Zi rfl<|ZZ rfl<|Zr<|Zv (Ce)<|Zy (dt (c:= #[_,_,_,_,_,_,_,_,_,_,_,_,_,_,_,_,_,_,_,_,_]) rfl rfl λf ak O P q=> ?_)
 have z:=ZO O hB
 obtain⟨hB,h,j,p⟩:=P.k4 hB h j p
 refine Zy (cI Rs rfl λd al Q R i=> ?_)
 have S:=ZO Q hB
 obtain⟨hB,h,j,p,q⟩:=R.k5 hB h j p q
 refine Zy (dm (v:= .pointer (some ⟨f,0,none⟩)) rfl rfl eX rfl i LK λao r T=> ?_)
 replace hB:=Zg hB r S
 replace h:=At.grownAt h i r Dd
 replace j:=At.grownAt j i r Dd
 replace p:=At.grownAt p i r Dd
 replace q:=At.grownAt q i r Dd
 replace i:=T
 replace i:At _ _ #[_] _:=i
 refine ct<|Zr<|ZL (.pointer (some ⟨f,0,none⟩)) rfl eX i rfl<|Zv (fI (vs:= #[.pointer (some ⟨m,0,none⟩), .pointer (some ⟨d,0,none⟩)]) Ga)<|Zv (fI (vs:= #[.pointer (some ⟨d,0,none⟩)]) Ga)<|Zv (fI (vs:= #[.pointer (some ⟨d,0,none⟩), .pointer (some ⟨o,0,none⟩)]) Ga)<|Zv (fI (vs:= #[.pointer (some ⟨d,0,none⟩)]) Ga)<|Zv (fI (vs:= #[.pointer (some ⟨d,0,none⟩)]) Ga)<|Zy (Ux (u0:= .func (.func 69) #[] #[.pointer (some ⟨m,0,none⟩), .pointer (some ⟨d,0,none⟩)]) (u1:= .func (.func 70) #[] #[.pointer (some ⟨d,0,none⟩)]) (u2:= .func (.func 71) #[] #[.pointer (some ⟨d,0,none⟩), .pointer (some ⟨o,0,none⟩)]) (u3:= .func (.func 72) #[] #[.pointer (some ⟨d,0,none⟩)]) (u4:= .func (.func 73) #[] #[.pointer (some ⟨d,0,none⟩)]) rfl rfl rfl rfl rfl yV UQ rfl rfl rfl rfl rfl λH ap U W X=> ?_)
 have Y:=ZO U hB
 obtain⟨hB,h,j,p,q,i⟩:=W.k6 hB h j p q i
 have C:=LG X Y
 replace C:cD encV 1 _ _ _ _ (Yl 69 70 71 72 73 #[pv m,pv d] #[pv d] #[pv d,pv o] #[pv d] #[pv d]):=C
 refine ZH UP (re w.heap.size f _ (Yl 69 70 71 72 73 #[pv m,pv d] #[pv d] #[pv d,pv o] #[pv d] #[pv d]) Wx (Nh d m o) (Kc w.heap.size d m o y f (.slice (some ⟨H,0,none⟩) 5 5) (Yl 69 70 71 72 73 #[pv m,pv d] #[pv d] #[pv d,pv o] #[pv d] #[pv d]) s b0 b1) (X2 w.heap.size d m o y f (.slice (some ⟨H,0,none⟩) 5 5) (Yl 69 70 71 72 73 #[pv m,pv d] #[pv d] #[pv d,pv o] #[pv d] #[pv d]) s b0 b1) _ (Below.size hB) Kc.xs (show 5≤100 by decide) (λk hk=>SL hk) (λk _=>ZV Vh U9 U5 UO Uc) ⟨⟨λV hV=>Gl.below (Below.trans hB hV) hgl,i,h,j,p,C⟩,q⟩ (OY z hsl hfew)) rfl λaq ar Z=> ?_
 obtain⟨hBt,hR⟩:=Z
 replace hB:=Below.trans hB hBt
 rcases hR with hR|hR
 obtain⟨rfl,⟨_,hbp,_,_,hbr,_⟩,hp,hof,hbd,lv,onV,mayV,x,how,why,sp,Rr,au,hbj,hx,hmo⟩:=hR
 refine Zb rfl<|ct<|Zq<|Zr<|Zb rfl<|Zv (eR rfl)<|ct<|dA rfl<|cu<|Zd (λa b=>Az f 16 a b) λI aa=> ?_
 obtain⟨hB,hbp,hbr,hbj,hx⟩:=aa.k5 hB hbp hbr hbj hx
 have l:=hbj
 have hS:Az f 16 I I:=Az.refl
 refine Tk 0 rfl (λ_ hq=>cB (v:= .pointer (some ⟨f,0,none⟩)) rfl eX (At.cell (At.grownAt hbp l hq.g Dd) rfl)) hS<|Tk 1 rfl (λ_ hq=>cB (v:= .pointer (some ⟨f,0,none⟩)) rfl eX (At.cell (At.grownAt hbp l hq.g Dd) rfl)) hS<|Tk 2 rfl (λ_ hq=>cB (v:= .pointer (some ⟨f,0,none⟩)) rfl eX (At.cell (At.grownAt hbp l hq.g Dd) rfl)) hS<|Tk 3 rfl (λ_ hq=>cB (v:= .pointer (some ⟨f,0,none⟩)) rfl eX (At.cell (At.grownAt hbp l hq.g Dd) rfl)) hS<|Tc 4 rfl rfl hS<|Tf 5 rfl rfl l3 hS<|Tf 6 rfl rfl KY hS<|Tk 7 rfl (λ_ hq=>cB (v:= .int .i64 _) rfl cK (Az.cell hq l Dd rfl)) hS<|Tk 8 rfl (λ_ hq=>cB (v:= .pointer (some ⟨f,0,none⟩)) rfl eX (At.cell (At.grownAt hbp l hq.g Dd) rfl)) hS<|Tc 9 rfl rfl hS<|Tf 10 rfl rfl l3 hS<|Tf 11 rfl rfl Ld hS<|Tk 12 rfl (λ_ hq=>cB (v:= .int .i64 _) rfl gn (Az.cell hq l Dd rfl)) hS<|Tk 13 rfl (λ_ hq=>cB (v:= .pointer (some ⟨f,0,none⟩)) rfl eX (At.cell (At.grownAt hbp l hq.g Dd) rfl)) hS ?_
 refine Tc 14 rfl rfl hS<|Tf 15 rfl rfl l3 hS<|Tf 16 rfl rfl rL hS<|Tk 17 rfl (λ_ hq=>cB (v:=x) rfl m3 (Az.cell hq l Dd rfl)) hS<|Tk 18 rfl (λ_ hq=>cT (v:=x) rfl ((cD.grownAt hx l hq.g Dd)).sl dM) hS<|Tc 19 rfl rfl hS<|Tf 20 rfl rfl nY hS<|Tf 21 rfl rfl Bb hS<|To 22 rfl (dm (v:= .int .i64 _) rfl rfl cK rfl hbj gj λav t D=>⟨.inl (acg hS hbj t D (by decide)),?_⟩)
 replace hS:=acg hS hbj t D Dd
 replace hB:=Zg hB t z
 replace hbp:=At.grownAt hbp hbj t Dd
 replace hbr:=At.grownAt hbr hbj t Dd
 replace hbj:=D
 replace hbj:At _ _ #[_,_,_,_,_,_,_,_,_,_,_,_,_,_,_,_,_,_,_,_,_] _:=hbj
 refine Tc 23 rfl rfl hS<|Tf 24 rfl rfl nY hS<|Tf 25 rfl rfl Kn hS<|To 26 rfl (dm (v:= .int .i64 _) rfl rfl gn rfl hbj gj λaw u E=>⟨.inl (acg hS hbj u E (by decide)),?_⟩)
 replace hS:=acg hS hbj u E Dd
 replace hB:=Zg hB u z
 replace hbp:=At.grownAt hbp hbj u Dd
 replace hbr:=At.grownAt hbr hbj u Dd
 replace hbj:=E
 replace hbj:At _ _ #[_,_,_,_,_,_,_,_,_,_,_,_,_,_,_,_,_,_,_,_,_] _:=hbj
 refine Tc 27 rfl rfl hS<|Tf 28 rfl rfl nY hS<|Tf 29 rfl rfl Ba hS<|To 30 rfl (dm (v:= .int .i64 _) rfl rfl cK rfl hbj gj λax A J=>⟨.inl (acg hS hbj A J (by decide)),?_⟩)
 replace hB:=Zg hB A z
 replace hbp:=At.grownAt hbp hbj A Dd
 replace hbr:=At.grownAt hbr hbj A Dd
 replace hbj:=J
 replace hbj:At _ _ #[_,_,_,_,_,_,_,_,_,_,_,_,_,_,_,_,_,_,_,_,_] _:=hbj
 refine Td<|Zr<|ZL (.pointer (some ⟨f,0,none⟩)) rfl eX hbp rfl<|Zc rfl<|Zf rfl nY<|Zv (fv rfl pE (At.cell hbj rfl) (At.cell hbj rfl) (At.cell hbj rfl) (At.cell hbj rfl))<|Zy (cz rfl rfl pE rfl hbr rfl rfl λay ab ac=> ?_)
 replace hB:=Zg hB ab G
 replace hbr:=ac
 refine Zi rfl<|ZZ rfl<|Zt<|m8 rfl pE hbr rfl (v1:= .int .i64 0) rfl (v2:= .int .i64 0) rfl ⟨hB,?_⟩
 exact⟨_,_,_,_,_,_,rfl, .inr ⟨hp,hof,hbd,rfl,rfl,sp,Rr,hmo,rfl,rfl⟩⟩
 obtain⟨rfl,hbp,hbr,cs,ln,er,hbj,ad,ae,herr⟩:=hR
 refine Zb rfl<|ct<|Zq<|Zr<|Zb rfl<|Zv (eR rfl)<|ct<|cF rfl<|Zd (λa b=>a.grownBy b (some y)) λaf ag=> ?_
 obtain⟨hB,hbp,hbr,hbj⟩:=ag.k4 hB hbp hbr hbj
 have B:=hbr
 have hS:=World.grownBy.refl af (some y)
 refine Tk 0 rfl (λ_ _=>Fp) hS<|Tk 1 rfl (λ_ hq=>cB (v:= .pointer (some ⟨f,0,none⟩)) rfl eX (At.cell (At.grownAt hbp B hq Dd) rfl)) hS<|Tc 2 rfl rfl hS<|Tf 3 rfl rfl yq hS<|Tk 4 rfl (λ_ hq=>cB (v:= .int .i64 ln) rfl cK (At.cell (At.grownAt hbj B hq Dd) ad)) hS<|Tk 5 rfl (λ_ hq=>cB (v:= .pointer (some ⟨f,0,none⟩)) rfl eX (At.cell (At.grownAt hbp B hq Dd) rfl)) hS<|Tc 6 rfl rfl hS<|Tf 7 rfl rfl iR hS<|Tk 8 rfl (λ_ hq=>cB (v:= .int .i64 er) rfl gn (At.cell (At.grownAt hbj B hq Dd) ae)) hS<|To 9 rfl (cz rfl rfl pE rfl hbr rfl rfl λaz F ah=>⟨.inl (cC hS F),?_⟩)
 replace hS:=cC hS F
 replace hB:=Zg hB F G
 replace hbr:=ah
 refine Ti 10 rfl rfl hS<|Ti 11 rfl rfl hS<|Td<|Zt<|m8 rfl pE hbr rfl (v1:= .int .i64 _) rfl (v2:= .int .i64 _) rfl ⟨hB,?_⟩
 exact⟨_,_,_,_,_,_,rfl, .inl ⟨herr,rfl,rfl,rfl,rfl⟩⟩
end
section
open Go Go.RowKit
section
variable {S:Sp}
theorem Qf {R:Nat} {e:Int} (h:S8 R S e) (hb:(2^S.may.length-1)*bO S<R):e=0:=by
 obtain⟨ns',id,h1,_,_⟩:=h
 obtain⟨c,hc,s⟩:=h1.1.st
 exact(s.ok (by rw[aa8];omega)).1
theorem ZD:∀n m:Nat,n≤3→m≤2→(2^m-1)*(2^m*(tC n+2*n*3^n)+24+sY (16+m)*3^n+(16+m)*3^n)<20000:=by
 intro n m hn hm
 have hn':n=0∨n=1∨n=2∨n=3:=by omega
 have hm':m=0∨m=1∨m=2:=by omega
 rcases hn' with rfl|rfl|rfl|rfl<;>rcases hm' with rfl|rfl|rfl<;>decide+kernel
theorem V9 (hn:S.n≤3) (hm:S.may.length≤2):(2^S.may.length-1)*bO S<20000:=ZD (nN S) S.may.length (by unfold nN;omega) hm
theorem Rx (hl:(eW S).length≤4000) {T:Nat} (h:Vu S T):T+1<2^(eW S).length:=by
 obtain⟨L,ks,h1,h2⟩:=h
 have h3:=ua h1.sub
 have h4:=Xx (kE (S:=S) hl)
 exact aao h2 (aaf (by decide) (an h3 h4))
end
def KQ:Sp:=⟨2,[14],[14]⟩
theorem Mr:dq KQ=true:=by decide+kernel
theorem yg:(eW KQ).length=2:=by decide+kernel
theorem Wh:io KQ (eW KQ)=true:=JE Mr
theorem MR:io KQ []=false∧io KQ [(eW KQ).getD 0 ⟨⟨0,0⟩,0⟩]=false∧io KQ [(eW KQ).getD 1 ⟨⟨0,0⟩,0⟩]=false:=by decide+kernel
theorem UA {Rr:List Rw} (h:Mb KQ Rr):Rr.length=2:=by
 have h1:=h.min _ Wh
 rw[yg]at h1
 have hc:=h.cov
 have hs:=h.sub
 match Rr,h1,hc,hs with
 |[],_,hc,_=>rw[MR.1]at hc;cases hc
 |[r],_,hc,hs=>
  have hm:r∈eW KQ:=hs.subset (Z8.2 rfl)
  obtain⟨j,hj,rfl⟩:=eZ (d:=(⟨⟨0,0⟩,0⟩:Rw)) hm
  rw[yg]at hj
  have:j=0∨j=1:=by omega
  rcases this with rfl|rfl
  ·rw[MR.2.1]at hc;cases hc
  ·rw[MR.2.2]at hc;cases hc
 |[_,_],_,_,_=>rfl
 |_::_::_::_,h1,_,_=>simp only[aak]at h1;omega
theorem ZF {how why sp:Int} {Rr:List Rw} (h:LA 20000 1000000 KQ how why sp Rr):how=1∧why=0∧Rr.length=2:=by
 rcases h with ⟨h1,h2,_,_,_,h3⟩|⟨_,_,⟨_,_,h⟩|⟨_,_,_,h⟩⟩
 ·exact⟨h1,h2,UA h3⟩
 ·exact absurd (Qf h (V9 (by decide) (by decide))) (by decide)
 ·have:=Rx (by rw[yg];decide) h
  rw[yg]at this
  omega
section
variable {S:Sp} {b0 b1:Int}
end
end
section
open Go Go.RowKit
def Ly:List UInt8:=[46,105,32,50,10,46,111,32,49,10,48,49,32,49,10,49,48,32,49,10,49,49,32,49,10,46,101,10]
def Wz:List UInt8:=[46,105,32,50,10,46,111,32,49,10,48,32,49,10,46,101,10]
theorem JM:(de Ly).2.2=0∧zB (de Ly).1=0∧(de Ly).1.ni=2∧(de Ly).1.no=1:=by decide+kernel
theorem XM:gF (de Ly).1=KQ:=by
 have h:(gF (de Ly).1).n=2∧(gF (de Ly).1).on=[14]∧(gF (de Ly).1).may=[14]:=by decide+kernel
 cases hs:gF (de Ly).1 with
 |mk a b c=>rw[hs]at h;obtain⟨rfl,rfl,rfl⟩:=h;rfl
theorem BE:(de Wz).2.1=2∧(de Wz).2.2=2:=by decide+kernel
theorem QA:My Ly 4 3:=λ_=>by rw[JM.2.2.1,JM.2.2.2];decide
theorem RB:My Wz 4 3:=λh=>by rw[BE.2]at h;cases h
section
variable {tx:List UInt8} {how why rows ln e:Int}
theorem Zu (h:Vo Ly 20000 1000000 tx how why rows ln e):how=1∧rows=2∧ln=0∧e=0∧tx=jy (HH KQ (eW KQ)):=by
 rcases h with ⟨h,_⟩|⟨_,_,_,h1,h2,sp,Rr,h3,h4,h5⟩
 ·rcases h with ⟨h,_⟩|⟨_,h,_⟩|⟨_,_,h,_⟩
  ·exact absurd JM.1 h
  ·exact absurd JM.2.1 h
  ·exact absurd (by decide) h
 ·rw[XM]at h3 h4
  have h3':LA 20000 1000000 KQ how why sp Rr:=h3
  obtain⟨k1,_,k2⟩:=ZF h3'
  rcases h3' with h6|h6
  ·have hs:Rr=eW KQ:=h6.2.2.2.2.2.sub.eq_of_length (by rw[k2,yg])
   exact⟨k1,by rw[h5,k2];rfl,h1,h2,by rw[h4,hs]⟩
  ·have:=h6.1;omega
theorem YR (h:Vo Wz 0 0 tx how why rows ln e):ln=2∧e=2:=by
 rcases h with ⟨h,_⟩|⟨h,_⟩
 ·rcases h with ⟨_,h1,h2⟩|⟨h,_⟩|⟨h,_⟩
  ·rw[BE.1]at h1;rw[BE.2]at h2;exact⟨h1,h2⟩
  ·rw[BE.2]at h;cases h
  ·rw[BE.2]at h;cases h
 ·rw[BE.2]at h;cases h
end
theorem Jc {m u p:Nat} {n:Int} (h:dC m u n=true) (hp:p<256):vM (oH m u n.toNat) (p:Int)=((l4 (2^n.toNat)).getD p false&&mE m u p):=by
 obtain⟨h0,h8,_,hv⟩:=dw.1 h
 have e1:(l4 (2^n.toNat)).getD p false=decide (p<2^n.toNat):=by
  rw[me,th (by rw[pL];exact hp)]
  simp[l4]
 have e2:mM (p:Int)=true:=by unfold mM;simp;omega
 unfold vM mE
 rw[e1,e2,aax,so,iM (by omega),hv]
theorem XU {m u p:Nat} {n:Int} (h:dC m u n=true) (hp:p<256) (ha:(l4 (2^n.toNat)).getD (p:Int).toNat false=true):vM (oH m u n.toNat) (p:Int)=mE m u p:=by
 rw[Jc h hp]
 rw[so]at ha
 rw[ha,aax]
theorem X6 {m u p:Nat} {n:Int} (h:dC m u n=true) (hp:p<256) (ha:(l4 (2^n.toNat)).getD (p:Int).toNat false=false):vM (oH m u n.toNat) (p:Int)=false:=by
 rw[Jc h hp]
 rw[so]at ha
 rw[ha,aaJ]
theorem P6 {T:Tb} (h:fc T=true):∀k,k<T.ls.length→(T.ls.getD k eV).os.length≤1000000:=λk hk=>by
 obtain⟨_,h1,_⟩:=lj.1 (mw h hk)
 obtain⟨_,_,_,_,_,h4,_⟩:=iu h
 omega
theorem VO {P:Program} {f:Nat→Value} {w:World} {d:Option Nat} {ty:TypeId} {ps:String} {af:Array Edge} {g:Option (Nat×Bool)} {x y:Operand} {t t2:TypeId} {k:IntKind} {m n q:Nat} {b:Int} (hx:dg f x= .int k (m:Int)) (hy:dg f y= .int k b) (hb:b=(n:Int)) (hn:0<n) (hq:q=m%n):
  (execOp (dg f) ⟨d, .binOp .rem t x y t2,ty,ps,af,g⟩).run P w= .ok (.value (.int k (q:Int))) w:=by rw[hq];exact yF hx hy hb hn
end
end Go.Proofs.YtedeonkjellcpaaGreatDoor
