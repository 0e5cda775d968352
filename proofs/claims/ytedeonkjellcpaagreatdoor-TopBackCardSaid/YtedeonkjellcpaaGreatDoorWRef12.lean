/- The walk of the family of a spec's primes. The walks of thinning: the program's way and the document's. The walks of package isop. The walks of isop.Cover, isop.Grown, and of the document's cover. -/
import Derived.Test.YtedeonkjellcpaaGreatDoorWTag2
namespace Go.Proofs.YtedeonkjellcpaaGreatDoor
set_option linter.unusedVariables false
set_option linter.unusedSimpArgs false
section
open Go Go.RowKit
theorem js:eE Tryz.prog 283=true:=by kernel_rfl
theorem R6:dT Tryz.prog 285=some (.agg #[.pointer none, .int .i64 0]):=by kernel_rfl
theorem np:(Tryz.prog.info? 27).map (·.size)=some 1:=by kernel_rfl
theorem Aq {f:Nat→Value} {w:World} {d:Option Nat} {ty:TypeId} {ps:String} {af:Array Edge} {g:Option (Nat×Bool)} {x0:Operand} {c0_0:Value} (h0:dg f x0=c0_0) (k0:c0_0.cells= #[c0_0]):
    (execOp (dg f) ⟨d, .build 285 #[(0,x0)],ty,ps,af,g⟩).run Tryz.prog w= .ok (.value (.agg #[c0_0, .int .i64 0])) w:=by
  obtain⟨i0,hi0,hz0⟩:=Do.1 (show (Tryz.prog.info? 285).bind (·.zero)=_ from R6)
  obtain⟨j27,hj27,hs27⟩:=go.1 np
  obtain⟨j238,hj238,hs238⟩:=go.1 zx
  simp[execOp,h0,k0,Instr.build,zeroValue,typeInfo,sizeOf,hi0,hz0,run_underlying Tryz.underlying285,Instr.fill,dX,hj27,hs27,hj238,hs238]
theorem PG:dT Tryz.prog 283=some (.pointer none):=by kernel_rfl
theorem Ie:cX Tryz.prog 220=true:=by kernel_rfl
set_option maxRecDepth 10000 in
theorem rD (w0:World) (ba bm bz bc R:Nat) (ns:List Nd) (e:Int) (S:Sp) (onV mayV:Value) (o ball bs bp:Nat) (w:World) (hB:Below w0.heap.size w0 w) (hz:At w bz #[.pointer (some ⟨ba,0,none⟩)] 282) (hD:fC 222 228 w0.heap.size ba bm R w ns) (hc:At w bc #[.pointer (some ⟨bz,0,none⟩), .int .i64 e] 285) (loc:w0.heap.size≤bc) (hr:dq S=true) (hon:dh fT 4 w0 onV S.on) (hmay:dh fT 4 w0 mayV S.may) (hal:At w ball #[wv (fh (nN S)) 0,wv (fh (nN S)) 1,wv (fh (nN S)) 2,wv (fh (nN S)) 3] 40) (hsp:At w bs #[.int .i64 ((nN S:Nat):Int),onV,mayV] 59) (hbp:At w bp #[.pointer (some ⟨bc,0,none⟩)] 283) (ho:o<16):
    mS Tryz.prog 220 #[.int .i64 (o:Int), .pointer (some ⟨ball,0,none⟩), .pointer (some ⟨bs,0,none⟩), .pointer (some ⟨bp,0,none⟩)] w λv w'=>∃(ns':List Nd) (e':Int) (id:Nat),v= .int .i64 (id:Int)∧Dc 228 285 w0.heap.size bc bz ba bm w w'∧At w' bz #[.pointer (some ⟨ba,0,none⟩)] 282∧fC 222 228 w0.heap.size ba bm R w' ns'∧At w' bc #[.pointer (some ⟨bz,0,none⟩), .int .i64 e'] 285∧MI ns ns' R e e' (nN S) 0 (gY S o) id:=by
 refine rI (n:=33) Tryz.func220 rfl rfl (ab3 rfl) ?_
 have hX:Dc 228 285 w0.heap.size bc bz ba bm w w:=Dc.refl
 have hwf:=hD.wf
 have hroom:=hD.room
 have htop:=hD.top
 obtain⟨h8,hSn,y⟩:=qP hr
 have N:=OA y
 refine Zr<|ZZ rfl<|Zr<|Zv (cy rfl cA rfl hal)<|Zy (cI ee rfl λi W5 j l a=> ?_)
 have g:=ZO j hB
 have r:=Zn j hal.lt
 have s:w.heap.size≤i:=j▸hX.dx.size
 obtain⟨hz,hc⟩:=l.k2 hz hc
 replace hD:=fC.ext l hD
 obtain⟨hX,hal,hsp,hbp,hB⟩:=l.k5 hX hal hsp hbp hB
 replace a:At W5 i #[wv 0 0,wv 0 1,wv 0 2,wv 0 3] 40:=a
 refine Zy (cz rfl rfl cA rfl a rfl rfl λW8 d z=> ?_)
 replace hz:=At.grownAt hz a d Dd
 replace hc:=At.grownAt hc a d Dd
 replace hD:=fC.grownAt hD a d Dd Dd
 replace hX:=Dc.new hX s g d a Dd
 replace hal:=At.grownNe hal r d
 replace hsp:=At.grownAt hsp a d Dd
 replace hbp:=At.grownAt hbp a d Dd
 replace hB:=Zg hB d g
 replace a:=z
 refine ct<|Zq<|Zr<|Zf rfl gS<|ZL mayV rfl ft hsp rfl<|Zv (cT (v:=mayV) rfl (Below.slT hB hmay) eN)<|ZZ rfl<|cx ?_
 refine cS (σ:=(Nat)) [7,8,13,26] (λk=>[(13, .int .i64 (k:Int))]) (λk W=>(At W bz _ 282)∧(At W bc _ 285)∧(fC 222 228 w0.heap.size ba bm R W ns)∧(Dc 228 285 w0.heap.size bc bz ba bm w W)∧(At W ball _ 40)∧(At W bs _ 59)∧(At W bp _ 283)∧(Below w0.heap.size w0 W)∧(At W i #[wv (lQ S o k) 0,wv (lQ S o k) 1,wv (lQ S o k) 2,wv (lQ S o k) 3] 40)∧(k≤S.may.length)∧(True)) (λk=>S.may.length-k) (0) ⟨rfl,trivial⟩ ⟨hz,hc,hD,hX,hal,hsp,hbp,hB,a,(my _),trivial⟩ ?_
 rintro k O P ⟨hz,hc,hD,hX,hal,hsp,hbp,hB,a,hk,_⟩ Q t
 refine Zr<|Zv (dk rfl rfl)<|ct<|Zq<|ZQ rfl (λA=> ?_) λA=> ?_
 refine cu<|Zq<|cx<|Zr<|Zi rfl<|Zv (df (v:=mayV) rfl (Below.slT hB hmay) rfl eN Om (by omega))<|Zv (fv rfl cA (dh.cell (Below.slT hB hmay) dE 0 Om (by omega) 0 rfl) (dh.cell (Below.slT hB hmay) dE 0 Om (by omega) 1 rfl) (dh.cell (Below.slT hB hmay) dE 0 Om (by omega) 2 rfl) (dh.cell (Below.slT hB hmay) dE 0 Om (by omega) 3 rfl))<|Zy (cI ee rfl λu B h m b=> ?_)
 have x:=ZO h hB
 have C:=Zn h hal.lt
 have D:=Zn h a.lt
 have E:w.heap.size≤u:=h▸hX.dx.size
 obtain⟨hz,hc⟩:=m.k2 hz hc
 replace hD:=fC.ext m hD
 obtain⟨hX,hal,hsp,hbp,hB,a⟩:=m.k6 hX hal hsp hbp hB a
 replace b:At B u #[wv 0 0,wv 0 1,wv 0 2,wv 0 3] 40:=b
 refine Zi rfl<|Zy (cz rfl rfl cA rfl b rfl rfl λT c F=> ?_)
 replace hz:=At.grownAt hz b c Dd
 replace hc:=At.grownAt hc b c Dd
 replace hD:=fC.grownAt hD b c Dd Dd
 replace hX:=Dc.new hX E x c b Dd
 replace hal:=At.grownNe hal C c
 replace hsp:=At.grownAt hsp b c Dd
 replace hbp:=At.grownAt hbp b c Dd
 replace hB:=Zg hB c x
 replace a:=At.grownNe a D c
 replace b:=F
 refine ct<|Zr<|Zi rfl<|Zi rfl<|Zv (qd rfl rfl Om (by simp only[IntKind.bits];omega))<|Zv (mZ (n:=1) rfl rfl rfl (by simp only[ip];have:=aaY o (2^((k:Nat):Int).toNat);omega) Dd)<|Zv (dW rfl rfl)<|ct<|ZQ rfl (λp=> ?_) λp=> ?_
 refine cN<|Zv (cy rfl cA rfl a)<|Zv (cy rfl cA rfl b)<|ZC (vs:=[.agg #[_,_,_,_], .agg #[_,_,_,_]]) tz (pp _ _ _) rfl λU V q G=> ?_
 obtain⟨hz,hc⟩:=q.k2 hz hc
 replace hD:=fC.ext q hD
 obtain⟨hX,hal,hsp,hbp,hB,a⟩:=q.k6 hX hal hsp hbp hB a
 obtain rfl:=G
 refine Zy (cz rfl rfl cA rfl a rfl rfl λX f H=> ?_)
 replace hz:=At.grownAt hz a f Dd
 replace hc:=At.grownAt hc a f Dd
 replace hD:=fC.grownAt hD a f Dd Dd
 replace hX:=Dc.new hX s g f a Dd
 replace hal:=At.grownNe hal r f
 replace hsp:=At.grownAt hsp a f Dd
 replace hbp:=At.grownAt hbp a f Dd
 replace hB:=Zg hB f g
 replace a:=H
 refine ct<|ZT rfl rfl rfl ?_
 exact t _ _ (k+1) Za ⟨rfl,trivial⟩ ⟨hz,hc,hD,hX,hal,hsp,hbp,hB,(by (rw[←TS (Ij p)];exact a)),Om,trivial⟩ Zo
 refine cu<|ZT rfl rfl rfl ?_
 exact t _ _ (k+1) Za ⟨rfl,trivial⟩ ⟨hz,hc,hD,hX,hal,hsp,hbp,hB,(by (rw[←TF (I1 p)];exact a)),Om,trivial⟩ Zo
 refine cR ?_
 obtain rfl:k=S.may.length:=by omega
 refine Zr<|ZL (.pointer (some ⟨bc,0,none⟩)) rfl js hbp rfl<|Zv (cy rfl cA rfl a)<|Zv (cy rfl cA rfl hal)<|Zf rfl iF<|Zl rfl cK hsp rfl<|ZH (vs:=[.pointer (some ⟨bc,0,none⟩), .agg #[_,_,_,_], .agg #[_,_,_,_], .int .i64 _, .int .i64 0]) C5 (SZ (nN S+1) w0.heap.size ba bm bz bc R ns e (gY S o) (nN S) 0 _ (Below.size hB) hz hD hc loc h8 (OI hr o) Om) rfl λY Z I=> ?_
 obtain⟨aa,e8_5,ab,rfl,J,K,hD8_5,L,M⟩:=I
 replace hX:=Dc.trans hX J
 replace hz:=K
 replace hD:=hD8_5
 replace hc:=L
 refine ZZ rfl<|Zt<|cV (v:= .int .i64 _) rfl ?_
 exact⟨_,_,_,rfl,hX,hz,hD,hc,M⟩
set_option maxRecDepth 20000 in
theorem CD (w0:World) (ba bm bz R:Nat) (ns:List Nd) (S:Sp) (onV mayV:Value) (w:World) (hB:Below w0.heap.size w0 w) (hz:At w bz #[.pointer (some ⟨ba,0,none⟩)] 282) (hD:fC 222 228 w0.heap.size ba bm R w ns) (hr:dq S=true) (hon:dh fT 4 w0 onV S.on) (hmay:dh fT 4 w0 mayV S.may):
    mS Tryz.prog 175 #[.pointer (some ⟨bz,0,none⟩), .agg #[.int .i64 S.n,onV,mayV]] w λv w'=>PW 222 228 w0.heap.size ba bm R w ns (Wp R ns S) v w':=by
 refine rI (n:=114) Tryz.func175 rfl rfl (ab3 rfl) ?_
 have hX:Dx 228 w0.heap.size [ba,bm] w w:=Dx.refl
 have hwf:=hD.wf
 have hroom:=hD.room
 have htop:=hD.top
 obtain⟨h8,hSn,aE⟩:=qP hr
 have bo:=OA aE
 have bp:=aaz S.may.length
 refine Zr<|Zy (dt (c:= #[_,_,_]) rfl rfl λs W3 bq Q g=> ?_)
 replace hz:=Q.at hz
 replace hD:=fC.ext Q hD
 obtain⟨hX,hB⟩:=Q.k2 hX hB
 refine Zi rfl<|ZZ rfl<|Zq<|Zr<|Zp rfl<|Zv (qJ rfl rfl Tryz.underlying238)<|Zb rfl<|Zv (cy rfl el rfl g)<|ZC (vs:=[.agg #[_,_,_]]) oB (iJ S _ _ _ (Below.slT hB hon) (Below.slT hB hmay)) rfl λbr bs T aF=> ?_
 replace hz:=T.at hz
 replace hD:=fC.ext T hD
 obtain⟨hX,hB,g⟩:=T.k3 hX hB g
 obtain rfl:=aF
 refine Zv (eR rfl)<|Zb rfl<|ct<|ZQ rfl (λav=> ?_) λav=> ?_
 exact absurd (Mc av) (by rw[hr];decide)
 refine cu<|Zr<|Zp rfl<|Zv (Aq (h0:=rfl) (k0:=rfl) (c0_0:= .pointer (some ⟨bz,0,none⟩)))<|Zy (dt (c:= #[_,_]) rfl rfl λk bt aw U d=> ?_)
 have l:=ZO aw hB
 have F:w.heap.size≤k:=aw▸hX.size
 replace hz:=U.at hz
 replace hD:=fC.ext U hD
 obtain⟨hX,hB,g⟩:=U.k3 hX hB g
 refine Zy (cI PG rfl λr bu ax V e=> ?_)
 have ay:=ZO ax hB
 have aG:w.heap.size≤r:=ax▸hX.size
 replace hz:=V.at hz
 replace hD:=fC.ext V hD
 obtain⟨hX,hB,g,d⟩:=V.k4 hX hB g d
 refine Zy (dm (v:= .pointer (some ⟨k,0,none⟩)) rfl rfl js rfl e LK λbv G aH=> ?_)
 replace hz:=At.grownAt hz e G Dd
 replace hD:=fC.grownAt hD e G Dd Dd
 replace hX:=aca hX aG (Dx.grown G (aab ..) ay)
 replace hB:=Zg hB G ay
 replace g:=At.grownAt g e G Dd
 replace d:=At.grownAt d e G Dd
 replace e:=aH
 replace e:At _ _ #[_] _:=e
 refine ct ?_
 rw[hSn]at g
 refine Zr<|Zf rfl iF<|Zl rfl cK g rfl<|ZC vY (nn ((nN S:Nat):Int) _) rfl λbw bx X aI=> ?_
 replace hz:=X.at hz
 replace hD:=fC.ext X hD
 obtain⟨hX,hB,g,d,e⟩:=X.k5 hX hB g d e
 obtain rfl:=QC h8 aI
 refine Zw (.tuple #[.agg #[_,_,_,_], .int .i64 0]) rfl<|Zv (c7 rfl)<|Zv (da rfl)<|Zy (cI ee rfl λp aJ az Y i=> ?_)
 have aA:=ZO az hB
 have aK:w.heap.size≤p:=az▸hX.size
 replace hz:=Y.at hz
 replace hD:=fC.ext Y hD
 obtain⟨hX,hB,g,d,e⟩:=Y.k5 hX hB g d e
 replace i:At aJ p #[wv 0 0,wv 0 1,wv 0 2,wv 0 3] 40:=i
 refine Zy (cz rfl rfl cA rfl i rfl rfl λbA t aL=> ?_)
 replace hz:=At.grownAt hz i t Dd
 replace hD:=fC.grownAt hD i t Dd Dd
 replace hX:=aca hX aK (Dx.grown t (aab ..) aA)
 replace hB:=Zg hB t aA
 replace g:=At.grownAt g i t Dd
 replace d:=At.grownAt d i t Dd
 replace e:=At.grownAt e i t Dd
 replace i:=aL
 refine ZZ rfl<|Zr<|ZZ rfl<|Zr<|Zv (fI (vs:= #[.pointer (some ⟨p,0,none⟩), .pointer (some ⟨s,0,none⟩), .pointer (some ⟨r,0,none⟩)]) Ga)<|Zw (.func (.func 220) #[] #[.pointer (some ⟨p,0,none⟩), .pointer (some ⟨s,0,none⟩), .pointer (some ⟨r,0,none⟩)]) rfl<|ct<|Zq<|Zr<|ZZ rfl<|cx ?_
 refine cS (σ:=(Nat)×(Nat)×(List Nd)×(Int)) [9,9,11,14,32,103] (λ(o,out,nsc,ec)=>[(11, .int .i64 (o:Int)),(9, .int .i64 (out:Int))]) (λsg W=>match sg with|(o,out,nsc,ec)=>(At W bz _ 282)∧(Dx 228 w0.heap.size [ba,bm] w W)∧(Below w0.heap.size w0 W)∧(At W s _ 59)∧(At W r _ 283)∧(At W p _ 40)∧(fC 222 228 w0.heap.size ba bm R W nsc)∧(At W k #[.pointer (some ⟨bz,0,none⟩), .int .i64 ec] 285)∧(1≤o∧o≤2^S.may.length)∧(We ns nsc R S o ec out)∧(True)) (λ(o,out,nsc,ec)=>2^S.may.length-o) ((1,0,ns,0)) ⟨rfl,rfl,trivial⟩ ⟨hz,hX,hB,g,e,i,hD,d,Om,NY,trivial⟩ ?_
 rintro⟨o,out,nsc,ec⟩ bB bC ⟨hz,hX,hB,g,e,i,hD,d,hoo,halw,_⟩ bD aM
 refine Zq<|Zr<|Zi rfl<|Zf rfl gS<|ZL mayV rfl ft g rfl<|Zv (cT (v:=mayV) rfl (Below.slT hB hmay) eN)<|Zv (jA (m:=1) rfl rfl Om (by simp only[IntKind.bits];omega) tB)<|Zv (dk rfl rfl)<|ct<|ZQ rfl (λH=> ?_) λH=> ?_
 refine cu<|Zq<|cx ?_
 have hol:o<16:=by simp only[aap,so]at H;omega
 have hom:o<2^S.may.length:=by simp only[aap,so]at H;omega
 have hwo:=halw.v
 refine Zr<|Zw (.func (.func 220) #[] #[.pointer (some ⟨p,0,none⟩), .pointer (some ⟨s,0,none⟩), .pointer (some ⟨r,0,none⟩)]) rfl<|Zi rfl ?_
 refine mA (dd:=some 42) rfl rfl rfl (ij (q:=220) (first:= #[]) (cap:= #[.pointer (some ⟨p,0,none⟩), .pointer (some ⟨s,0,none⟩), .pointer (some ⟨r,0,none⟩)]) (vs:= #[.int .i64 _, .pointer (some ⟨p,0,none⟩), .pointer (some ⟨s,0,none⟩), .pointer (some ⟨r,0,none⟩)]) rfl Ie Gb) (rD w0 ba bm bz k R nsc ec S onV mayV o _ _ _ _ hB hz hD d l hr hon hmay i g e Om) (λbE bF aN=> ?_)
 obtain⟨aO,e10_2,aP,rfl,I,aQ,hD10_2,aR,aS⟩:=aN
 replace hX:=aca hX F I.dx
 replace hB:=Below.dx hB (am _) (am _) I.dx
 replace g:=aa6 hD d I g Dd Dd Dd
 replace e:=aa6 hD d I e Dd Dd Dd
 replace i:=aa6 hD d I i Dd Dd Dd
 replace hz:=aQ
 replace hD:=hD10_2
 replace d:=aR
 refine ZZ rfl<|Zq<|Zr<|Zi rfl<|Zv (eP rfl rfl Om Om)<|ZZ rfl<|cx ?_
 refine cS (σ:=(Nat)×(Nat)×(List Nd)×(Int)) [12,13,45,70] (λ(j,f,nsi,ei)=>[(13, .int .i64 (j:Int)),(12, .int .i64 (f:Int))]) (λsg W=>match sg with|(j,f,nsi,ei)=>(At W bz _ 282)∧(Dx 228 w0.heap.size [ba,bm] w W)∧(Below w0.heap.size w0 W)∧(At W s _ 59)∧(At W r _ 283)∧(At W p _ 40)∧(fC 222 228 w0.heap.size ba bm R W nsi)∧(At W k #[.pointer (some ⟨bz,0,none⟩), .int .i64 ei] 285)∧(o<j∧j≤2^S.may.length)∧(US nsc nsi R S o j ec ei f)∧(True)) (λ(j,f,nsi,ei)=>2^S.may.length-j) ((o+1,aP,aO,e10_2)) ⟨rfl,rfl,trivial⟩ ⟨hz,hX,hB,g,e,i,hD,d,(by simp only[aap,so]at H;omega),(M5 aS),trivial⟩ ?_
 rintro⟨j,f,nsi,ei⟩ bG bH ⟨hz,hX,hB,g,e,i,hD,d,hjj,hfw,_⟩ bI aB
 refine Zq<|Zr<|Zi rfl<|Zf rfl gS<|ZL mayV rfl ft g rfl<|Zv (cT (v:=mayV) rfl (Below.slT hB hmay) eN)<|Zv (jA (m:=1) rfl rfl Om (by simp only[IntKind.bits];omega) tB)<|Zv (dk rfl rfl)<|ct<|ZQ rfl (λZ=> ?_) λZ=> ?_
 refine cu<|Zq<|cx ?_
 have hjp:j<2^S.may.length:=by simp only[aap,so]at Z;omega
 refine Zr<|Zi rfl<|Zi rfl<|Zv (mZ (n:=_) rfl rfl rfl tk tk)<|Zi rfl<|Zv (dW rfl rfl)<|ct<|ZQ rfl (λaa=> ?_) λaa=> ?_
 refine fe (λa b=>Dc 228 285 w0.heap.size k bz ba bm a b) fQ (λab ac=> ?_)
 obtain⟨hz,hX,hB,g,e,i⟩:=ac.k6 hz hX hB g e i
 replace hD:=fC.ext ac hD
 replace d:=ac.at d
 have hwk0:Wc 285 k bz ab:=⟨_,d⟩
 have hS:Dc 228 285 w0.heap.size k bz ba bm ab ab:=Dc.refl
 refine Tk 0 rfl (λ_ hq=>cB (v:= .pointer (some ⟨k,0,none⟩)) rfl js (At.cell (aa6 hD d hq e Dd Dd Dd) rfl)) hS<|Tk 1 rfl (λ_ hq=>cB (v:= .pointer (some ⟨k,0,none⟩)) rfl js (At.cell (aa6 hD d hq e Dd Dd Dd) rfl)) hS<|Tc 2 rfl rfl hS<|Tf 3 rfl rfl jT hS<|Tk 4 rfl (λ_ hq=>cB (v:= .pointer (some ⟨bz,0,none⟩)) rfl iK (acj (Dc.wk hq hwk0))) hS<|Ti 5 rfl rfl hS<|Tw 6 (.func (.func 220) #[] #[.pointer (some ⟨p,0,none⟩), .pointer (some ⟨s,0,none⟩), .pointer (some ⟨r,0,none⟩)]) rfl rfl hS<|Ti 7 rfl rfl hS<|To 8 rfl (acm (ij (q:=220) (first:= #[]) (cap:= #[.pointer (some ⟨p,0,none⟩), .pointer (some ⟨s,0,none⟩), .pointer (some ⟨r,0,none⟩)]) (vs:= #[.int .i64 _, .pointer (some ⟨p,0,none⟩), .pointer (some ⟨s,0,none⟩), .pointer (some ⟨r,0,none⟩)]) rfl Ie Gb) (rD w0 ba bm bz k R nsi ei S onV mayV j _ _ _ _ hB hz hD d l hr hon hmay i g e Om) λbJ bK ad=>⟨.inl (Dc.trans hS ((by obtain⟨_,_,_,_,h,_⟩:=ad;exact h))),?_⟩)
 replace hS:=Dc.trans hS ((by obtain⟨_,_,_,_,h,_⟩:=ad;exact h))
 obtain⟨aT,e15_8,aU,rfl,J,aV,hD15_8,aW,ae⟩:=ad
 replace hX:=aca hX F J.dx
 replace hB:=Below.dx hB (am _) (am _) J.dx
 replace g:=aa6 hD d J g Dd Dd Dd
 replace e:=aa6 hD d J e Dd Dd Dd
 replace i:=aa6 hD d J i Dd Dd Dd
 replace hz:=aV
 replace hD:=hD15_8
 replace d:=aW
 have hwa:=hD.wf
 have hla:=fX ae.pre
 have hwi:=hfw.v
 refine To 9 rfl (TG I8 (ot w0.heap.size ba bm bz R aT f aU _ (Below.size hB) hz hD Om ae.v) rfl λbL bM af=>⟨.inl (Dc.trans hS (abF hD (PO.dx af) (by decide) (by decide))),?_⟩)
 replace hS:=Dc.trans hS (abF hD (PO.dx af) Dd Dd)
 obtain⟨aX,aY,aC,rfl,x,aZ,a0⟩:=af
 replace hz:=At.dx hD x hz Dd Dd
 replace hX:=Dx.trans hX (x)
 replace hB:=Below.dx hB (am _) (am _) x
 replace g:=At.dx hD x g Dd Dd
 replace e:=At.dx hD x e Dd Dd
 replace i:=At.dx hD x i Dd Dd
 replace d:=At.dx hD x d Dd Dd
 replace hD:=aZ
 refine Tk 10 rfl (λ_ _=>c7 rfl) hS<|Tk 11 rfl (λ_ _=>da rfl) hS<|To 12 rfl (TG oz (eS w0.heap.size k bz _ _ _ _ (Below.size hB) d l) rfl λbN bO K=>⟨.inl (Dc.trans hS (Dc.did K.1 l K.2.1)),?_⟩)
 replace hS:=Dc.trans hS (Dc.did K.1 l K.2.1)
 obtain⟨y,a1,rfl⟩:=K
 replace hz:=At.grownAt hz d y Dd
 replace hX:=aca hX F (Dx.grown y (aab ..) l)
 replace hB:=Zg hB y l
 replace g:=At.grownAt g d y Dd
 replace e:=At.grownAt e d y Dd
 replace i:=At.grownAt i d y Dd
 replace hD:=fC.grownAt hD d y Dd Dd
 replace d:=a1
 refine Ti 13 rfl rfl hS<|Td<|cN<|Zi rfl<|Zv (eP rfl rfl Om Om)<|ZZ rfl ?_
 exact aB _ _ ((j+1,kr e15_8 aC aY,aX,iQ e15_8 aC)) Za ⟨rfl,rfl,trivial⟩ ⟨hz,hX,hB,g,e,i,hD,(by exact d),Om,(RY hr hD.wf hfw hjj.1 (Ot aa) ae a0),trivial⟩ (by show 2^S.may.length-(j+1)<2^S.may.length-j;omega)
 refine cu<|cN<|Zi rfl<|Zv (eP rfl rfl Om Om)<|ZZ rfl ?_
 exact aB _ _ ((j+1,f,nsi,ei)) Za ⟨rfl,rfl,trivial⟩ ⟨hz,hX,hB,g,e,i,hD,(by exact d),Om,(RD hfw (λh=>aa (congrArg Int.ofNat h))),trivial⟩ (by show 2^S.may.length-(j+1)<2^S.may.length-j;omega)
 refine cR ?_
 obtain rfl:j=2^S.may.length:=by simp only[aap,so]at Z;omega
 have hwi:=hfw.v
 have hwl:=fX hfw.pre
 refine Zd (λa b=>Dc 228 285 w0.heap.size k bz ba bm a b) λag ah=> ?_
 obtain⟨hz,hX,hB,g,e,i⟩:=ah.k6 hz hX hB g e i
 replace hD:=fC.ext ah hD
 replace d:=ah.at d
 have hwk0:Wc 285 k bz ag:=⟨_,d⟩
 have hS:Dc 228 285 w0.heap.size k bz ba bm ag ag:=Dc.refl
 refine Tk 0 rfl (λ_ hq=>cB (v:= .pointer (some ⟨k,0,none⟩)) rfl js (At.cell (aa6 hD d hq e Dd Dd Dd) rfl)) hS<|Tk 1 rfl (λ_ hq=>cB (v:= .pointer (some ⟨k,0,none⟩)) rfl js (At.cell (aa6 hD d hq e Dd Dd Dd) rfl)) hS<|Tc 2 rfl rfl hS<|Tf 3 rfl rfl jT hS<|Tk 4 rfl (λ_ hq=>cB (v:= .pointer (some ⟨bz,0,none⟩)) rfl iK (acj (Dc.wk hq hwk0))) hS<|Ti 5 rfl rfl hS<|Tk 6 rfl (λ_ hq=>cB (v:= .pointer (some ⟨k,0,none⟩)) rfl js (At.cell (aa6 hD d hq e Dd Dd Dd) rfl)) hS<|Tk 7 rfl (λ_ hq=>cB (v:= .pointer (some ⟨k,0,none⟩)) rfl js (At.cell (aa6 hD d hq e Dd Dd Dd) rfl)) hS<|Tc 8 rfl rfl hS<|Tf 9 rfl rfl jT hS<|Tk 10 rfl (λ_ hq=>cB (v:= .pointer (some ⟨bz,0,none⟩)) rfl iK (acj (Dc.wk hq hwk0))) hS<|Ti 11 rfl rfl hS<|Tk 12 rfl (λ_ _=>jA (m:=_) rfl rfl Om (by simp only[IntKind.bits];omega) (by show o*65536<_;simp only[ip];omega)) hS<|To 13 rfl (eK (u:= .int .i64 _) rfl cM eQ rfl Dd Dd λbP bQ a2 O a3=>⟨.inl (Dc.trans hS (Dc.ext O)),?_⟩)
 have a4:=ZO a2 hB
 obtain⟨hz,hX,hB,g,e,i⟩:=O.k6 hz hX hB g e i
 replace hD:=fC.ext O hD
 obtain⟨d,hS⟩:=O.k2 d hS
 have a5:=jU (enc:=dJ) (a:=((o*65536:Nat):Int)) a3 rfl rfl a4
 refine To 14 rfl (TG Ib (qf w0.heap.size ba bm bz R nsi _ [((o*65536:Nat):Int)] _ (Below.size hB) hz hD a5.sl (show 1≤1000000 by decide)) rfl λbR bS ai=>⟨.inl (Dc.trans hS (abF hD (PE.dx ai) (by decide) (by decide))),?_⟩)
 replace hS:=Dc.trans hS (abF hD (PE.dx ai) Dd Dd)
 obtain⟨a6,a7,P,rfl,z,a8,a9⟩:=ai
 replace hz:=At.dx hD z hz Dd Dd
 replace hX:=Dx.trans hX (z)
 replace hB:=Below.dx hB (am _) (am _) z
 replace g:=At.dx hD z g Dd Dd
 replace e:=At.dx hD z e Dd Dd
 replace i:=At.dx hD z i Dd Dd
 replace d:=At.dx hD z d Dd Dd
 replace hD:=a8
 have hgA:=TT a9 (VA hol)
 have hvA:=hgA.valid
 have hlA:=fX hgA.pre
 refine Tk 15 rfl (λ_ _=>c7 rfl) hS<|Tk 16 rfl (λ_ _=>da rfl) hS<|To 17 rfl (TG oz (eS w0.heap.size k bz _ _ _ _ (Below.size hB) d l) rfl λbT bU L=>⟨.inl (Dc.trans hS (Dc.did L.1 l L.2.1)),?_⟩)
 replace hS:=Dc.trans hS (Dc.did L.1 l L.2.1)
 obtain⟨A,bb,rfl⟩:=L
 replace hz:=At.grownAt hz d A Dd
 replace hX:=aca hX F (Dx.grown A (aab ..) l)
 replace hB:=Zg hB A l
 replace g:=At.grownAt g d A Dd
 replace e:=At.grownAt e d A Dd
 replace i:=At.grownAt i d A Dd
 replace hD:=fC.grownAt hD d A Dd Dd
 replace d:=bb
 refine To 18 rfl (TG JB (ox w0.heap.size ba bm bz R a6 f (kr ei P a7) _ (Below.size hB) hz hD Om (pD hvA)) rfl λbV bW aj=>⟨.inl (Dc.trans hS (abF hD (PO.dx aj) (by decide) (by decide))),?_⟩)
 replace hS:=Dc.trans hS (abF hD (PO.dx aj) Dd Dd)
 obtain⟨bc,bd,ak,rfl,B,bf,al⟩:=aj
 replace hz:=At.dx hD B hz Dd Dd
 replace hX:=Dx.trans hX (B)
 replace hB:=Below.dx hB (am _) (am _) B
 replace g:=At.dx hD B g Dd Dd
 replace e:=At.dx hD B e Dd Dd
 replace i:=At.dx hD B i Dd Dd
 replace d:=At.dx hD B d Dd Dd
 replace hD:=bf
 have hvJ:=al.valid
 have hlJ:=fX al.pre
 refine Tk 19 rfl (λ_ _=>c7 rfl) hS<|Tk 20 rfl (λ_ _=>da rfl) hS<|To 21 rfl (TG oz (eS w0.heap.size k bz _ _ _ _ (Below.size hB) d l) rfl λbX bY M=>⟨.inl (Dc.trans hS (Dc.did M.1 l M.2.1)),?_⟩)
 replace hS:=Dc.trans hS (Dc.did M.1 l M.2.1)
 obtain⟨C,bg,rfl⟩:=M
 replace hz:=At.grownAt hz d C Dd
 replace hX:=aca hX F (Dx.grown C (aab ..) l)
 replace hB:=Zg hB C l
 replace g:=At.grownAt g d C Dd
 replace e:=At.grownAt e d C Dd
 replace i:=At.grownAt i d C Dd
 replace hD:=fC.grownAt hD d C Dd Dd
 replace d:=bg
 refine Ti 22 rfl rfl hS<|Td ?_
 refine fe (λa b=>Dc 228 285 w0.heap.size k bz ba bm a b) fQ (λao ap=> ?_)
 obtain⟨hz,hX,hB,g,e,i⟩:=ap.k6 hz hX hB g e i
 replace hD:=fC.ext ap hD
 replace d:=ap.at d
 have hwk0:Wc 285 k bz ao:=⟨_,d⟩
 have hS:Dc 228 285 w0.heap.size k bz ba bm ao ao:=Dc.refl
 refine Tk 0 rfl (λ_ hq=>cB (v:= .pointer (some ⟨k,0,none⟩)) rfl js (At.cell (aa6 hD d hq e Dd Dd Dd) rfl)) hS<|Tk 1 rfl (λ_ hq=>cB (v:= .pointer (some ⟨k,0,none⟩)) rfl js (At.cell (aa6 hD d hq e Dd Dd Dd) rfl)) hS<|Tc 2 rfl rfl hS<|Tf 3 rfl rfl jT hS<|Tk 4 rfl (λ_ hq=>cB (v:= .pointer (some ⟨bz,0,none⟩)) rfl iK (acj (Dc.wk hq hwk0))) hS<|Ti 5 rfl rfl hS<|Ti 6 rfl rfl hS<|To 7 rfl (TG CH (kO w0.heap.size ba bm bz R bc out (kr (iQ ei P) ak bd) _ (Below.size hB) hz hD Om (pD hvJ)) rfl λbZ b0 aq=>⟨.inl (Dc.trans hS (abF hD (PO.dx aq) (by decide) (by decide))),?_⟩)
 replace hS:=Dc.trans hS (abF hD (PO.dx aq) Dd Dd)
 obtain⟨bh,bi,aD,rfl,D,bj,bk⟩:=aq
 replace hz:=At.dx hD D hz Dd Dd
 replace hX:=Dx.trans hX (D)
 replace hB:=Below.dx hB (am _) (am _) D
 replace g:=At.dx hD D g Dd Dd
 replace e:=At.dx hD D e Dd Dd
 replace i:=At.dx hD D i Dd Dd
 replace d:=At.dx hD D d Dd Dd
 replace hD:=bj
 refine Tk 8 rfl (λ_ _=>c7 rfl) hS<|Tk 9 rfl (λ_ _=>da rfl) hS<|To 10 rfl (TG oz (eS w0.heap.size k bz _ _ _ _ (Below.size hB) d l) rfl λb1 b2 N=>⟨.inl (Dc.trans hS (Dc.did N.1 l N.2.1)),?_⟩)
 replace hS:=Dc.trans hS (Dc.did N.1 l N.2.1)
 obtain⟨E,bl,rfl⟩:=N
 replace hz:=At.grownAt hz d E Dd
 replace hX:=aca hX F (Dx.grown E (aab ..) l)
 replace hB:=Zg hB E l
 replace g:=At.grownAt g d E Dd
 replace e:=At.grownAt e d E Dd
 replace i:=At.grownAt i d E Dd
 replace hD:=fC.grownAt hD d E Dd Dd
 replace d:=bl
 refine Ti 11 rfl rfl hS<|Td<|cN<|Zi rfl<|Zv (eP rfl rfl Om Om)<|ZZ rfl ?_
 exact aM _ _ ((o+1,kr (iQ (iQ ei P) ak) aD bi,bh,iQ (iQ (iQ ei P) ak) aD)) Za ⟨rfl,rfl,trivial⟩ ⟨hz,hX,hB,g,e,i,hD,(by exact d),Om,(RV hr hD.wf (Qz o) halw hoo.1 hol hom hfw hgA al bk),trivial⟩ (by show 2^S.may.length-(o+1)<2^S.may.length-o;omega)
 refine cR<|Zq ?_
 obtain rfl:o=2^S.may.length:=by simp only[aap,so]at H;omega
 refine Zr<|ZL (.pointer (some ⟨k,0,none⟩)) rfl js e rfl<|Zc rfl<|Zf rfl kL<|Zl rfl gn d rfl<|Zv (ep rfl rfl)<|ct<|ZQ rfl (λar=> ?_) λar=> ?_
 refine Zd dz λbn au=> ?_
 obtain⟨hX,e⟩:=au.k2 hX e
 replace hD:=fC.ext au hD
 replace d:=au.at d
 have hS:=dz.refl bn
 refine Tk 0 rfl (λ_ hq=>cB (v:= .pointer (some ⟨k,0,none⟩)) rfl js (At.cell (hq.at e) rfl)) hS<|Tc 1 rfl rfl hS<|Tf 2 rfl rfl kL hS<|Tk 3 rfl (λ_ hq=>cB (v:= .int .i64 _) rfl gn (At.cell (hq.at d) rfl)) hS<|Ti 4 rfl rfl hS<|Ti 5 rfl rfl hS<|Td<|Zt<|dL (v:= .int .i64 0) rfl (v1:= .int .i64 _) rfl ?_
 exact⟨_,_,_,rfl,hX,hD,QS halw ar⟩
 refine cu<|Zr<|Zi rfl<|Zi rfl<|ZZ rfl<|Zt<|dL (v:= .int .i64 _) rfl (v1:= .int .i64 0) rfl ?_
 exact⟨_,_,_,rfl,hX,hD,Xr halw (aaa ar)⟩
end
section
open Go Go.RowKit
theorem Jd:cX Tryz.prog 151=true:=by kernel_rfl
theorem PK:cX Tryz.prog 152=true:=by kernel_rfl
theorem zE (xa:Value) (l:List Rw) (i k:Nat) (w:World) (hl:dh gv 3 w xa l) (hlb:l.length≤1000000) (hlr:ix l) (hi:i<l.length) (hk:k<8):
    Fn Tryz.prog 152 #[xa, .int .i64 (i:Int), .int .i64 (k:Int)] w λv w'=>cD gv 3 158 w' w.heap.size v (mB l i k):=by
 refine cH (n:=36) Tryz.func152 rfl rfl rfl λhB=> ?_
 have h7:=Al hk
 refine Zr<|Zw (.slice none 0 0) rfl<|ct<|Zr<|Zy (Cp dM λs W5 t x y=> ?_)
 have z:=ZO t hB
 replace hB:=Ze hB x
 have p:=uq (enc:=gv) (sz:=3) y z
 refine Zw xa rfl<|Zy (dZ (v:= .slice (some ⟨s,0,none⟩) 0 0) (v2:=xa) rfl rfl dM g7 Dd p (Below.slT hB hl) (lp) (n4 hB) zX zX λe W8 A d=> ?_)
 replace d:=cD.app (enc:=gv) rfl rfl rfl rfl d
 replace hB:=ZG hB A p
 rw[aaM]at d
 refine Zw e rfl<|ct<|Zq ?_
 obtain⟨H,I,J⟩:=hlr.get hi
 refine Zd (λa b=>a.grownBy b e.ownBlock) λB C=> ?_
 obtain⟨hB,d⟩:=C.k2 hB d
 have hS:=World.grownBy.refl B e.ownBlock
 refine Tw 0 e rfl rfl hS<|Ti 1 rfl rfl hS<|Ti 5 rfl rfl hS<|Tk 6 rfl (λ_ _=>jA (m:=1) rfl rfl Om (by simp only[IntKind.bits];omega) yR) hS ?_
 refine jK (dd:=some 13) 2 jW rfl rfl rfl rfl (Yd.val (df (v:=e) rfl d.sl rfl dM Om (by omega)) ⟨.inl hS,?_⟩)
 refine Tf 3 rfl rfl fy hS ?_
 refine jK (dd:=some 15) 4 jW rfl rfl rfl rfl (Yd.val (cB (v:= .int .u8 _) rfl dK (dh.cell d.sl eh ⟨⟨0,0⟩,0⟩ Om (by omega) 2 rfl)) ⟨.inl hS,?_⟩)
 refine Tk 7 rfl (λ_ _=>qB (n:=_) rfl rfl rfl m5 yR) hS ?_
 refine jK (dd:=some 19) 8 jW rfl rfl rfl rfl (Yd.val (df (v:=e) rfl d.sl rfl dM Om (by omega)) ⟨.inl hS,?_⟩)
 refine Tf 9 rfl rfl fy hS<|To 10 rfl (Ok (v:=e) (u:= .int .u8 _) (a:=⟨(l.getD i ⟨⟨0,0⟩,0⟩).c,andNot (l.getD i ⟨⟨0,0⟩,0⟩).o (1*2^k)⟩) (dd:=⟨⟨0,0⟩,0⟩) (j:=_) (r:=2) rfl rfl dK eh rfl Dd (rfl) d Om (by omega) λK q D=>⟨.inl (cC hS q),?_⟩)
 replace hB:=ZG hB q d
 replace d:=D
 rw[so]at d
 refine Td ?_
 have hsl:(l.set i ⟨(l.getD i ⟨⟨0,0⟩,0⟩).c,andNot (l.getD i ⟨⟨0,0⟩,0⟩).o (1*2^k)⟩).length=l.length:=List.length_set
 have hC:(l.set i ⟨(l.getD i ⟨⟨0,0⟩,0⟩).c,andNot (l.getD i ⟨⟨0,0⟩,0⟩).o (1*2^k)⟩).length≤iZ e:=(Sl.eqv d.sl).2.1
 refine Zr<|Zw e rfl<|Zi rfl<|Zv (df (v:=e) rfl d.sl rfl dM Om (by omega))<|Zf rfl fy<|Zv (cB (v:= .int .u8 _) rfl dK (dh.cell d.sl eh ⟨⟨0,0⟩,0⟩ Om (by omega) 2 rfl))<|Zv (dW rfl rfl)<|ct<|ZQ rfl (λg=> ?_) λg=> ?_
 refine fe (λa b=>a.grownBy b e.ownBlock) fQ (λE F=> ?_)
 obtain⟨hB,d⟩:=F.k2 hB d
 have hS:=World.grownBy.refl E e.ownBlock
 refine Tw 0 e rfl rfl hS<|Ti 1 rfl rfl hS<|Tk 2 rfl (λ_ _=>GG (v:=e) rfl d.sl dM rfl Om Om) hS<|Tw 3 e rfl rfl hS<|Ti 4 rfl rfl hS<|Tk 5 rfl (λ_ _=>eP rfl rfl Om Om) hS<|Tk 6 rfl (λ_ _=>Hl (v:=e) rfl d.sl dM rfl Om Om) hS<|To 7 rfl (Ho (v:=e) (i:=i) (j:=(i+1)) eh lp rfl rfl dM d Om Om Om λf L h G M=>⟨.inl (cC hS h),?_⟩)
 replace hS:=cC hS h
 replace hB:=ZG hB h d
 refine Tw 8 f rfl rfl hS<|Td<|Zr<|Zw f rfl<|Zw f rfl<|ct<|Zt<|cV (v:=f) rfl ⟨hB,?_⟩
 exact(Va hi g)▸G
 refine cu<|Zr<|Zw e rfl<|Zw e rfl<|ct<|Zt<|cV (v:=e) rfl ⟨hB,?_⟩
 exact(U6 hi g)▸d
theorem Fh (S:Sp) (onV mayV:Value) (xa:Value) (l:List Rw) (w:World) (hon:dh fT 4 w onV S.on) (hmay:dh fT 4 w mayV S.may) (hl:dh gv 3 w xa l) (hlb:l.length≤1000000) (hlr:ix l) (h4:S.on.length≤20):
    Fn Tryz.prog 104 #[.agg #[.int .i64 S.n,onV,mayV],xa] w λv w'=>if io S l=true then ∃x,v= .tuple #[x, .int .i64 0]∧cD gv 3 158 w' w.heap.size x (kY S l)else v= .tuple #[.slice none 0 0, .int .i64 1]:=by
 refine cH (n:=61) Tryz.func104 rfl rfl rfl λhB=> ?_
 refine Zr<|Zy (dt (c:= #[_,_,_]) rfl rfl λq W3 M t a=> ?_)
 replace hB:=Ze hB t
 refine Zw (.slice none 0 0) rfl<|ZZ rfl<|Zq<|Zr<|Zv (cy rfl el rfl a)<|Zw xa rfl<|ZC (vs:=[.agg #[_,_,_],xa]) Jd (sH S _ _ _ l _ (Below.slT hB hon) (Below.slT hB hmay) (Below.slT hB hl) Om hlr h4) rfl λN O u y=> ?_
 obtain⟨hB,a⟩:=u.k2 hB a
 obtain rfl:=y
 refine Zv (eR rfl)<|ct<|ZQ rfl (λm=> ?_) λm=> ?_
 refine Zr<|Zw (.slice none 0 0) rfl<|ZZ rfl<|Zt<|dL (v:= .slice none 0 0) rfl (v1:= .int .i64 1) rfl ⟨hB,?_⟩
 rw[if_neg (by rw[show io S l=false from kT m];decide)]
 refine cu ?_
 have hc:io S l=true:=ms m
 have hp:=zk hc
 obtain⟨hr0,hr8,hr1,hr4,hr5,_⟩:=dD.1 (fN.1 hc).1
 refine Zr<|Zy (Cp dM λz P A B C=> ?_)
 have D:=ZO A hB
 obtain⟨hB,a⟩:=B.k2 hB a
 have o:=uq (enc:=gv) (sz:=3) C D
 refine Zw xa rfl<|Zy (dZ (v:= .slice (some ⟨z,0,none⟩) 0 0) (v2:=xa) rfl rfl dM g7 Dd o (Below.slT hB hl) (lp) (n4 hB) zX zX λg Q r b=> ?_)
 replace b:=cD.app (enc:=gv) rfl rfl rfl rfl b
 replace hB:=ZG hB r o
 replace a:=At.grownOw a o r Dd
 rw[aaM]at b
 refine Zw g rfl<|ct<|Zq<|Zr<|ZZ rfl<|cx ?_
 refine cS (σ:=(Nat)×(Value)) [6,10,18,59] (λ(j,v0)=>[(7, .int .i64 ((mj S l j).length:Int)),(6,v0)]) (λsg W=>match sg with|(j,v0)=>(Below w.heap.size w W)∧(At W q _ 59)∧(cD gv 3 158 W w.heap.size g _)∧(cD gv 3 158 W w.heap.size v0 (mj S l j++l.drop j))∧(j≤l.length)∧(True)) (λ(j,v0)=>l.length-j) ((0,g)) ⟨rfl,rfl,trivial⟩ ⟨hB,a,b,(by exact b),(my _),trivial⟩ ?_
 rintro⟨j,v0⟩ R T ⟨hB,a,b,ho,hj,_⟩ U s
 refine Zq ?_
 have hdl:=QL (S:=S) (l:=l) (j:=j)
 have hal:=Jk S l j
 refine Zr<|Zi rfl<|Zw v0 rfl<|Zv (cT (v:=v0) rfl ho.sl dM)<|Zv (dk rfl rfl)<|ct<|ZQ rfl (λE=> ?_) λE=> ?_
 refine cu<|cx ?_
 have hjl:j<l.length:=by omega
 refine Zr<|Zw v0 rfl<|Zv (cT (v:=v0) rfl ho.sl dM)<|ZZ rfl<|Zq<|Zr<|Zf rfl iG<|ZL onV rfl ft a rfl<|Zv (cT (v:=onV) rfl (Below.slT hB hon) eN)<|ZZ rfl<|cx ?_
 refine cS (σ:=(Nat)×(Value)) [6,6,9,10,27,53] (λ(k,v1)=>[(27, .int .i64 (k:Int)),(6,v1)]) (λsg W=>match sg with|(k,v1)=>(Below w.heap.size w W)∧(At W q _ 59)∧(cD gv 3 158 W w.heap.size g _)∧(cD gv 3 158 W w.heap.size v1 (wX S l j k))∧(k≤S.on.length)∧(True)) (λ(k,v1)=>S.on.length-k) ((0,v0)) ⟨rfl,rfl,trivial⟩ ⟨hB,a,b,(by rw[←Es hp hjl];exact ho),(my _),trivial⟩ ?_
 rintro⟨k,v1⟩ V X ⟨hB,a,b,hoo,hk,_⟩ Y i
 refine Zr<|Zv (dk rfl rfl)<|ct<|Zq<|ZQ rfl (λF=> ?_) λF=> ?_
 refine cu<|Zq<|cx<|Zr<|Zi rfl<|ZZ rfl<|Zq ?_
 have htl:=Ez (S:=S) (l:=l) (j:=j) (k:=k)
 obtain⟨hk1,hk2,hk3⟩:=ZM (sI S l j k)
 have htb:=XP (S:=S) hlr hjl k
 have hget:(qg (sI S l j k)).length=1→(wX S l j k).getD (((mj S l j).length:Nat):Int).toNat ⟨⟨0,0⟩,0⟩=sI S l j k:=λh=>by rw[so];exact P9 (hk2 h)
 refine Zr<|Zw v1 rfl<|Zv (cT (v:=v1) rfl hoo.sl dM)<|Zi rfl<|Zv (dk rfl rfl)<|ZX rfl (λG=> ?_) λG=> ?_
 refine Zs<|Zs<|Zs<|Zs<|Zs<|Zs<|Zs<|Zs<|Zs<|Zb rfl<|ct<|cF rfl<|cR ?_
 refine ZT rfl rfl rfl ?_
 exact i _ _ ((k+1,v1)) Za ⟨rfl,rfl,trivial⟩ ⟨hB,a,b,(by (rw[←ER (.inl (Oy (hk3 Om)))];exact hoo)),Om,trivial⟩ (by show S.on.length-(k+1)<S.on.length-k;omega)
 refine Zw v1 rfl<|Zi rfl<|Zv (df (v:=v1) rfl hoo.sl rfl dM Om (by omega))<|Zf rfl fy<|Zv (cB (v:= .int .u8 _) rfl dK (dh.cell hoo.sl eh ⟨⟨0,0⟩,0⟩ Om (by omega) 2 rfl))<|Zi rfl<|Zv (qd rfl rfl Om (by simp only[IntKind.bits];omega))<|Zv (mZ (n:=1) rfl rfl rfl (by exact aaw (aaY _ _) (htb.any _)) Dd)<|Zv (dW rfl rfl)<|Zb rfl<|ct<|ZQ rfl (λf=> ?_) λf=> ?_
 refine cR<|ZT rfl rfl rfl ?_
 exact i _ _ ((k+1,v1)) Za ⟨rfl,rfl,trivial⟩ ⟨hB,a,b,(by (rw[←ER (.inl (RC (by rw[hget Om]at f;exact f)))];exact hoo)),Om,trivial⟩ (by show S.on.length-(k+1)<S.on.length-k;omega)
 refine cu ?_
 have hpos:(qg (sI S l j k)).length=1:=by omega
 rw[hget hpos]at f
 have hbt:(sK S l j k).testBit k=true:=L7 f
 have hwl:=Lu (wX S l j k) (mj S l j).length k
 refine Zr<|Zw v1 rfl<|Zi rfl<|Zi rfl<|ZC PK (zE _ (wX S l j k) (mj S l j).length k _ hoo.sl Om htb Om Om) rfl λd Z H e=> ?_
 have aa:=abU b
 have ab:=abU hoo
 have I:=(Below.size hB)
 obtain⟨hB,a,b,hoo⟩:=H.k4 hB a b hoo
 replace e:=cD.mono e I
 refine Zw d rfl<|ct<|Zr<|Zv (cy rfl el rfl a)<|Zw d rfl<|ZC (vs:=[.agg #[_,_,_],d]) Jd (sH S _ _ _ (mB (wX S l j k) (mj S l j).length k) _ (Below.slT hB hon) (Below.slT hB hmay) e.sl Om (SB htb Om k) h4) rfl λac ad J K=> ?_
 obtain⟨hB,a,b,hoo,e⟩:=J.k5 hB a b hoo e
 obtain rfl:=K
 refine ct<|ZQ rfl (λp=> ?_) λp=> ?_
 refine cN<|Zw d rfl<|Zw d rfl<|ct<|ZT rfl rfl rfl ?_
 exact i _ _ ((k+1,d)) Za ⟨rfl,rfl,trivial⟩ ⟨hB,a,b,(by (rw[←ST hbt p];exact e)),Om,trivial⟩ (by show S.on.length-(k+1)<S.on.length-k;omega)
 refine cu<|ZT rfl rfl rfl ?_
 exact i _ _ ((k+1,v1)) Za ⟨rfl,rfl,trivial⟩ ⟨hB,a,b,(by (rw[←ER (.inr p)];exact hoo)),Om,trivial⟩ (by show S.on.length-(k+1)<S.on.length-k;omega)
 refine cR ?_
 obtain rfl:k=S.on.length:=by omega
 have htl:=Ez (S:=S) (l:=l) (j:=j) (k:=S.on.length)
 obtain⟨hk1,hk2,hk3⟩:=ZM (sI S l j S.on.length)
 have hA1:(mj S l (j+1)).length=(mj S l j).length+(qg (sI S l j S.on.length)).length:=by rw[kb,An]
 refine Zr<|Zw v1 rfl<|Zv (cT (v:=v1) rfl hoo.sl dM)<|Zi rfl<|Zv (dW rfl rfl)<|ct<|ZQ rfl (λL=> ?_) λL=> ?_
 refine cN<|Zi rfl<|Zv (eP rfl rfl Om Om)<|ZZ rfl ?_
 exact s _ _ ((j+1,v1)) Za ⟨(by exact congrArg (Value.int .i64) Om),rfl,trivial⟩ ⟨hB,a,b,(by (rw[←CN];exact hoo)),Om,trivial⟩ (by show l.length-(j+1)<l.length-j;omega)
 refine cu ?_
 exact s _ _ ((j+1,v1)) Za ⟨(by exact congrArg (Value.int .i64) Om),rfl,trivial⟩ ⟨hB,a,b,(by (rw[←CN];exact hoo)),Om,trivial⟩ (by show l.length-(j+1)<l.length-j;omega)
 refine cR<|Zr<|Zw v0 rfl<|Zw v0 rfl<|ZZ rfl<|Zt<|dL (v:=v0) rfl (v1:= .int .i64 0) rfl ⟨hB,?_⟩
 obtain rfl:j=l.length:=by omega
 rw[if_pos hc]
 rw[List.drop_length,aaT]at ho
 exact⟨_,rfl,ho⟩
end
section
open Go Go.RowKit
theorem GB:dS Tryz.prog 298 0=some 0:=by kernel_rfl
theorem qF:j8 Tryz.prog 298=some 5:=by kernel_rfl
theorem xT:cX Tryz.prog 235=true:=by kernel_rfl
theorem JT:cX Tryz.prog 265=true:=by kernel_rfl
theorem rB:eE Tryz.prog 212=true:=by kernel_rfl
theorem Gr:dS Tryz.prog 298 1=some 1:=by kernel_rfl
theorem JQ:cX Tryz.prog 263=true:=by kernel_rfl
theorem QH:dT Tryz.prog 212=some (.slice none 0 0):=by kernel_rfl
theorem JJ:cX Tryz.prog 264=true:=by kernel_rfl
theorem wI (s:Nat) (i:Int) (one:Bool) (w:World):
    Fn Tryz.prog 263 #[eb s, .int .i64 i, .bool one] w λv w'=>v=eb (if 0≤i∧i<8 then cQ s i.toNat one else 0):=by
 refine cH (n:=31) Tryz.func263 rfl rfl rfl λhB=> ?_
 refine Zr<|Zy (dt (c:= #[_,_,_,_]) rfl rfl λF W3 ag G b=> ?_)
 replace hB:=Ze hB G
 refine Zy (cI ee rfl λt W6 I J a=> ?_)
 have K:=ZO I hB
 obtain⟨hB,b⟩:=J.k2 hB b
 replace a:At W6 t #[wv 0 0,wv 0 1,wv 0 2,wv 0 3] 40:=a
 refine ct<|Zr<|Zv (cy rfl cA rfl b)<|Zi rfl<|Zb rfl<|ZC (vs:=[.agg #[_,_,_,_], .int .i64 _, .bool _]) Cm (zQ _ _ _ _) rfl λah ai L M=> ?_
 obtain⟨hB,b,a⟩:=L.k3 hB b a
 obtain rfl:=M
 generalize hH:(if 0≤i∧i<8 then qo s i.toNat one else 0)=H
 refine Zy (cI ee rfl λu N l O d=> ?_)
 have P:=ZO l hB
 have Q:=Zn l b.lt
 have R:=Zn l a.lt
 obtain⟨hB,b,a⟩:=O.k3 hB b a
 replace d:At N u #[wv 0 0,wv 0 1,wv 0 2,wv 0 3] 40:=d
 refine Zy (cz rfl rfl cA rfl d rfl rfl λaj o S=> ?_)
 replace hB:=Zg hB o P
 replace b:=At.grownNe b Q o
 replace a:=At.grownNe a R o
 replace d:=S
 refine ct<|Zr<|Zv (cy rfl cA rfl d)<|Zy (cI ee rfl λx T h U e=> ?_)
 have y:=ZO h hB
 have z:=Zn h b.lt
 have q:=Zn h a.lt
 have A:=Zn h d.lt
 obtain⟨hB,b,a,d⟩:=U.k4 hB b a d
 replace e:At T x #[wv 0 0,wv 0 1,wv 0 2,wv 0 3] 40:=e
 refine Zy (cz rfl rfl cA rfl e rfl rfl λak j V=> ?_)
 replace hB:=Zg hB j y
 replace b:=At.grownNe b z j
 replace a:=At.grownNe a q j
 replace d:=At.grownNe d A j
 replace e:=V
 refine ct<|Zq<|Zr<|Zv (cy rfl cA rfl d)<|ZC (vs:=[.agg #[_,_,_,_]]) um (nE _ _) rfl λr al X f=> ?_
 have Y:=(Below.size hB)
 obtain⟨hB,b,a,d,e⟩:=X.k5 hB b a d e
 replace f:=cD.mono f Y
 refine Zv (cT (v:=r) rfl f.sl cM)<|ZZ rfl<|cx ?_
 refine cS (σ:=(Nat)) [10,10,19,29] (λk=>[(19, .int .i64 (k:Int))]) (λk W=>(Below w.heap.size w W)∧(At W F _ 40)∧(At W t _ 40)∧(At W u _ 40)∧(cD dJ 1 3 W w.heap.size r _)∧(At W x #[wv (kN (d7 H) H i.toNat k) 0,wv (kN (d7 H) H i.toNat k) 1,wv (kN (d7 H) H i.toNat k) 2,wv (kN (d7 H) H i.toNat k) 3] 40)∧(k≤(d7 H).length)∧(True)) (λk=>(d7 H).length-k) (0) ⟨rfl,trivial⟩ ⟨hB,b,a,d,f,e,(my _),trivial⟩ ?_
 rintro k ao ap ⟨hB,b,a,d,f,e,hk,_⟩ aq Z
 have hll:=lZ H
 refine Zr<|Zv (dk rfl rfl)<|ct<|Zq<|ZQ rfl (λB=> ?_) λB=> ?_
 refine cu<|Zq<|cx ?_
 have hi8:0≤i∧i<8:=PN hH B
 obtain⟨p,ar,au,C⟩:=lV (s:=H) (i:=k) (by omega)
 have h7:=Al (show i.toNat<8 by omega)
 refine Zr<|Zv (df (v:=r) rfl f.sl rfl cM Om (by omega))<|Zv (cB (v:= .int .i64 _) rfl cK (dh.cell f.sl dI 0 Om (by omega) 0 rfl))<|ZZ rfl ?_
 have aa:(d7 H).getD (k:Int).toNat 0=(p:Int):=C
 rw[aa]
 refine fe dz fQ (λab ac=> ?_)
 obtain⟨hB,b,a,d,f,e⟩:=ac.k6 hB b a d f e
 have hS:=dz.refl ab
 refine Tk 0 rfl (λ_ hq=>cy rfl cA rfl (hq.at e)) hS<|Ti 1 rfl rfl hS<|Ti 2 rfl rfl hS<|Tk 3 rfl (λ_ _=>jA (m:=1) rfl rfl Om (by simp only[IntKind.bits];omega) oG) hS<|Tk 4 rfl (λ_ _=>MD (n:=_) rfl rfl rfl oG oG) hS<|To 5 rfl (TC (vs:=[.agg #[_,_,_,_], .int .i64 _]) yj (nU _ _ _) rfl λav aw D ad=>⟨.inl (hS.trans D),?_⟩)
 obtain⟨hB,b,a,d,f,e⟩:=D.k6 hB b a d f e
 obtain rfl:=ad
 refine To 6 rfl (cz rfl rfl cA rfl e rfl rfl λax g ae=>⟨.inr jW,?_⟩)
 replace hB:=Zg hB g y
 replace b:=At.grownNe b z g
 replace a:=At.grownNe a q g
 replace d:=At.grownNe d A g
 replace f:=cD.grownAt f e g Dd
 replace e:=ae
 refine Td<|ZT rfl rfl rfl ?_
 exact Z _ _ (k+1) Za ⟨rfl,trivial⟩ ⟨hB,b,a,d,f,(by rw[wA Om,C,so,←aap (2^i.toNat)];exact e),Om,trivial⟩ Zo
 refine cR<|Zr<|Zv (cy rfl cA rfl e)<|Zy (cz rfl rfl cA rfl a rfl rfl λay E af=> ?_)
 replace hB:=Zg hB E K
 replace e:=At.grownNe e (Ne.symm q) E
 replace a:=af
 refine ct<|Zt<|jr rfl cA a rfl ⟨hB,?_⟩
 obtain rfl:k=(d7 H).length:=by omega
 rw[MB hH]
theorem mY (n:Nat) (x:Value) (l:List Cb) (w:World) (h8:n≤8) (hl:dh im 2 w x l) (hr:∀c,c∈l→c.m<2^n∧c.v &&& c.m=c.v) (hlb:l.length≤100000):
    Fn Tryz.prog 265 #[.agg #[.int .i64 (n:Int),wv (fh n) 0,wv (fh n) 1,wv (fh n) 2,wv (fh n) 3],x] w λv w'=>v=eb (lP l n l.length):=by
 refine cH (n:=28) Tryz.func265 rfl rfl rfl λhB=> ?_
 refine Zr<|Zy (dt (c:= #[_,_,_,_,_]) rfl rfl λu W3 Y y d=> ?_)
 replace hB:=Ze hB y
 refine Zy (cI ee rfl λo W6 z A a=> ?_)
 have B:=ZO z hB
 obtain⟨hB,d⟩:=A.k2 hB d
 replace a:At W6 o #[wv 0 0,wv 0 1,wv 0 2,wv 0 3] 40:=a
 refine ct<|Zr<|Zy (cI ee rfl λp C q D b=> ?_)
 have E:=ZO q hB
 have r:=Zn q a.lt
 obtain⟨hB,d,a⟩:=D.k3 hB d a
 replace b:At C p #[wv 0 0,wv 0 1,wv 0 2,wv 0 3] 40:=b
 refine ct<|Zq<|Zr<|Zw x rfl<|Zv (cT (v:=x) rfl (Below.slT hB hl) eo)<|ZZ rfl<|cx ?_
 refine cS (σ:=(Nat)) [7,9,12,26] (λk=>[(12, .int .i64 (k:Int))]) (λk W=>(Below w.heap.size w W)∧(At W u _ 298)∧(At W o _ 40)∧(At W p #[wv (lP l n k) 0,wv (lP l n k) 1,wv (lP l n k) 2,wv (lP l n k) 3] 40)∧(k≤l.length)∧(True)) (λk=>l.length-k) (0) ⟨rfl,trivial⟩ ⟨hB,d,a,b,(my _),trivial⟩ ?_
 rintro k Z aa ⟨hB,d,a,b,hk,_⟩ ab F
 refine Zr<|Zv (dk rfl rfl)<|ct<|Zq<|ZQ rfl (λG=> ?_) λG=> ?_
 refine cu<|Zq<|cx ?_
 obtain⟨hr1,hr2⟩:=hr (l.getD k ⟨0,0⟩) (dy (by omega))
 have hle256:=fY h8
 have hr3:(l.getD k ⟨0,0⟩).v≤(l.getD k ⟨0,0⟩).m:=by rw[←hr2];exact abm
 have hrr:dC (l.getD k ⟨0,0⟩).m (l.getD k ⟨0,0⟩).v (n:Int)=true:=dw.2 ⟨by omega,by omega,hr1,hr2⟩
 refine Zr<|Zv (df (v:=x) rfl (Below.slT hB hl) rfl eo Om (by omega))<|Zv (fD rfl cZ (dh.cell (Below.slT hB hl) gr ⟨0,0⟩ Om (by omega) 0 rfl) (dh.cell (Below.slT hB hl) gr ⟨0,0⟩ Om (by omega) 1 rfl))<|Zy (cI gV rfl λac ad H I e=> ?_)
 have J:=ZO H hB
 obtain⟨hB,d,a,b⟩:=I.k4 hB d a b
 refine Zy (cz rfl rfl cZ rfl e rfl rfl λae g K=> ?_)
 replace hB:=Zg hB g J
 replace d:=At.grownAt d e g Dd
 replace a:=At.grownAt a e g Dd
 replace b:=At.grownAt b e g Dd
 replace e:=K
 refine ct<|Zr<|Zv (cy rfl cZ rfl e)<|Zf rfl GB<|Zl rfl cK d rfl<|ZC (vs:=[.agg #[_,_], .int .i64 _]) vO (ju _ _ (n:Int) _ (by show (l.getD k ⟨0,0⟩).m<256;omega) (by show (l.getD k ⟨0,0⟩).v<256;omega)) rfl λaf ag L s=> ?_
 obtain⟨hB,d,a,b⟩:=L.k4 hB d a b
 rw[if_pos (show dC (l.getD ((k:Nat):Int).toNat ⟨0,0⟩).m (l.getD ((k:Nat):Int).toNat ⟨0,0⟩).v (n:Int)=true from hrr)]at s
 obtain rfl:=s
 refine Zw (.tuple #[.agg #[_,_,_,_], .int .i64 _]) rfl<|Zv (c7 rfl)<|Zv (da rfl)<|Zy (cI ee rfl λM N i O f=> ?_)
 have P:=ZO i hB
 have Q:=Zn i a.lt
 have R:=Zn i b.lt
 obtain⟨hB,d,a,b⟩:=O.k4 hB d a b
 replace f:At N M #[wv 0 0,wv 0 1,wv 0 2,wv 0 3] 40:=f
 refine Zy (cz rfl rfl cA rfl f rfl rfl λah h S=> ?_)
 replace hB:=Zg hB h P
 replace d:=At.grownAt d f h Dd
 replace a:=At.grownNe a Q h
 replace b:=At.grownNe b R h
 replace f:=S
 refine ZZ rfl<|cN<|Zv (cy rfl cA rfl b)<|Zv (cy rfl cA rfl f)<|ZC (vs:=[.agg #[_,_,_,_], .agg #[_,_,_,_]]) pS (pj _ _ _) rfl λai aj T U=> ?_
 obtain⟨hB,d,a,b⟩:=T.k4 hB d a b
 obtain rfl:=U
 refine Zy (cz rfl rfl cA rfl b rfl rfl λak j V=> ?_)
 replace hB:=Zg hB j E
 replace d:=At.grownAt d b j Dd
 replace a:=At.grownNe a r j
 replace b:=V
 refine ct<|ZT rfl rfl rfl ?_
 exact F _ _ (k+1) Za ⟨rfl,trivial⟩ ⟨hB,d,a,(by exact b),Om,trivial⟩ Zo
 refine cR<|Zr<|Zv (cy rfl cA rfl b)<|Zy (cz rfl rfl cA rfl a rfl rfl λal t X=> ?_)
 replace hB:=Zg hB t B
 replace b:=At.grownNe b (Ne.symm r) t
 replace a:=X
 refine ct<|Zt<|jr rfl cA a rfl ⟨hB,?_⟩
 obtain rfl:k=l.length:=by omega
 rfl
theorem Z5 (n f i on may N bm bons bmays bi brest bout rest:Nat) (v0:Value) (out:List Cb) (w:World) (hN0:N≤w.heap.size) (hih:∀(on may i:Nat) (w:World),n≤8→n6 n on may i→n+1-i≤f→f≤9→Fn Tryz.prog 235 #[.agg #[.int .i64 (n:Int),wv (fh n) 0,wv (fh n) 1,wv (fh n) 2,wv (fh n) 3],eb on,eb may, .int .i64 (i:Int)] w λv w'=>cD im 2 34 w' w.heap.size v (eC n f on may i)) (h8:n≤8) (hg:n6 n on may i) (hi:i<n) (hf:n+1-(i+1)≤f) (hf9:f≤8) (hm:At w bm #[.int .i64 (n:Int),wv (fh n) 0,wv (fh n) 1,wv (fh n) 2,wv (fh n) 3] 298) (hons:At w bons (nG (cQ on i false) (cQ on i true)) 315) (hmays:At w bmays (nG (cQ may i false) (cQ may i true)) 315) (hbi:At w bi #[.int .i64 (i:Int)] 3) (hrest:At w brest #[wv rest 0,wv rest 1,wv rest 2,wv rest 3] 40) (hout:At w bout #[v0] 212) (hown:cD im 2 34 w N v0 out) (hlen:out.length≤20000) (lor:N≤brest) (loo:N≤bout):
    mS Tryz.prog 264 #[.int .i64 0, .pointer (some ⟨bm,0,none⟩), .pointer (some ⟨bons,0,none⟩), .pointer (some ⟨bmays,0,none⟩), .pointer (some ⟨bi,0,none⟩), .pointer (some ⟨brest,0,none⟩), .pointer (some ⟨bout,0,none⟩)] w λv w'=>Below N w w'∧At w' bm #[.int .i64 (n:Int),wv (fh n) 0,wv (fh n) 1,wv (fh n) 2,wv (fh n) 3] 298∧At w' bons (nG (cQ on i false) (cQ on i true)) 315∧At w' bmays (nG (cQ may i false) (cQ may i true)) 315∧At w' bi #[.int .i64 (i:Int)] 3∧At w' brest #[wv (rest ||| andNot (cQ on i false) (lP (eC n f (andNot (cQ on i false) (cQ may i true)) (cQ may i false) (i+1)) n (eC n f (andNot (cQ on i false) (cQ may i true)) (cQ may i false) (i+1)).length)) 0,wv (rest ||| andNot (cQ on i false) (lP (eC n f (andNot (cQ on i false) (cQ may i true)) (cQ may i false) (i+1)) n (eC n f (andNot (cQ on i false) (cQ may i true)) (cQ may i false) (i+1)).length)) 1,wv (rest ||| andNot (cQ on i false) (lP (eC n f (andNot (cQ on i false) (cQ may i true)) (cQ may i false) (i+1)) n (eC n f (andNot (cQ on i false) (cQ may i true)) (cQ may i false) (i+1)).length)) 2,wv (rest ||| andNot (cQ on i false) (lP (eC n f (andNot (cQ on i false) (cQ may i true)) (cQ may i false) (i+1)) n (eC n f (andNot (cQ on i false) (cQ may i true)) (cQ may i false) (i+1)).length)) 3] 40∧∃v1,At w' bout #[v1] 212∧cD im 2 34 w' N v1 (out++(eC n f (andNot (cQ on i false) (cQ may i true)) (cQ may i false) (i+1)).map (iV i 0)):=by
 refine d5 (n:=60) (N:=N) Tryz.func264 rfl rfl rfl λhB=> ?_
 have hi8:i<8:=by omega
 refine Zd dz λW3 M=> ?_
 obtain⟨hm,hons,hmays,hbi,hrest,hout,hown⟩:=M.k7 hm hons hmays hbi hrest hout hown
 replace hB:=cW hB M hN0
 have hS:=dz.refl W3
 refine Tk 0 rfl (λ_ hq=>cy rfl qF rfl (hq.at hm)) hS<|Ti 1 rfl rfl hS<|Tk 2 rfl (λ_ _=>fo rfl rfl ib Om Om) hS<|Tk 3 rfl (λ_ hq=>fv rfl cA (At.cell (hq.at hons) rfl) (At.cell (hq.at hons) rfl) (At.cell (hq.at hons) rfl) (At.cell (hq.at hons) rfl)) hS<|Ti 4 rfl rfl hS<|Tk 5 rfl (λ_ _=>ld rfl rfl Om Om) hS<|Tk 6 rfl (λ_ _=>fo rfl rfl ib Om Om) hS<|Tk 7 rfl (λ_ hq=>fv rfl cA (At.cell (hq.at hmays) rfl) (At.cell (hq.at hmays) rfl) (At.cell (hq.at hmays) rfl) (At.cell (hq.at hmays) rfl)) hS<|Ti 9 rfl rfl hS<|Tk 10 rfl (λ_ _=>fo rfl rfl ib Om Om) hS<|Tk 11 rfl (λ_ hq=>fv rfl cA (At.cell (hq.at hmays) rfl) (At.cell (hq.at hmays) rfl) (At.cell (hq.at hmays) rfl) (At.cell (hq.at hmays) rfl)) hS<|Tk 12 rfl (λ_ hq=>cB (v:= .int .i64 _) rfl cK (At.cell (hq.at hbi) rfl)) hS<|Tk 13 rfl (λ_ _=>eP rfl rfl Om Om) hS<|To 8 rfl (TC (vs:=[.agg #[_,_,_,_], .agg #[_,_,_,_]]) sc (l7 _ _ _) rfl λal W5 y P=>⟨.inl (hS.trans y),?_⟩)
 obtain⟨hm,hons,hmays,hbi,hrest,hout,hown⟩:=y.k7 hm hons hmays hbi hrest hout hown
 replace hB:=cW hB y hN0
 replace hS:=hS.trans y
 obtain rfl:=P
 refine To 14 rfl (TC (vs:=[.agg #[_,_,_,_,_], .agg #[_,_,_,_], .agg #[_,_,_,_], .int .i64 _]) xT (hih _ _ (i+1) _ h8 (hg.side h8 hi false) hf (an hf9 Dd)) rfl λl W9 z a=>⟨.inl (hS.trans z),?_⟩)
 have Q:=abU hown
 have R:=(an hN0 (Below.size hB))
 obtain⟨hm,hons,hmays,hbi,hrest,hout,hown⟩:=z.k7 hm hons hmays hbi hrest hout hown
 replace hB:=cW hB z hN0
 replace hS:=hS.trans z
 have S:=fl.new Q a
 replace a:=cD.mono a R
 have hcm:jC n (cQ may i false) (i+1) (eC n f (andNot (cQ on i false) (cQ may i true)) (cQ may i false) (i+1)):=(lk h8 f _ _ _ (hg.side h8 hi false) hf).1
 have hcl:=ji (n:=n) f (andNot (cQ on i false) (cQ may i true)) (cQ may i false) (i+1)
 have h3f:3^f≤3^8:=aaf (by decide) hf9
 try simp only[Bool.not_false,Bool.not_true]at a
 generalize hL:eC n f (andNot (cQ on i false) (cQ may i true)) (cQ may i false) (i+1)=L at*
 refine Tw 15 l rfl rfl hS<|Td<|Zd dz λT B=> ?_
 obtain⟨hm,hons,hmays,hbi,hrest,hout,hown⟩:=B.k7 hm hons hmays hbi hrest hout hown
 replace hB:=cW hB B hN0
 replace a:=B.ow a
 have hS:=dz.refl T
 refine Tk 0 rfl (λ_ hq=>cy rfl cA rfl (hq.at hrest)) hS<|Ti 1 rfl rfl hS<|Tk 2 rfl (λ_ _=>fo rfl rfl ib Om Om) hS<|Tk 3 rfl (λ_ hq=>fv rfl cA (At.cell (hq.at hons) rfl) (At.cell (hq.at hons) rfl) (At.cell (hq.at hons) rfl) (At.cell (hq.at hons) rfl)) hS<|Tk 4 rfl (λ_ hq=>cy rfl qF rfl (hq.at hm)) hS<|Tw 5 l rfl rfl hS<|To 6 rfl (TC (vs:=[.agg #[_,_,_,_,_],l]) JT (mY n _ L _ h8 a.sl (λc hc=>⟨(hcm c hc).1,(hcm c hc).2.1⟩) Om) rfl λao ap s U=>⟨.inl (hS.trans s),?_⟩)
 obtain⟨hm,hons,hmays,hbi,hrest,hout,hown⟩:=s.k7 hm hons hmays hbi hrest hout hown
 replace hB:=cW hB s hN0
 replace a:=s.ow a
 replace hS:=hS.trans s
 obtain rfl:=U
 refine To 7 rfl (TC (vs:=[.agg #[_,_,_,_], .agg #[_,_,_,_]]) sc (l7 _ _ _) rfl λaq ar t V=>⟨.inl (hS.trans t),?_⟩)
 obtain⟨hm,hons,hmays,hbi,hrest,hout,hown⟩:=t.k7 hm hons hmays hbi hrest hout hown
 replace hB:=cW hB t hN0
 replace a:=t.ow a
 replace hS:=hS.trans t
 obtain rfl:=V
 refine To 8 rfl (TC (vs:=[.agg #[_,_,_,_], .agg #[_,_,_,_]]) pS (pj _ _ _) rfl λau av A X=>⟨.inl (hS.trans A),?_⟩)
 obtain⟨hm,hons,hmays,hbi,hrest,hout,hown⟩:=A.k7 hm hons hmays hbi hrest hout hown
 replace hB:=cW hB A hN0
 replace a:=A.ow a
 obtain rfl:=X
 refine To 9 rfl (cz rfl rfl cA rfl hrest rfl rfl λaw o Y=>⟨.inr jW,?_⟩)
 replace hm:=At.grownAt hm hrest o Dd
 replace hons:=At.grownAt hons hrest o Dd
 replace hmays:=At.grownAt hmays hrest o Dd
 replace hbi:=At.grownAt hbi hrest o Dd
 replace hout:=At.grownAt hout hrest o Dd
 replace hown:=cD.grownAt hown hrest o Dd
 replace hB:=db hB o hN0 (λj hj=>by cases hj;exact lor)
 replace a:=cD.grownAt a hrest o Dd
 replace hrest:=Y
 refine Td<|Zr<|Zw l rfl<|Zv (cT (v:=l) rfl a.sl eo)<|ZZ rfl<|cx ?_
 refine cS (σ:=(Nat)×(Value)) [10,10,37,59] (λ(k,v2)=>[(37, .int .i64 (k:Int))]) (λsg W=>match sg with|(k,v2)=>(At W bm _ 298)∧(At W bons _ 315)∧(At W bmays _ 315)∧(At W bi _ 3)∧(At W brest _ 40)∧(Below N w W)∧(cD im 2 34 W N l _)∧(At W bout #[v2] 212)∧(cD im 2 34 W N v2 (out++(L.take k).map (iV i 0)))∧(fl v2 l)∧(k≤L.length)∧(True)) (λ(k,v2)=>L.length-k) ((0,v0)) ⟨rfl,trivial⟩ ⟨hm,hons,hmays,hbi,hrest,hB,a,hout,(by rw[List.take_zero,List.map_nil,aaT];exact hown),S,(my _),trivial⟩ ?_
 rintro⟨k,v2⟩ ax ay ⟨hm,hons,hmays,hbi,hrest,hB,a,hout,hown,hap,hk,_⟩ az Z
 refine Zr<|Zv (dk rfl rfl)<|ct<|Zq<|ZQ rfl (λaa=> ?_) λaa=> ?_
 refine cu<|Zq<|cx ?_
 have hck:=hcm (L.getD k ⟨0,0⟩) (dy (by omega))
 obtain⟨hck1,hck2,_,_⟩:=hck
 have hle256:=fY h8
 have hck3:(L.getD k ⟨0,0⟩).v≤(L.getD k ⟨0,0⟩).m:=by rw[←hck2];exact abm
 refine Zr<|Zv (df (v:=l) rfl a.sl rfl eo Om (by omega))<|Zv (fD rfl cZ (dh.cell a.sl gr ⟨0,0⟩ Om (by omega) 0 rfl) (dh.cell a.sl gr ⟨0,0⟩ Om (by omega) 1 rfl))<|Zy (cI gV rfl λC aA D E d=> ?_)
 have F:N≤C:=D▸(an hN0 (Below.size hB))
 have G:=aaQ (b:=C) a (aae D.symm)
 have H:=aaQ (b:=C) hown (aae D.symm)
 obtain⟨hm,hons,hmays,hbi,hrest⟩:=E.k5 hm hons hmays hbi hrest
 replace hB:=cW hB E hN0
 obtain⟨a,hout,hown⟩:=E.k3 a hout hown
 refine Zy (cz rfl rfl cZ rfl d rfl rfl λaB e ab=> ?_)
 replace hm:=At.grownAt hm d e Dd
 replace hons:=At.grownAt hons d e Dd
 replace hmays:=At.grownAt hmays d e Dd
 replace hbi:=At.grownAt hbi d e Dd
 replace hrest:=At.grownAt hrest d e Dd
 replace hB:=db hB e hN0 (λj hj=>by cases hj;exact F)
 replace a:=aat a G e
 replace hout:=At.grownAt hout d e Dd
 replace hown:=aat hown H e
 replace d:=ab
 refine ct<|Zd dz λac I=> ?_
 obtain⟨hm,hons,hmays,hbi,hrest⟩:=I.k5 hm hons hmays hbi hrest
 replace hB:=cW hB I hN0
 obtain⟨a,hout,hown,d⟩:=I.k4 a hout hown d
 have hS:=dz.refl ac
 refine Tf 0 rfl rfl ea hS<|Tk 1 rfl (λ_ hq=>cB (v:= .int .u8 _) rfl dK (At.cell (hq.at d) rfl)) hS<|Tk 2 rfl (λ_ hq=>cB (v:= .int .i64 _) rfl cK (At.cell (hq.at hbi) rfl)) hS<|Tk 3 rfl (λ_ _=>jA (m:=1) rfl rfl Om (by simp only[IntKind.bits];omega) tB) hS<|Tk 4 rfl (λ_ _=>Ab (n:=_) rfl rfl rfl (by show (L.getD k ⟨0,0⟩).m<256;omega) tB) hS<|Tf 5 rfl rfl ea hS<|To 6 rfl (dm (v:= .int .u8 _) rfl rfl dK rfl d gj λaC g ad=>⟨.inr jW,?_⟩)
 replace hm:=At.grownAt hm d g Dd
 replace hons:=At.grownAt hons d g Dd
 replace hmays:=At.grownAt hmays d g Dd
 replace hbi:=At.grownAt hbi d g Dd
 replace hrest:=At.grownAt hrest d g Dd
 replace hB:=db hB g hN0 (λj hj=>by cases hj;exact F)
 replace a:=aat a G g
 replace hout:=At.grownAt hout d g Dd
 replace hown:=aat hown H g
 replace d:=ad
 replace d:At _ _ #[_,_] _:=d
 refine Td<|Zd dz λae J=> ?_
 obtain⟨hm,hons,hmays,hbi,hrest⟩:=J.k5 hm hons hmays hbi hrest
 replace hB:=cW hB J hN0
 obtain⟨a,hout,hown,d⟩:=J.k4 a hout hown d
 have hS:=dz.refl ae
 refine Tf 0 rfl rfl fE hS<|Tk 1 rfl (λ_ hq=>cB (v:= .int .u8 _) rfl dK (At.cell (hq.at d) rfl)) hS<|Ti 2 rfl rfl hS<|Tk 3 rfl (λ_ _=>ic (m:=0) rfl Tryz.underlying3 Tryz.underlying5 Dd) hS<|Tk 4 rfl (λ_ hq=>cB (v:= .int .i64 _) rfl cK (At.cell (hq.at hbi) rfl)) hS<|Tk 5 rfl (λ_ _=>jA (m:=0) rfl rfl Om (by simp only[IntKind.bits];omega) (by rw[abb];decide)) hS<|Tk 6 rfl (λ_ _=>Ab (n:=_) rfl rfl rfl (by show (L.getD k ⟨0,0⟩).v<256;omega) (by rw[abb];decide)) hS<|Tf 7 rfl rfl fE hS<|To 8 rfl (dm (v:= .int .u8 _) rfl rfl dK rfl d gj λaD h af=>⟨.inr jW,?_⟩)
 replace hm:=At.grownAt hm d h Dd
 replace hons:=At.grownAt hons d h Dd
 replace hmays:=At.grownAt hmays d h Dd
 replace hbi:=At.grownAt hbi d h Dd
 replace hrest:=At.grownAt hrest d h Dd
 replace hB:=db hB h hN0 (λj hj=>by cases hj;exact F)
 replace a:=aat a G h
 replace hout:=At.grownAt hout d h Dd
 replace hown:=aat hown H h
 replace d:=af
 replace d:At _ _ #[_,_] _:=d
 refine Td<|cN<|ZL v2 rfl rB hout rfl<|Zv (cy rfl cZ rfl d)<|Zy (eK (u:= .agg #[_,_]) rfl eo jB rfl Dd Dd λag aE aF K ah=> ?_)
 obtain⟨hm,hons,hmays,hbi,hrest⟩:=K.k5 hm hons hmays hbi hrest
 replace hB:=cW hB K hN0
 obtain⟨a,hout,hown⟩:=K.k3 a hout hown
 refine Zy (i6 (v:=v2) (v2:= .slice (some ⟨ag,0,none⟩) 1 1) rfl rfl eo jB Dd hown (eT ah rfl) rfl (n4 hB) zX zX λO aG p r ai=> ?_)
 have aj:=fl.app hap ai a
 replace r:=cD.snoc (enc:=im) (x:=⟨_,_⟩) rfl rfl rfl rfl r
 replace hm:=At.grownOw hm hown p Dd
 replace hons:=At.grownOw hons hown p Dd
 replace hmays:=At.grownOw hmays hown p Dd
 replace hbi:=At.grownOw hbi hown p Dd
 replace hrest:=At.grownOw hrest hown p Dd
 replace hB:=db hB p hN0 (λj hj=>(cD.lt hown j hj))
 replace a:=cD.grownAp a hap p
 replace hout:=At.grownOw hout hown p Dd
 refine Zy (dm (v:=O) rfl rfl rB (dh.one r.sl) hout gj λaH q ak=> ?_)
 replace hm:=At.grownAt hm hout q Dd
 replace hons:=At.grownAt hons hout q Dd
 replace hmays:=At.grownAt hmays hout q Dd
 replace hbi:=At.grownAt hbi hout q Dd
 replace hrest:=At.grownAt hrest hout q Dd
 replace hB:=db hB q hN0 (λj hj=>by cases hj;exact loo)
 replace a:=cD.grownAt a hout q Dd
 replace r:=cD.grownAt r hout q Dd
 replace hout:=ak
 replace hout:At _ _ #[_] _:=hout
 refine ct<|ZT rfl rfl rfl ?_
 exact Z _ _ ((k+1,O)) Za ⟨rfl,trivial⟩ ⟨hm,hons,hmays,hbi,hrest,hB,a,hout,(by rw[Er Om,←aav];exact r),aj,Om,trivial⟩ (by show L.length-(k+1)<L.length-k;omega)
 refine cR ?_
 repeat (first|refine gW ?_|refine f7 ?_)
 refine gk ?_
 repeat (first|refine eJ ?_|refine eg ?_)
 refine vt ?_
 have hkL:k=L.length:=by omega
 rw[hkL,aan]at hown
 exact⟨hB,hm,hons,hmays,hbi,hrest,_,hout,hown⟩
theorem Z4 (n f i on may N bm bons bmays bi brest bout rest:Nat) (v0:Value) (out:List Cb) (w:World) (hN0:N≤w.heap.size) (hih:∀(on may i:Nat) (w:World),n≤8→n6 n on may i→n+1-i≤f→f≤9→Fn Tryz.prog 235 #[.agg #[.int .i64 (n:Int),wv (fh n) 0,wv (fh n) 1,wv (fh n) 2,wv (fh n) 3],eb on,eb may, .int .i64 (i:Int)] w λv w'=>cD im 2 34 w' w.heap.size v (eC n f on may i)) (h8:n≤8) (hg:n6 n on may i) (hi:i<n) (hf:n+1-(i+1)≤f) (hf9:f≤8) (hm:At w bm #[.int .i64 (n:Int),wv (fh n) 0,wv (fh n) 1,wv (fh n) 2,wv (fh n) 3] 298) (hons:At w bons (nG (cQ on i false) (cQ on i true)) 315) (hmays:At w bmays (nG (cQ may i false) (cQ may i true)) 315) (hbi:At w bi #[.int .i64 (i:Int)] 3) (hrest:At w brest #[wv rest 0,wv rest 1,wv rest 2,wv rest 3] 40) (hout:At w bout #[v0] 212) (hown:cD im 2 34 w N v0 out) (hlen:out.length≤20000) (lor:N≤brest) (loo:N≤bout):
    mS Tryz.prog 264 #[.int .i64 1, .pointer (some ⟨bm,0,none⟩), .pointer (some ⟨bons,0,none⟩), .pointer (some ⟨bmays,0,none⟩), .pointer (some ⟨bi,0,none⟩), .pointer (some ⟨brest,0,none⟩), .pointer (some ⟨bout,0,none⟩)] w λv w'=>Below N w w'∧At w' bm #[.int .i64 (n:Int),wv (fh n) 0,wv (fh n) 1,wv (fh n) 2,wv (fh n) 3] 298∧At w' bons (nG (cQ on i false) (cQ on i true)) 315∧At w' bmays (nG (cQ may i false) (cQ may i true)) 315∧At w' bi #[.int .i64 (i:Int)] 3∧At w' brest #[wv (rest ||| andNot (cQ on i true) (lP (eC n f (andNot (cQ on i true) (cQ may i false)) (cQ may i true) (i+1)) n (eC n f (andNot (cQ on i true) (cQ may i false)) (cQ may i true) (i+1)).length)) 0,wv (rest ||| andNot (cQ on i true) (lP (eC n f (andNot (cQ on i true) (cQ may i false)) (cQ may i true) (i+1)) n (eC n f (andNot (cQ on i true) (cQ may i false)) (cQ may i true) (i+1)).length)) 1,wv (rest ||| andNot (cQ on i true) (lP (eC n f (andNot (cQ on i true) (cQ may i false)) (cQ may i true) (i+1)) n (eC n f (andNot (cQ on i true) (cQ may i false)) (cQ may i true) (i+1)).length)) 2,wv (rest ||| andNot (cQ on i true) (lP (eC n f (andNot (cQ on i true) (cQ may i false)) (cQ may i true) (i+1)) n (eC n f (andNot (cQ on i true) (cQ may i false)) (cQ may i true) (i+1)).length)) 3] 40∧∃v1,At w' bout #[v1] 212∧cD im 2 34 w' N v1 (out++(eC n f (andNot (cQ on i true) (cQ may i false)) (cQ may i true) (i+1)).map (iV i 1)):=by
 refine d5 (n:=60) (N:=N) Tryz.func264 rfl rfl rfl λhB=> ?_
 have hi8:i<8:=by omega
 refine Zd dz λW3 M=> ?_
 obtain⟨hm,hons,hmays,hbi,hrest,hout,hown⟩:=M.k7 hm hons hmays hbi hrest hout hown
 replace hB:=cW hB M hN0
 have hS:=dz.refl W3
 refine Tk 0 rfl (λ_ hq=>cy rfl qF rfl (hq.at hm)) hS<|Ti 1 rfl rfl hS<|Tk 2 rfl (λ_ _=>fo rfl rfl ib Om Om) hS<|Tk 3 rfl (λ_ hq=>fv rfl cA (At.cell (hq.at hons) rfl) (At.cell (hq.at hons) rfl) (At.cell (hq.at hons) rfl) (At.cell (hq.at hons) rfl)) hS<|Ti 4 rfl rfl hS<|Tk 5 rfl (λ_ _=>ld rfl rfl Om Om) hS<|Tk 6 rfl (λ_ _=>fo rfl rfl ib Om Om) hS<|Tk 7 rfl (λ_ hq=>fv rfl cA (At.cell (hq.at hmays) rfl) (At.cell (hq.at hmays) rfl) (At.cell (hq.at hmays) rfl) (At.cell (hq.at hmays) rfl)) hS<|Ti 9 rfl rfl hS<|Tk 10 rfl (λ_ _=>fo rfl rfl ib Om Om) hS<|Tk 11 rfl (λ_ hq=>fv rfl cA (At.cell (hq.at hmays) rfl) (At.cell (hq.at hmays) rfl) (At.cell (hq.at hmays) rfl) (At.cell (hq.at hmays) rfl)) hS<|Tk 12 rfl (λ_ hq=>cB (v:= .int .i64 _) rfl cK (At.cell (hq.at hbi) rfl)) hS<|Tk 13 rfl (λ_ _=>eP rfl rfl Om Om) hS<|To 8 rfl (TC (vs:=[.agg #[_,_,_,_], .agg #[_,_,_,_]]) sc (l7 _ _ _) rfl λal W5 y P=>⟨.inl (hS.trans y),?_⟩)
 obtain⟨hm,hons,hmays,hbi,hrest,hout,hown⟩:=y.k7 hm hons hmays hbi hrest hout hown
 replace hB:=cW hB y hN0
 replace hS:=hS.trans y
 obtain rfl:=P
 refine To 14 rfl (TC (vs:=[.agg #[_,_,_,_,_], .agg #[_,_,_,_], .agg #[_,_,_,_], .int .i64 _]) xT (hih _ _ (i+1) _ h8 (hg.side h8 hi true) hf (an hf9 Dd)) rfl λl W9 z a=>⟨.inl (hS.trans z),?_⟩)
 have Q:=abU hown
 have R:=(an hN0 (Below.size hB))
 obtain⟨hm,hons,hmays,hbi,hrest,hout,hown⟩:=z.k7 hm hons hmays hbi hrest hout hown
 replace hB:=cW hB z hN0
 replace hS:=hS.trans z
 have S:=fl.new Q a
 replace a:=cD.mono a R
 have hcm:jC n (cQ may i true) (i+1) (eC n f (andNot (cQ on i true) (cQ may i false)) (cQ may i true) (i+1)):=(lk h8 f _ _ _ (hg.side h8 hi true) hf).1
 have hcl:=ji (n:=n) f (andNot (cQ on i true) (cQ may i false)) (cQ may i true) (i+1)
 have h3f:3^f≤3^8:=aaf (by decide) hf9
 try simp only[Bool.not_false,Bool.not_true]at a
 generalize hL:eC n f (andNot (cQ on i true) (cQ may i false)) (cQ may i true) (i+1)=L at*
 refine Tw 15 l rfl rfl hS<|Td<|Zd dz λT B=> ?_
 obtain⟨hm,hons,hmays,hbi,hrest,hout,hown⟩:=B.k7 hm hons hmays hbi hrest hout hown
 replace hB:=cW hB B hN0
 replace a:=B.ow a
 have hS:=dz.refl T
 refine Tk 0 rfl (λ_ hq=>cy rfl cA rfl (hq.at hrest)) hS<|Ti 1 rfl rfl hS<|Tk 2 rfl (λ_ _=>fo rfl rfl ib Om Om) hS<|Tk 3 rfl (λ_ hq=>fv rfl cA (At.cell (hq.at hons) rfl) (At.cell (hq.at hons) rfl) (At.cell (hq.at hons) rfl) (At.cell (hq.at hons) rfl)) hS<|Tk 4 rfl (λ_ hq=>cy rfl qF rfl (hq.at hm)) hS<|Tw 5 l rfl rfl hS<|To 6 rfl (TC (vs:=[.agg #[_,_,_,_,_],l]) JT (mY n _ L _ h8 a.sl (λc hc=>⟨(hcm c hc).1,(hcm c hc).2.1⟩) Om) rfl λao ap s U=>⟨.inl (hS.trans s),?_⟩)
 obtain⟨hm,hons,hmays,hbi,hrest,hout,hown⟩:=s.k7 hm hons hmays hbi hrest hout hown
 replace hB:=cW hB s hN0
 replace a:=s.ow a
 replace hS:=hS.trans s
 obtain rfl:=U
 refine To 7 rfl (TC (vs:=[.agg #[_,_,_,_], .agg #[_,_,_,_]]) sc (l7 _ _ _) rfl λaq ar t V=>⟨.inl (hS.trans t),?_⟩)
 obtain⟨hm,hons,hmays,hbi,hrest,hout,hown⟩:=t.k7 hm hons hmays hbi hrest hout hown
 replace hB:=cW hB t hN0
 replace a:=t.ow a
 replace hS:=hS.trans t
 obtain rfl:=V
 refine To 8 rfl (TC (vs:=[.agg #[_,_,_,_], .agg #[_,_,_,_]]) pS (pj _ _ _) rfl λau av A X=>⟨.inl (hS.trans A),?_⟩)
 obtain⟨hm,hons,hmays,hbi,hrest,hout,hown⟩:=A.k7 hm hons hmays hbi hrest hout hown
 replace hB:=cW hB A hN0
 replace a:=A.ow a
 obtain rfl:=X
 refine To 9 rfl (cz rfl rfl cA rfl hrest rfl rfl λaw o Y=>⟨.inr jW,?_⟩)
 replace hm:=At.grownAt hm hrest o Dd
 replace hons:=At.grownAt hons hrest o Dd
 replace hmays:=At.grownAt hmays hrest o Dd
 replace hbi:=At.grownAt hbi hrest o Dd
 replace hout:=At.grownAt hout hrest o Dd
 replace hown:=cD.grownAt hown hrest o Dd
 replace hB:=db hB o hN0 (λj hj=>by cases hj;exact lor)
 replace a:=cD.grownAt a hrest o Dd
 replace hrest:=Y
 refine Td<|Zr<|Zw l rfl<|Zv (cT (v:=l) rfl a.sl eo)<|ZZ rfl<|cx ?_
 refine cS (σ:=(Nat)×(Value)) [10,10,37,59] (λ(k,v2)=>[(37, .int .i64 (k:Int))]) (λsg W=>match sg with|(k,v2)=>(At W bm _ 298)∧(At W bons _ 315)∧(At W bmays _ 315)∧(At W bi _ 3)∧(At W brest _ 40)∧(Below N w W)∧(cD im 2 34 W N l _)∧(At W bout #[v2] 212)∧(cD im 2 34 W N v2 (out++(L.take k).map (iV i 1)))∧(fl v2 l)∧(k≤L.length)∧(True)) (λ(k,v2)=>L.length-k) ((0,v0)) ⟨rfl,trivial⟩ ⟨hm,hons,hmays,hbi,hrest,hB,a,hout,(by rw[List.take_zero,List.map_nil,aaT];exact hown),S,(my _),trivial⟩ ?_
 rintro⟨k,v2⟩ ax ay ⟨hm,hons,hmays,hbi,hrest,hB,a,hout,hown,hap,hk,_⟩ az Z
 refine Zr<|Zv (dk rfl rfl)<|ct<|Zq<|ZQ rfl (λaa=> ?_) λaa=> ?_
 refine cu<|Zq<|cx ?_
 have hck:=hcm (L.getD k ⟨0,0⟩) (dy (by omega))
 obtain⟨hck1,hck2,_,_⟩:=hck
 have hle256:=fY h8
 have hck3:(L.getD k ⟨0,0⟩).v≤(L.getD k ⟨0,0⟩).m:=by rw[←hck2];exact abm
 refine Zr<|Zv (df (v:=l) rfl a.sl rfl eo Om (by omega))<|Zv (fD rfl cZ (dh.cell a.sl gr ⟨0,0⟩ Om (by omega) 0 rfl) (dh.cell a.sl gr ⟨0,0⟩ Om (by omega) 1 rfl))<|Zy (cI gV rfl λC aA D E d=> ?_)
 have F:N≤C:=D▸(an hN0 (Below.size hB))
 have G:=aaQ (b:=C) a (aae D.symm)
 have H:=aaQ (b:=C) hown (aae D.symm)
 obtain⟨hm,hons,hmays,hbi,hrest⟩:=E.k5 hm hons hmays hbi hrest
 replace hB:=cW hB E hN0
 obtain⟨a,hout,hown⟩:=E.k3 a hout hown
 refine Zy (cz rfl rfl cZ rfl d rfl rfl λaB e ab=> ?_)
 replace hm:=At.grownAt hm d e Dd
 replace hons:=At.grownAt hons d e Dd
 replace hmays:=At.grownAt hmays d e Dd
 replace hbi:=At.grownAt hbi d e Dd
 replace hrest:=At.grownAt hrest d e Dd
 replace hB:=db hB e hN0 (λj hj=>by cases hj;exact F)
 replace a:=aat a G e
 replace hout:=At.grownAt hout d e Dd
 replace hown:=aat hown H e
 replace d:=ab
 refine ct<|Zd dz λac I=> ?_
 obtain⟨hm,hons,hmays,hbi,hrest⟩:=I.k5 hm hons hmays hbi hrest
 replace hB:=cW hB I hN0
 obtain⟨a,hout,hown,d⟩:=I.k4 a hout hown d
 have hS:=dz.refl ac
 refine Tf 0 rfl rfl ea hS<|Tk 1 rfl (λ_ hq=>cB (v:= .int .u8 _) rfl dK (At.cell (hq.at d) rfl)) hS<|Tk 2 rfl (λ_ hq=>cB (v:= .int .i64 _) rfl cK (At.cell (hq.at hbi) rfl)) hS<|Tk 3 rfl (λ_ _=>jA (m:=1) rfl rfl Om (by simp only[IntKind.bits];omega) tB) hS<|Tk 4 rfl (λ_ _=>Ab (n:=_) rfl rfl rfl (by show (L.getD k ⟨0,0⟩).m<256;omega) tB) hS<|Tf 5 rfl rfl ea hS<|To 6 rfl (dm (v:= .int .u8 _) rfl rfl dK rfl d gj λaC g ad=>⟨.inr jW,?_⟩)
 replace hm:=At.grownAt hm d g Dd
 replace hons:=At.grownAt hons d g Dd
 replace hmays:=At.grownAt hmays d g Dd
 replace hbi:=At.grownAt hbi d g Dd
 replace hrest:=At.grownAt hrest d g Dd
 replace hB:=db hB g hN0 (λj hj=>by cases hj;exact F)
 replace a:=aat a G g
 replace hout:=At.grownAt hout d g Dd
 replace hown:=aat hown H g
 replace d:=ad
 replace d:At _ _ #[_,_] _:=d
 refine Td<|Zd dz λae J=> ?_
 obtain⟨hm,hons,hmays,hbi,hrest⟩:=J.k5 hm hons hmays hbi hrest
 replace hB:=cW hB J hN0
 obtain⟨a,hout,hown,d⟩:=J.k4 a hout hown d
 have hS:=dz.refl ae
 refine Tf 0 rfl rfl fE hS<|Tk 1 rfl (λ_ hq=>cB (v:= .int .u8 _) rfl dK (At.cell (hq.at d) rfl)) hS<|Ti 2 rfl rfl hS<|Tk 3 rfl (λ_ _=>ic (m:=1) rfl Tryz.underlying3 Tryz.underlying5 Dd) hS<|Tk 4 rfl (λ_ hq=>cB (v:= .int .i64 _) rfl cK (At.cell (hq.at hbi) rfl)) hS<|Tk 5 rfl (λ_ _=>jA (m:=1) rfl rfl Om (by simp only[IntKind.bits];omega) tB) hS<|Tk 6 rfl (λ_ _=>Ab (n:=_) rfl rfl rfl (by show (L.getD k ⟨0,0⟩).v<256;omega) tB) hS<|Tf 7 rfl rfl fE hS<|To 8 rfl (dm (v:= .int .u8 _) rfl rfl dK rfl d gj λaD h af=>⟨.inr jW,?_⟩)
 replace hm:=At.grownAt hm d h Dd
 replace hons:=At.grownAt hons d h Dd
 replace hmays:=At.grownAt hmays d h Dd
 replace hbi:=At.grownAt hbi d h Dd
 replace hrest:=At.grownAt hrest d h Dd
 replace hB:=db hB h hN0 (λj hj=>by cases hj;exact F)
 replace a:=aat a G h
 replace hout:=At.grownAt hout d h Dd
 replace hown:=aat hown H h
 replace d:=af
 replace d:At _ _ #[_,_] _:=d
 refine Td<|cN<|ZL v2 rfl rB hout rfl<|Zv (cy rfl cZ rfl d)<|Zy (eK (u:= .agg #[_,_]) rfl eo jB rfl Dd Dd λag aE aF K ah=> ?_)
 obtain⟨hm,hons,hmays,hbi,hrest⟩:=K.k5 hm hons hmays hbi hrest
 replace hB:=cW hB K hN0
 obtain⟨a,hout,hown⟩:=K.k3 a hout hown
 refine Zy (i6 (v:=v2) (v2:= .slice (some ⟨ag,0,none⟩) 1 1) rfl rfl eo jB Dd hown (eT ah rfl) rfl (n4 hB) zX zX λO aG p r ai=> ?_)
 have aj:=fl.app hap ai a
 replace r:=cD.snoc (enc:=im) (x:=⟨_,_⟩) rfl rfl rfl rfl r
 replace hm:=At.grownOw hm hown p Dd
 replace hons:=At.grownOw hons hown p Dd
 replace hmays:=At.grownOw hmays hown p Dd
 replace hbi:=At.grownOw hbi hown p Dd
 replace hrest:=At.grownOw hrest hown p Dd
 replace hB:=db hB p hN0 (λj hj=>(cD.lt hown j hj))
 replace a:=cD.grownAp a hap p
 replace hout:=At.grownOw hout hown p Dd
 refine Zy (dm (v:=O) rfl rfl rB (dh.one r.sl) hout gj λaH q ak=> ?_)
 replace hm:=At.grownAt hm hout q Dd
 replace hons:=At.grownAt hons hout q Dd
 replace hmays:=At.grownAt hmays hout q Dd
 replace hbi:=At.grownAt hbi hout q Dd
 replace hrest:=At.grownAt hrest hout q Dd
 replace hB:=db hB q hN0 (λj hj=>by cases hj;exact loo)
 replace a:=cD.grownAt a hout q Dd
 replace r:=cD.grownAt r hout q Dd
 replace hout:=ak
 replace hout:At _ _ #[_] _:=hout
 refine ct<|ZT rfl rfl rfl ?_
 exact Z _ _ ((k+1,O)) Za ⟨rfl,trivial⟩ ⟨hm,hons,hmays,hbi,hrest,hB,a,hout,(by rw[Er Om,←aav];exact r),aj,Om,trivial⟩ (by show L.length-(k+1)<L.length-k;omega)
 refine cR ?_
 repeat (first|refine gW ?_|refine f7 ?_)
 refine gk ?_
 repeat (first|refine eJ ?_|refine eg ?_)
 refine vt ?_
 have hkL:k=L.length:=by omega
 rw[hkL,aan]at hown
 exact⟨hB,hm,hons,hmays,hbi,hrest,_,hout,hown⟩
theorem M6 (n f i on may:Nat) (w:World) (hih:∀(on may i:Nat) (w:World),n≤8→n6 n on may i→n+1-i≤f→f≤9→Fn Tryz.prog 235 #[.agg #[.int .i64 (n:Int),wv (fh n) 0,wv (fh n) 1,wv (fh n) 2,wv (fh n) 3],eb on,eb may, .int .i64 (i:Int)] w λv w'=>cD im 2 34 w' w.heap.size v (eC n f on may i)) (h8:n≤8) (hg:n6 n on may i) (hf:n+1-i≤f+1) (hf9:f+1≤9):
    Fn Tryz.prog 235 #[.agg #[.int .i64 (n:Int),wv (fh n) 0,wv (fh n) 1,wv (fh n) 2,wv (fh n) 3],eb on,eb may, .int .i64 (i:Int)] w λv w'=>cD im 2 34 w' w.heap.size v (eC n (f+1) on may i):=by
 refine cH (n:=61) Tryz.func235 rfl rfl rfl λhB=> ?_
 refine Zr<|Zy (dt (c:= #[_,_,_,_,_]) rfl rfl λr W3 aJ U e=> ?_)
 replace hB:=Ze hB U
 refine Zy (dt (c:= #[_,_,_,_]) rfl rfl λV W6 aK X l=> ?_)
 obtain⟨hB,e⟩:=X.k2 hB e
 refine Zy (dt (c:= #[_,_,_,_]) rfl rfl λY W9 Z aa m=> ?_)
 have aL:=Zn Z l.lt
 obtain⟨hB,e,l⟩:=aa.k3 hB e l
 refine Zy (dt (c:= #[_]) rfl rfl λt aM aN ab j=> ?_)
 obtain⟨hB,e,l,m⟩:=ab.k4 hB e l m
 refine Zw (.slice none 0 0) rfl<|ct<|Zq<|cx<|Zr<|Zv (cy rfl cA rfl l)<|Zv (v:=eb 0) (gg)<|Zv (un rfl rfl)<|Zb rfl<|ct<|ZQ rfl (λE=> ?_) λE=> ?_
 refine Zr<|Zw (.slice none 0 0) rfl<|ct<|Zt<|cV (v:= .slice none 0 0) rfl ⟨hB,?_⟩
 rw[eC,if_pos (xc E)]
 exact cD.nil
 refine Zr<|Zv (cy rfl cA rfl m)<|Zf rfl Gr<|Zv (fv rfl cA (At.cell e rfl) (At.cell e rfl) (At.cell e rfl) (At.cell e rfl))<|Zv (un rfl rfl)<|Zb rfl<|ct<|ZQ rfl (λH=> ?_) λH=> ?_
 refine Zr<|Zv (mr)<|Zy (eK (u:= .agg #[_,_]) rfl eo jB rfl Dd Dd λO aO ac ad ae=> ?_)
 have af:=ZO ac hB
 replace hB:=Ze hB ad
 refine Zw (.slice (some ⟨O,0,none⟩) 1 1) rfl<|ct<|Zt<|cV (v:= .slice (some ⟨O,0,none⟩) 1 1) rfl ⟨hB,?_⟩
 rw[eC,if_neg (λh=>E (vf h)),if_pos (xc H)]
 exact jU (enc:=im) (a:=⟨0,0⟩) ae rfl rfl af
 refine cu ?_
 have h0:¬z8 on 0=true:=λh=>E (vf h)
 have h1:¬z8 may (fh n)=true:=λh=>H (vf h)
 have hi:i<n:=Sm h8 hg h0 h1
 have hf1:n+1-(i+1)≤f:=by omega
 have hi8:i<8:=by omega
 refine Zr<|Zy (cI xN rfl λo aP ag ah g=> ?_)
 have ai:=ZO ag hB
 obtain⟨hB,e,l,m,j⟩:=ah.k5 hB e l m j
 refine Zy (cI xN rfl λx aQ P aj d=> ?_)
 have ak:=ZO P hB
 have Q:=Zn P g.lt
 obtain⟨hB,e,l,m,j,g⟩:=aj.k6 hB e l m j g
 refine ct<|Zq ?_
 replace g:=vX (s:=on) (i:=i) g
 replace d:=vX (s:=may) (i:=i) d
 refine Zr<|ZZ rfl<|cx ?_
 refine cS (σ:=(Nat)) [11,11,26,43] (λk=>[(26, .int .i64 (k:Int))]) (λk W=>(Below w.heap.size w W)∧(At W r _ 298)∧(At W V _ 40)∧(At W Y _ 40)∧(At W t _ 3)∧(At W o (oJ on i k) 315)∧(At W x (oJ may i k) 315)∧(k≤2)∧(True)) (λk=>2-k) (0) ⟨rfl,trivial⟩ ⟨hB,e,l,m,j,g,d,(my _),trivial⟩ ?_
 rintro k aR aS ⟨hB,e,l,m,j,g,d,hk,_⟩ aT al
 refine Zr<|Zv (dk rfl rfl)<|ct<|Zq<|ZQ rfl (λao=> ?_) λao=> ?_
 refine cu<|Zq<|cx<|Zr<|Zi rfl<|ZZ rfl ?_
 refine fe (λa b=>a.grownBy b (some o)) fQ (λap aq=> ?_)
 obtain⟨hB,e,l,m,j,g,d⟩:=aq.k7 hB e l m j g d
 have F:=g
 have hS:=World.grownBy.refl ap (some o)
 refine Ti 0 rfl rfl hS<|Ti 1 rfl rfl hS<|Tk 2 rfl (λ_ hq=>cy rfl cA rfl (At.grownAt l F hq Dd)) hS<|Tk 3 rfl (λ_ hq=>cB (v:= .int .i64 _) rfl cK (At.cell (At.grownAt j F hq Dd) rfl)) hS<|Ti 4 rfl rfl hS<|Tk 5 rfl (λ_ _=>dW rfl rfl) hS<|Tk 7 rfl (λ_ hq=>cy rfl cA rfl (At.grownAt m F hq Dd)) hS<|Tk 8 rfl (λ_ hq=>cB (v:= .int .i64 _) rfl cK (At.cell (At.grownAt j F hq Dd) rfl)) hS<|Ti 9 rfl rfl hS<|Tk 10 rfl (λ_ _=>dW rfl rfl) hS<|To 6 rfl (TC (vs:=[.agg #[_,_,_,_], .int .i64 _, .bool _]) JQ (wI _ _ _ _) rfl λaU aV I ar=>⟨.inl (cC hS (dz.grown I (some o))),?_⟩)
 obtain⟨hB,e,l,m,j,g,d⟩:=I.k7 hB e l m j g d
 replace hS:=cC hS (dz.grown I (some o))
 obtain rfl:=ar
 rw[if_pos (show 0≤(i:Int)∧(i:Int)<8 by omega)]
 simp only[so]
 refine Tk 12 rfl (λ_ _=>fo rfl rfl ib Om Om) hS<|To 11 rfl (TC (vs:=[.agg #[_,_,_,_], .int .i64 _, .bool _]) JQ (wI _ _ _ _) rfl λaW aX J au=>⟨.inl (cC hS (dz.grown J (some o))),?_⟩)
 obtain⟨hB,e,l,m,j,g,d⟩:=J.k7 hB e l m j g d
 replace hS:=cC hS (dz.grown J (some o))
 obtain rfl:=au
 rw[if_pos (show 0≤(i:Int)∧(i:Int)<8 by omega)]
 simp only[so]
 refine To 13 rfl (km rfl rfl cA rfl g (by rw[rA];omega) rfl λaY B av=>⟨.inl (cC hS B),?_⟩)
 replace hS:=cC hS B
 replace hB:=Zg hB B ai
 replace e:=At.grownAt e g B Dd
 replace l:=At.grownAt l g B Dd
 replace m:=At.grownAt m g B Dd
 replace j:=At.grownAt j g B Dd
 replace d:=At.grownNe d (Ne.symm Q) B
 replace g:=av
 try simp only[so]at g
 rw[tP (by omega)]at g
 refine Tk 14 rfl (λ_ _=>fo rfl rfl ib Om Om) hS<|To 15 rfl (km rfl rfl cA rfl d (by rw[rA];omega) rfl λaZ D aw=>⟨.inr jW,?_⟩)
 replace hB:=Zg hB D ak
 replace e:=At.grownAt e d D Dd
 replace l:=At.grownAt l d D Dd
 replace m:=At.grownAt m d D Dd
 replace j:=At.grownAt j d D Dd
 replace g:=At.grownNe g Q D
 replace d:=aw
 try simp only[so]at d
 rw[tP (by omega)]at d
 refine Td<|ZT rfl rfl rfl ?_
 exact al _ _ (k+1) Za ⟨rfl,trivial⟩ ⟨hB,e,l,m,j,(by exact g),(by exact d),Om,trivial⟩ Zo
 refine cR ?_
 obtain rfl:k=2:=by omega
 replace g:At _ _ (nG (cQ on i false) (cQ on i true)) _:=g
 replace d:At _ _ (nG (cQ may i false) (cQ may i true)) _:=d
 refine Zr<|Zy (cI QH rfl λC a0 ax ay y=> ?_)
 have R:=ZO ax hB
 obtain⟨hB,e,j,g,d⟩:=ay.k5 hB e j g d
 refine ct<|Zr<|Zy (cI ee rfl λz az aA aB A=> ?_)
 have S:=ZO aA hB
 obtain⟨hB,e,j,g,d,y⟩:=aB.k6 hB e j g d y
 replace A:At az z #[wv 0 0,wv 0 1,wv 0 2,wv 0 3] 40:=A
 refine ct<|Zr<|Zv (fI (vs:= #[.pointer (some ⟨r,0,none⟩), .pointer (some ⟨o,0,none⟩), .pointer (some ⟨x,0,none⟩), .pointer (some ⟨t,0,none⟩), .pointer (some ⟨z,0,none⟩), .pointer (some ⟨C,0,none⟩)]) Ga)<|Zw (.func (.func 264) #[] #[.pointer (some ⟨r,0,none⟩), .pointer (some ⟨o,0,none⟩), .pointer (some ⟨x,0,none⟩), .pointer (some ⟨t,0,none⟩), .pointer (some ⟨z,0,none⟩), .pointer (some ⟨C,0,none⟩)]) rfl<|ct ?_
 have hca:=(lk h8 f _ _ _ (hg.side h8 hi false) hf1)
 have hcb:=(lk h8 f _ _ _ (hg.side h8 hi true) hf1)
 have hgr:=hg.rest h8 hi hca.1 hcb.1 hca.2 hcb.2
 have hla:=ji (n:=n) f (andNot (cQ on i false) (cQ may i true)) (cQ may i false) (i+1)
 have hlb:=ji (n:=n) f (andNot (cQ on i true) (cQ may i false)) (cQ may i true) (i+1)
 have h3f:3^f≤3^8:=aaf (by decide) (by omega)
 refine Zr<|Zw (.func (.func 264) #[] #[.pointer (some ⟨r,0,none⟩), .pointer (some ⟨o,0,none⟩), .pointer (some ⟨x,0,none⟩), .pointer (some ⟨t,0,none⟩), .pointer (some ⟨z,0,none⟩), .pointer (some ⟨C,0,none⟩)]) rfl ?_
 refine mA (dd:=some 46) rfl rfl rfl (ij (q:=264) (first:= #[]) (cap:= #[.pointer (some ⟨r,0,none⟩), .pointer (some ⟨o,0,none⟩), .pointer (some ⟨x,0,none⟩), .pointer (some ⟨t,0,none⟩), .pointer (some ⟨z,0,none⟩), .pointer (some ⟨C,0,none⟩)]) (vs:= #[.int .i64 0, .pointer (some ⟨r,0,none⟩), .pointer (some ⟨o,0,none⟩), .pointer (some ⟨x,0,none⟩), .pointer (some ⟨t,0,none⟩), .pointer (some ⟨z,0,none⟩), .pointer (some ⟨C,0,none⟩)]) rfl JJ Gb) (Z5 n f i on may w.heap.size _ _ _ _ _ _ 0 _ [] _ (Below.size hB) hih h8 hg hi hf1 Om e g d j A y cD.nil gj S R) (λa1 a2 aC=> ?_)
 obtain⟨hBt,e,g,d,j,A,vt0,y,hot0⟩:=aC
 replace hB:=Below.trans hB hBt
 refine ct<|Zr<|Zw (.func (.func 264) #[] #[.pointer (some ⟨r,0,none⟩), .pointer (some ⟨o,0,none⟩), .pointer (some ⟨x,0,none⟩), .pointer (some ⟨t,0,none⟩), .pointer (some ⟨z,0,none⟩), .pointer (some ⟨C,0,none⟩)]) rfl ?_
 refine mA (dd:=some 48) rfl rfl rfl (ij (q:=264) (first:= #[]) (cap:= #[.pointer (some ⟨r,0,none⟩), .pointer (some ⟨o,0,none⟩), .pointer (some ⟨x,0,none⟩), .pointer (some ⟨t,0,none⟩), .pointer (some ⟨z,0,none⟩), .pointer (some ⟨C,0,none⟩)]) (vs:= #[.int .i64 1, .pointer (some ⟨r,0,none⟩), .pointer (some ⟨o,0,none⟩), .pointer (some ⟨x,0,none⟩), .pointer (some ⟨t,0,none⟩), .pointer (some ⟨z,0,none⟩), .pointer (some ⟨C,0,none⟩)]) rfl JJ Gb) (Z4 n f i on may w.heap.size _ _ _ _ _ _ _ _ _ _ (Below.size hB) hih h8 hg hi hf1 Om e g d j A y hot0 iq S R) (λa3 a4 aD=> ?_)
 obtain⟨hBt,e,g,d,j,A,vt1,y,hot1⟩:=aD
 replace hB:=Below.trans hB hBt
 refine ct<|Zd (λa b=>a.grownBy b vt1.ownBlock) λaE aF=> ?_
 obtain⟨hB,e,j,d,y,A,hot1⟩:=aF.k7 hB e j d y A hot1
 have p:=hot1
 have hS:=World.grownBy.refl aE vt1.ownBlock
 refine Tk 0 rfl (λ_ hq=>cB (v:=vt1) rfl rB (At.cell (At.grownOw y p hq Dd) rfl)) hS<|Tk 1 rfl (λ_ hq=>cy rfl qF rfl (At.grownOw e p hq Dd)) hS<|Tk 2 rfl (λ_ hq=>cy rfl cA rfl (At.grownOw A p hq Dd)) hS<|Tk 3 rfl (λ_ _=>fo rfl rfl ib Om Om) hS<|Tk 4 rfl (λ_ hq=>fv rfl cA (At.cell (At.grownOw d p hq Dd) rfl) (At.cell (At.grownOw d p hq Dd) rfl) (At.cell (At.grownOw d p hq Dd) rfl) (At.cell (At.grownOw d p hq Dd) rfl)) hS<|Tk 5 rfl (λ_ _=>fo rfl rfl ib Om Om) hS<|Tk 6 rfl (λ_ hq=>fv rfl cA (At.cell (At.grownOw d p hq Dd) rfl) (At.cell (At.grownOw d p hq Dd) rfl) (At.cell (At.grownOw d p hq Dd) rfl) (At.cell (At.grownOw d p hq Dd) rfl)) hS<|Tk 8 rfl (λ_ hq=>cB (v:= .int .i64 _) rfl cK (At.cell (At.grownOw j p hq Dd) rfl)) hS<|Tk 9 rfl (λ_ _=>eP rfl rfl Om Om) hS<|To 7 rfl (TC (vs:=[.agg #[_,_,_,_], .agg #[_,_,_,_]]) tz (pp _ _ _) rfl λa5 a6 K aG=>⟨.inl (cC hS (dz.grown K vt1.ownBlock)),?_⟩)
 obtain⟨hB,hot1⟩:=K.k2 hB hot1
 replace hS:=cC hS (dz.grown K vt1.ownBlock)
 obtain rfl:=aG
 refine To 10 rfl (TC (vs:=[.agg #[_,_,_,_,_], .agg #[_,_,_,_], .agg #[_,_,_,_], .int .i64 _]) xT (hih _ _ (i+1) _ h8 hgr hf1 (an (Nat.le_succ f) hf9)) rfl λaH a7 L G=>⟨.inl (cC hS (dz.grown L vt1.ownBlock)),?_⟩)
 have a8:=abU hot1
 have aI:=(Below.size hB)
 obtain⟨hB,hot1⟩:=L.k2 hB hot1
 replace hS:=cC hS (dz.grown L vt1.ownBlock)
 replace G:=cD.mono G aI
 try simp only[Bool.not_false,Bool.not_true]at G
 have hlc:=ji (n:=n) f (uN n (cQ on i false) (cQ on i true) (eC n f (andNot (cQ on i false) (cQ may i true)) (cQ may i false) (i+1)) (eC n f (andNot (cQ on i true) (cQ may i false)) (cQ may i true) (i+1))) (cQ may i false &&& cQ may i true) (i+1)
 refine To 11 rfl (i6 (v:=vt1) (v2:=aH) rfl rfl eo jB Dd hot1 G.sl (pI) (n4 hB) (by simp only[aaM,An,aaD,Nat.zero_or];have hlc2:=hlc;unfold uN at hlc2;omega) (by simp only[aaM,An,aaD,Nat.zero_or];have hlc2:=hlc;unfold uN at hlc2;omega) λT a9 M N ba=>⟨.inl (cC hS M),?_⟩)
 replace hS:=cC hS M
 replace N:=cD.app (enc:=im) rfl rfl rfl rfl N
 replace hB:=ZG hB M hot1
 refine Tw 12 T rfl rfl hS<|Td<|Zt<|cV (v:=T) rfl ⟨hB,?_⟩
 rw[eC,if_neg h0,if_neg h1]
 exact N
end
section
open Go Go.RowKit
theorem QT:dT Tryz.prog 298=some (.agg #[.int .i64 0, .int .u64 0, .int .u64 0, .int .u64 0, .int .u64 0]):=by kernel_rfl
theorem Kd:(Tryz.prog.info? 40).map (·.size)=some 4:=by kernel_rfl
theorem wW {f:Nat→Value} {w:World} {d:Option Nat} {ty:TypeId} {ps:String} {af:Array Edge} {g:Option (Nat×Bool)} {x0 x1:Operand} {c0_0 c1_0 c1_1 c1_2 c1_3:Value} (h0:dg f x0=c0_0) (k0:c0_0.cells= #[c0_0]) (h1:dg f x1= .agg #[c1_0,c1_1,c1_2,c1_3]):
    (execOp (dg f) ⟨d, .build 298 #[(0,x0),(1,x1)],ty,ps,af,g⟩).run Tryz.prog w= .ok (.value (.agg #[c0_0,c1_0,c1_1,c1_2,c1_3])) w:=by
  obtain⟨i0,hi0,hz0⟩:=Do.1 (show (Tryz.prog.info? 298).bind (·.zero)=_ from QT)
  obtain⟨j3,hj3,hs3⟩:=go.1 fH
  obtain⟨j40,hj40,hs40⟩:=go.1 Kd
  simp[execOp,h0,k0,h1,Instr.build,zeroValue,typeInfo,sizeOf,hi0,hz0,run_underlying Tryz.underlying298,Instr.fill,dX,hj3,hs3,hj40,hs40]
theorem QO:cX Tryz.prog 195=true:=by kernel_rfl
theorem QB:cX Tryz.prog 196=true:=by kernel_rfl
theorem Jh (n:Nat):∀(f:Nat),∀(on may i:Nat) (w:World),n≤8→n6 n on may i→n+1-i≤f→f≤9→Fn Tryz.prog 235 #[.agg #[.int .i64 (n:Int),wv (fh n) 0,wv (fh n) 1,wv (fh n) 2,wv (fh n) 3],eb on,eb may, .int .i64 (i:Int)] w λv w'=>cD im 2 34 w' w.heap.size v (eC n f on may i)
  |0,on,may,i,w,_,hg,hf,_=>by have:=hg.le;omega
  |f+1,on,may,i,w,h8,hg,hf,hf9=>M6 n f i on may w (Jh n f) h8 hg hf hf9
theorem BX (on may:Nat) (n:Int) (w:World):
    Fn Tryz.prog 195 #[eb on,eb may, .int .i64 n] w λv w'=>if Bk on may n=true then ∃x,v= .tuple #[x, .int .i64 0]∧cD im 2 34 w' w.heap.size x (j1 on may n)else v= .tuple #[.slice none 0 0, .int .i64 1]:=by
 refine cH (n:=35) Tryz.func195 rfl rfl rfl λhB=> ?_
 refine Zr<|Zy (dt (c:= #[_,_,_,_]) rfl rfl λH W3 I m a=> ?_)
 replace hB:=Ze hB m
 refine Zy (dt (c:= #[_,_,_,_]) rfl rfl λJ W6 K o b=> ?_)
 obtain⟨hB,a⟩:=o.k2 hB a
 refine Zw (.slice none 0 0) rfl<|ZZ rfl<|Zr<|Zi rfl<|ZC vY (nn _ _) rfl λL M p q=> ?_
 obtain⟨hB,a,b⟩:=p.k3 hB a b
 obtain⟨sa,er,rfl,hhP1_1⟩:=r7 q
 refine Zw (.tuple #[.agg #[_,_,_,_], .int .i64 _]) rfl<|Zv (c7 rfl)<|Zv (da rfl)<|Zy (cI ee rfl λr s f t d=> ?_)
 have u:=ZO f hB
 have y:=Zn f a.lt
 have z:=Zn f b.lt
 obtain⟨hB,a,b⟩:=t.k3 hB a b
 replace d:At s r #[wv 0 0,wv 0 1,wv 0 2,wv 0 3] 40:=d
 refine Zy (cz rfl rfl cA rfl d rfl rfl λN g A=> ?_)
 replace hB:=Zg hB g u
 replace a:=At.grownNe a y g
 replace b:=At.grownNe b z g
 replace d:=A
 refine ZZ rfl<|Zq<|Zr<|Zi rfl<|Zv (ep rfl rfl)<|ZX rfl (λe=> ?_) λe=> ?_
 refine Zs<|Zs<|Zs<|Zs<|Zb rfl<|Zb rfl<|Zs<|Zs<|Zs<|Zs<|Zb rfl<|ct<|cF rfl<|Zr ?_
 refine Zw (.slice none 0 0) rfl<|ZZ rfl<|Zt<|dL (v:= .slice none 0 0) rfl (v1:= .int .i64 1) rfl ⟨hB,?_⟩
 rw[if_neg (SC hhP1_1 e)]
 refine Zv (cy rfl cA rfl a)<|Zv (cy rfl cA rfl b)<|ZC (vs:=[.agg #[_,_,_,_], .agg #[_,_,_,_]]) qO (iL _ _ _) rfl λO P B C=> ?_
 obtain⟨hB,a,b,d⟩:=B.k4 hB a b d
 obtain rfl:=C
 refine Zv (eR rfl)<|Zb rfl<|ZX rfl (λi=> ?_) λi=> ?_
 refine Zs<|Zs<|Zs<|Zs<|Zb rfl<|ct<|cF rfl<|Zr<|Zw (.slice none 0 0) rfl<|ZZ rfl<|Zt<|dL (v:= .slice none 0 0) rfl (v1:= .int .i64 1) rfl ⟨hB,?_⟩
 rw[if_neg (RZ i)]
 refine Zv (cy rfl cA rfl b)<|Zv (cy rfl cA rfl d)<|ZC (vs:=[.agg #[_,_,_,_], .agg #[_,_,_,_]]) qO (iL _ _ _) rfl λQ R D E=> ?_
 obtain⟨hB,a,b,d⟩:=D.k4 hB a b d
 obtain rfl:=E
 refine Zv (eR rfl)<|Zb rfl<|ct<|ZQ rfl (λj=> ?_) λj=> ?_
 refine Zr<|Zw (.slice none 0 0) rfl<|ZZ rfl<|Zt<|dL (v:= .slice none 0 0) rfl (v1:= .int .i64 1) rfl ⟨hB,?_⟩
 rw[if_neg (QR hhP1_1 e j)]
 refine cu ?_
 have hok:Bk on may n=true:=Wd hhP1_1 e i j
 obtain⟨h0,h8,rfl,rfl⟩:=hhP1_1.resolve_right (λh=>h.1 (kV (kB.1 hok).1))
 obtain⟨n,rfl⟩:=aau h0
 obtain⟨hok8,hok9⟩:=Cs hok
 refine Zr<|Zi rfl<|Zv (cy rfl cA rfl d)<|Zv (wW (h0:=rfl) (k0:=rfl) (h1:=rfl) (c0_0:= .int .i64 _))<|Zv (cy rfl cA rfl a)<|Zv (cy rfl cA rfl b)<|ZC (vs:=[.agg #[_,_,_,_,_], .agg #[_,_,_,_], .agg #[_,_,_,_], .int .i64 0]) xT (Jh n (n+1) on may 0 _ hok8 hok9 Om Om) rfl λl S F k=> ?_
 have G:=(Below.size hB)
 replace hB:=Ze hB F
 replace k:=cD.mono k G
 refine Zw l rfl<|ZZ rfl<|Zt<|dL (v:=l) rfl (v1:= .int .i64 0) rfl ⟨hB,?_⟩
 rw[if_pos hok]
 exact⟨_,rfl,k⟩
theorem BR (on may:Nat) (n:Int) (w:World):
    Fn Tryz.prog 149 #[eb on,eb may, .int .i64 n] w λv w'=>if Bk on may n=true then ∃x,v= .tuple #[x, .int .i64 0]∧cD im 2 34 w' w.heap.size x (Gk may n (j1 on may n))else v= .tuple #[.slice none 0 0, .int .i64 1]:=by
 refine cH (n:=52) Tryz.func149 rfl rfl rfl λhB=> ?_
 refine Zr<|Zy (dt (c:= #[_,_,_,_]) rfl rfl λE W3 ah F f=> ?_)
 replace hB:=Ze hB F
 refine Zy (dt (c:= #[_,_,_,_]) rfl rfl λG W6 ai H g=> ?_)
 obtain⟨hB,f⟩:=H.k2 hB f
 refine Zw (.slice none 0 0) rfl<|ZZ rfl<|Zr<|Zv (cy rfl cA rfl f)<|Zv (cy rfl cA rfl g)<|Zi rfl<|ZC (vs:=[.agg #[_,_,_,_], .agg #[_,_,_,_], .int .i64 _]) QO (BX _ _ _ _) rfl λaj ak I J=> ?_
 have K:=(Below.size hB)
 obtain⟨hB,f,g⟩:=I.k3 hB f g
 obtain⟨x_hP1_3,er_hP1_3,l_hP1_3,rfl,ho_hP1_3,hc_hP1_3⟩:=JV J
 replace ho_hP1_3:=cD.mono ho_hP1_3 K
 refine Zw (.tuple #[x_hP1_3, .int .i64 _]) rfl<|Zv (c7 rfl)<|Zv (da rfl)<|Zw x_hP1_3 rfl<|ZZ rfl<|Zq<|Zr<|Zi rfl<|Zv (ep rfl rfl)<|ct<|ZQ rfl (λr=> ?_) λr=> ?_
 refine Zr<|Zi rfl<|Zw (.slice none 0 0) rfl<|ZZ rfl<|Zt<|dL (v:= .slice none 0 0) rfl (v1:= .int .i64 _) rfl ⟨hB,?_⟩
 obtain⟨hno,hee⟩:=UD hc_hP1_3 r
 rw[if_neg hno,hee]
 refine cu ?_
 obtain⟨hok,hleq⟩:=OG hc_hP1_3 r
 subst hleq
 have hll:=Eo (on:=on) (may:=may) (kV (kB.1 hok).1).2
 refine Zr<|Zy (gQ (enc:=jh) (encV:=Value.bool) λp al L M e=> ?_)
 have N:=ZO L hB
 obtain⟨hB,f,g,ho_hP1_3⟩:=M.k4 hB f g ho_hP1_3
 replace e:du jh Value.bool _ _ (fp []):=e
 refine Zw (.map (some p)) rfl<|ct<|Zr<|Zw (.slice none 0 0) rfl<|ct<|Zq<|Zr<|Zw x_hP1_3 rfl<|Zv (cT (v:=x_hP1_3) rfl ho_hP1_3.sl eo)<|ZZ rfl<|cx ?_
 refine cS (σ:=(Nat)×(Value)) [11,11,13,15,29,50] (λ(k,v0)=>[(29, .int .i64 (k:Int)),(11,v0)]) (λsg W=>match sg with|(k,v0)=>(Below w.heap.size w W)∧(At W E _ 40)∧(At W G _ 40)∧(cD im 2 34 W w.heap.size x_hP1_3 _)∧(du jh Value.bool W p (fp (kz may n (j1 on may n) k)))∧(fl v0 x_hP1_3)∧(cD im 2 34 W w.heap.size v0 (kz may n (j1 on may n) k))∧(k≤(j1 on may n).length)∧(True)) (λ(k,v0)=>(j1 on may n).length-k) ((0, .slice none 0 0)) ⟨rfl,rfl,trivial⟩ ⟨hB,f,g,ho_hP1_3,e,acs,cD.nil,(my _),trivial⟩ ?_
 rintro⟨k,v0⟩ ao ap ⟨hB,f,g,ho_hP1_3,e,hap,ho,hk,_⟩ aq z
 refine Zr<|Zv (dk rfl rfl)<|ct<|Zq<|ZQ rfl (λO=> ?_) λO=> ?_
 refine cu<|Zq<|cx<|Zr<|Zv (df (v:=x_hP1_3) rfl ho_hP1_3.sl rfl eo Om (by omega))<|Zv (fD rfl cZ (dh.cell ho_hP1_3.sl gr ⟨0,0⟩ Om (by omega) 0 rfl) (dh.cell ho_hP1_3.sl gr ⟨0,0⟩ Om (by omega) 1 rfl))<|Zy (cI gV rfl λA ar s P i=> ?_)
 have Q:=ZO s hB
 have R:=aaQ (b:=A) ho_hP1_3 (aae s.symm)
 have S:=aaQ (b:=A) ho (aae s.symm)
 obtain⟨hB,f,g,ho_hP1_3,e,ho⟩:=P.k6 hB f g ho_hP1_3 e ho
 refine Zy (cz rfl rfl cZ rfl i rfl rfl λau j T=> ?_)
 replace hB:=Zg hB j Q
 replace f:=At.grownAt f i j Dd
 replace g:=At.grownAt g i j Dd
 replace ho_hP1_3:=aat ho_hP1_3 R j
 replace e:=du.grownAt e i j
 replace ho:=aat ho S j
 replace i:=T
 refine ct ?_
 obtain⟨hi1,hi2,hi3,hi4⟩:=xO hok (dy (d:=⟨0,0⟩) (show k<(j1 on may n).length by omega))
 have hgl:=qG may n (j1 on may n) k
 refine Zr<|Zv (cy rfl cZ rfl i)<|Zv (cy rfl cA rfl g)<|Zi rfl<|ZC (vs:=[.agg #[_,_], .agg #[_,_,_,_], .int .i64 _]) QB (CP ((j1 on may n).getD k ⟨0,0⟩) may n _ ⟨hi2,hi3⟩) rfl λav aw U B=> ?_
 obtain⟨hB,f,g,ho_hP1_3,e,ho,i⟩:=U.k7 hB f g ho_hP1_3 e ho i
 rw[if_pos hi1]at B
 obtain rfl:=B
 refine Zw (.tuple #[.agg #[_,_], .int .i64 _]) rfl<|Zv (c7 rfl)<|Zv (da rfl)<|Zy (cI gV rfl λC ax t V h=> ?_)
 have X:=ZO t hB
 have Y:=aaQ (b:=C) ho_hP1_3 (aae t.symm)
 have Z:=aaQ (b:=C) ho (aae t.symm)
 obtain⟨hB,f,g,ho_hP1_3,e,ho⟩:=V.k6 hB f g ho_hP1_3 e ho
 refine Zy (cz rfl rfl cZ rfl h rfl rfl λay l aa=> ?_)
 replace hB:=Zg hB l X
 replace f:=At.grownAt f h l Dd
 replace g:=At.grownAt g h l Dd
 replace ho_hP1_3:=aat ho_hP1_3 Y l
 replace e:=du.grownAt e h l
 replace ho:=aat ho Z l
 replace h:=aa
 refine ZZ rfl<|Zr<|Zw (.map (some p)) rfl<|Zv (cy rfl cZ rfl h)<|Zv (fV (enc:=jh) (encV:=Value.bool) (v0:=false) (k:=(lK may n ((j1 on may n).getD k ⟨0,0⟩))) rfl rfl ku nX (λa=>⟨a,rfl⟩) nL qj rfl e)<|Zv (eR rfl)<|ct<|ZQ rfl (λq=> ?_) λq=> ?_
 refine Zr<|Zw (.map (some p)) rfl<|Zv (cy rfl cZ rfl h) ?_
 refine gK (dd:=none) rfl rfl rfl (fJ (enc:=jh) (encV:=Value.bool) (k:=(lK may n ((j1 on may n).getD k ⟨0,0⟩))) (v:=true) rfl rfl rfl ku nX (λa=>⟨a,rfl⟩) nL e (λaz m ab=> ?_))
 replace hB:=Zg hB m N
 replace f:=At.grownMap f e m
 replace g:=At.grownMap g e m
 replace ho_hP1_3:=cD.grownMap ho_hP1_3 e m
 replace ho:=cD.grownMap ho e m
 replace h:=At.grownMap h e m
 replace e:=ab
 rw[jP]at e
 refine ct<|cN<|Zw v0 rfl<|Zv (cy rfl cZ rfl h)<|Zy (eK (u:= .agg #[_,_]) rfl eo jB rfl Dd Dd λac aA aB ad ae=> ?_)
 obtain⟨hB,f,g,ho_hP1_3,e,ho⟩:=ad.k6 hB f g ho_hP1_3 e ho
 refine Zy (i6 (v:=v0) (v2:= .slice (some ⟨ac,0,none⟩) 1 1) rfl rfl eo jB Dd ho (eT ae rfl) rfl (n4 hB) (by omega) (by omega) λD aC o y af=> ?_)
 have ag:=fl.app hap af ho_hP1_3
 replace y:=cD.snoc (enc:=im) (x:=(lK may n ((j1 on may n).getD k ⟨0,0⟩))) rfl rfl rfl rfl y
 replace hB:=ZG hB o ho
 replace f:=At.grownOw f ho o Dd
 replace g:=At.grownOw g ho o Dd
 replace ho_hP1_3:=cD.grownAp ho_hP1_3 hap o
 replace e:=du.grownOw e ho o
 refine Zw D rfl<|ct<|ZT rfl rfl rfl ?_
 exact z _ _ ((k+1,D)) Za ⟨rfl,rfl,trivial⟩ ⟨hB,f,g,ho_hP1_3,(by exact e),ag,(by (rw[kz,EA (OC (kk:=lK may n ((j1 on may n).getD k ⟨0,0⟩)) q)];exact y)),Om,trivial⟩ (by show (j1 on may n).length-(k+1)<(j1 on may n).length-k;omega)
 refine cu<|ZT rfl rfl rfl ?_
 exact z _ _ ((k+1,v0)) Za ⟨rfl,rfl,trivial⟩ ⟨hB,f,g,ho_hP1_3,(by (rw[kz,xZ (OB (kk:=lK may n ((j1 on may n).getD k ⟨0,0⟩)) q)];exact e)),hap,(by (rw[kz,xZ (OB (kk:=lK may n ((j1 on may n).getD k ⟨0,0⟩)) q)];exact ho)),Om,trivial⟩ (by show (j1 on may n).length-(k+1)<(j1 on may n).length-k;omega)
 refine cR<|Zr<|Zw v0 rfl<|Zw v0 rfl<|ZZ rfl<|Zt<|dL (v:=v0) rfl (v1:= .int .i64 0) rfl ⟨hB,?_⟩
 obtain rfl:k=(j1 on may n).length:=by omega
 rw[if_pos hok]
 exact⟨_,rfl,ho⟩
end
end Go.Proofs.YtedeonkjellcpaaGreatDoor
