/- The walk of the family of a spec's primes. The walks of thinning: the program's way and the document's. The walks of package isop. The walks of isop.Cover, isop.Grown, and of the document's cover. -/
import Derived.Test.YtedeonkjellcpaaGreatDoorWTag2
namespace Go.Proofs.YtedeonkjellcpaaGreatDoor
set_option linter.unusedVariables false
set_option linter.unusedSimpArgs false
section
open Go Go.RowKit
theorem jA:eJ Tryz.prog 283=true:=by kernel_rfl
theorem RU:dW Tryz.prog 285=some (.agg #[.pointer none, .int .i64 0]):=by kernel_rfl
theorem nE:(Tryz.prog.info? 27).map (·.size)=some 1:=by kernel_rfl
theorem Bc {f:Nat→Value} {w:World} {d:Option Nat} {ty:TypeId} {ps:String} {af:Array Edge} {g:Option (Nat×Bool)} {x0:Operand} {c0_0:Value} (h0:dk f x0=c0_0) (k0:c0_0.cells= #[c0_0]):
    (execOp (dk f) ⟨d, .build 285 #[(0,x0)],ty,ps,af,g⟩).run Tryz.prog w= .ok (.value (.agg #[c0_0, .int .i64 0])) w:=by
  obtain⟨i0,hi0,hz0⟩:=Do.1 (show (Tryz.prog.info? 285).bind (·.zero)=_ from RU)
  obtain⟨j27,hj27,hs27⟩:=an.1 nE
  obtain⟨j238,hj238,hs238⟩:=an.1 zh
  simp[execOp,h0,k0,Instr.build,zeroValue,typeInfo,sizeOf,hi0,hz0,run_underlying Tryz.underlying285,Instr.fill,d7,hj27,hs27,hj238,hs238]
theorem Rs:dW Tryz.prog 283=some (.pointer none):=by kernel_rfl
theorem IK:cX Tryz.prog 220=true:=by kernel_rfl
set_option maxRecDepth 10000 in
theorem rr (w0:World) (ba bm bz bc R:Nat) (ns:List Nd) (e:Int) (S:Sp) (onV mayV:Value) (o ball bs bp:Nat) (w:World) (hB:Below w0.heap.size w0 w) (hz:At w bz #[.pointer (some ⟨ba,0,none⟩)] 282) (hD:fJ 222 228 w0.heap.size ba bm R w ns) (hc:At w bc #[.pointer (some ⟨bz,0,none⟩), .int .i64 e] 285) (loc:w0.heap.size≤bc) (hr:dt S=true) (hon:dp fh 4 w0 onV S.on) (hmay:dp fh 4 w0 mayV S.may) (hal:At w ball #[wv (fm (nN S)) 0,wv (fm (nN S)) 1,wv (fm (nN S)) 2,wv (fm (nN S)) 3] 40) (hsp:At w bs #[.int .i64 ((nN S:Nat):Int),onV,mayV] 59) (hbp:At w bp #[.pointer (some ⟨bc,0,none⟩)] 283) (ho:o<16):
    lc Tryz.prog 220 #[.int .i64 (o:Int), .pointer (some ⟨ball,0,none⟩), .pointer (some ⟨bs,0,none⟩), .pointer (some ⟨bp,0,none⟩)] w λv w'=>∃(ns':List Nd) (e':Int) (id:Nat),v= .int .i64 (id:Int)∧Dc 228 285 w0.heap.size bc bz ba bm w w'∧At w' bz #[.pointer (some ⟨ba,0,none⟩)] 282∧fJ 222 228 w0.heap.size ba bm R w' ns'∧At w' bc #[.pointer (some ⟨bz,0,none⟩), .int .i64 e'] 285∧MR ns ns' R e e' (nN S) 0 (ic S o) id:=by
 refine sq (n:=33) Tryz.func220 rfl rfl (acR rfl) ?_
 have hX:Dc 228 285 w0.heap.size bc bz ba bm w w:=Dc.refl
 have hwf:=hD.wf
 have hroom:=hD.room
 have htop:=hD.top
 obtain⟨h8,hSn,y⟩:=rQ hr
 have N:=Nw y
 refine Zr<|ZZ rfl<|Zr<|Zv (cz rfl cC rfl hal)<|Zy (cK el rfl λi W5 j l a=> ?_)
 have g:=ZO j hB
 have r:=Zn j hal.lt
 have s:w.heap.size≤i:=j▸hX.dx.size
 obtain⟨hz,hc⟩:=l.k2 hz hc
 replace hD:=fJ.ext l hD
 obtain⟨hX,hal,hsp,hbp,hB⟩:=l.k5 hX hal hsp hbp hB
 replace a:At W5 i #[wv 0 0,wv 0 1,wv 0 2,wv 0 3] 40:=a
 refine Zy (cA rfl rfl cC rfl a rfl rfl λW8 d z=> ?_)
 replace hz:=At.grownAt hz a d Dd
 replace hc:=At.grownAt hc a d Dd
 replace hD:=fJ.grownAt hD a d Dd Dd
 replace hX:=Dc.new hX s g d a Dd
 replace hal:=At.grownNe hal r d
 replace hsp:=At.grownAt hsp a d Dd
 replace hbp:=At.grownAt hbp a d Dd
 replace hB:=Zg hB d g
 replace a:=z
 refine ct<|Zq<|Zr<|Zf rfl gi<|ZL mayV rfl eY hsp rfl<|Zv (de (v:=mayV) rfl (Below.slT hB hmay) ey)<|ZZ rfl<|cy ?_
 refine cY (σ:=(Nat)) [7,8,13,26] (λk=>[(13, .int .i64 (k:Int))]) (λk W=>(At W bz _ 282)∧(At W bc _ 285)∧(fJ 222 228 w0.heap.size ba bm R W ns)∧(Dc 228 285 w0.heap.size bc bz ba bm w W)∧(At W ball _ 40)∧(At W bs _ 59)∧(At W bp _ 283)∧(Below w0.heap.size w0 W)∧(At W i #[wv (l4 S o k) 0,wv (l4 S o k) 1,wv (l4 S o k) 2,wv (l4 S o k) 3] 40)∧(k≤S.may.length)∧(True)) (λk=>S.may.length-k) (0) ⟨rfl,trivial⟩ ⟨hz,hc,hD,hX,hal,hsp,hbp,hB,a,(my _),trivial⟩ ?_
 rintro k O P ⟨hz,hc,hD,hX,hal,hsp,hbp,hB,a,hk,_⟩ Q t
 refine Zr<|Zv (dq rfl rfl)<|ct<|Zq<|ZQ rfl (λA=> ?_) λA=> ?_
 refine cx<|Zq<|cy<|Zr<|Zi rfl<|Zv (dm (v:=mayV) rfl (Below.slT hB hmay) rfl ey Om (by omega))<|Zv (eQ rfl cC (dp.cell (Below.slT hB hmay) dr 0 Om (by omega) 0 rfl) (dp.cell (Below.slT hB hmay) dr 0 Om (by omega) 1 rfl) (dp.cell (Below.slT hB hmay) dr 0 Om (by omega) 2 rfl) (dp.cell (Below.slT hB hmay) dr 0 Om (by omega) 3 rfl))<|Zy (cK el rfl λu B h m b=> ?_)
 have x:=ZO h hB
 have C:=Zn h hal.lt
 have D:=Zn h a.lt
 have E:w.heap.size≤u:=h▸hX.dx.size
 obtain⟨hz,hc⟩:=m.k2 hz hc
 replace hD:=fJ.ext m hD
 obtain⟨hX,hal,hsp,hbp,hB,a⟩:=m.k6 hX hal hsp hbp hB a
 replace b:At B u #[wv 0 0,wv 0 1,wv 0 2,wv 0 3] 40:=b
 refine Zi rfl<|Zy (cA rfl rfl cC rfl b rfl rfl λT c F=> ?_)
 replace hz:=At.grownAt hz b c Dd
 replace hc:=At.grownAt hc b c Dd
 replace hD:=fJ.grownAt hD b c Dd Dd
 replace hX:=Dc.new hX E x c b Dd
 replace hal:=At.grownNe hal C c
 replace hsp:=At.grownAt hsp b c Dd
 replace hbp:=At.grownAt hbp b c Dd
 replace hB:=Zg hB c x
 replace a:=At.grownNe a D c
 replace b:=F
 refine ct<|Zr<|Zi rfl<|Zi rfl<|Zv (qQ rfl rfl Om (by simp only[IntKind.bits];omega))<|Zv (m5 (n:=1) rfl rfl rfl (by simp only[iA];have:=abV o (2^((k:Nat):Int).toNat);omega) Dd)<|Zv (dJ rfl rfl)<|ct<|ZQ rfl (λp=> ?_) λp=> ?_
 refine cI<|Zv (cz rfl cC rfl a)<|Zv (cz rfl cC rfl b)<|ZC (vs:=[.agg #[_,_,_,_], .agg #[_,_,_,_]]) tH (pB _ _ _) rfl λU V q G=> ?_
 obtain⟨hz,hc⟩:=q.k2 hz hc
 replace hD:=fJ.ext q hD
 obtain⟨hX,hal,hsp,hbp,hB,a⟩:=q.k6 hX hal hsp hbp hB a
 obtain rfl:=G
 refine Zy (cA rfl rfl cC rfl a rfl rfl λX f H=> ?_)
 replace hz:=At.grownAt hz a f Dd
 replace hc:=At.grownAt hc a f Dd
 replace hD:=fJ.grownAt hD a f Dd Dd
 replace hX:=Dc.new hX s g f a Dd
 replace hal:=At.grownNe hal r f
 replace hsp:=At.grownAt hsp a f Dd
 replace hbp:=At.grownAt hbp a f Dd
 replace hB:=Zg hB f g
 replace a:=H
 refine ct<|ZT rfl rfl rfl ?_
 exact t _ _ (k+1) Za ⟨rfl,trivial⟩ ⟨hz,hc,hD,hX,hal,hsp,hbp,hB,(by (rw[←Ur (JR p)];exact a)),Om,trivial⟩ Zo
 refine cx<|ZT rfl rfl rfl ?_
 exact t _ _ (k+1) Za ⟨rfl,trivial⟩ ⟨hz,hc,hD,hX,hal,hsp,hbp,hB,(by (rw[←T9 (JG p)];exact a)),Om,trivial⟩ Zo
 refine cT ?_
 obtain rfl:k=S.may.length:=by omega
 refine Zr<|ZL (.pointer (some ⟨bc,0,none⟩)) rfl jA hbp rfl<|Zv (cz rfl cC rfl a)<|Zv (cz rfl cC rfl hal)<|Zf rfl iM<|Zl rfl cR hsp rfl<|ZH (vs:=[.pointer (some ⟨bc,0,none⟩), .agg #[_,_,_,_], .agg #[_,_,_,_], .int .i64 _, .int .i64 0]) Cr (TH (nN S+1) w0.heap.size ba bm bz bc R ns e (ic S o) (nN S) 0 _ (Below.size hB) hz hD hc loc h8 (O0 hr o) Om) rfl λY Z I=> ?_
 obtain⟨aa,e8_5,ab,rfl,J,K,hD8_5,L,M⟩:=I
 replace hX:=Dc.trans hX J
 replace hz:=K
 replace hD:=hD8_5
 replace hc:=L
 refine ZZ rfl<|Zt<|df (v:= .int .i64 _) rfl ?_
 exact⟨_,_,_,rfl,hX,hz,hD,hc,M⟩
set_option maxRecDepth 20000 in
theorem DI (w0:World) (ba bm bz R:Nat) (ns:List Nd) (S:Sp) (onV mayV:Value) (w:World) (hB:Below w0.heap.size w0 w) (hz:At w bz #[.pointer (some ⟨ba,0,none⟩)] 282) (hD:fJ 222 228 w0.heap.size ba bm R w ns) (hr:dt S=true) (hon:dp fh 4 w0 onV S.on) (hmay:dp fh 4 w0 mayV S.may):
    lc Tryz.prog 175 #[.pointer (some ⟨bz,0,none⟩), .agg #[.int .i64 S.n,onV,mayV]] w λv w'=>PW 222 228 w0.heap.size ba bm R w ns (WY R ns S) v w':=by
 refine sq (n:=114) Tryz.func175 rfl rfl (acR rfl) ?_
 have hX:Dx 228 w0.heap.size [ba,bm] w w:=Dx.refl
 have hwf:=hD.wf
 have hroom:=hD.room
 have htop:=hD.top
 obtain⟨h8,hSn,aE⟩:=rQ hr
 have bo:=Nw aE
 have bp:=abo S.may.length
 refine Zr<|Zy (dw (c:= #[_,_,_]) rfl rfl λs W3 bq Q g=> ?_)
 replace hz:=Q.at hz
 replace hD:=fJ.ext Q hD
 obtain⟨hX,hB⟩:=Q.k2 hX hB
 refine Zi rfl<|ZZ rfl<|Zq<|Zr<|Zp rfl<|Zv (rA rfl rfl Tryz.underlying238)<|Zb rfl<|Zv (cz rfl ee rfl g)<|ZC (vs:=[.agg #[_,_,_]]) oC (iP S _ _ _ (Below.slT hB hon) (Below.slT hB hmay)) rfl λbr bs T aF=> ?_
 replace hz:=T.at hz
 replace hD:=fJ.ext T hD
 obtain⟨hX,hB,g⟩:=T.k3 hX hB g
 obtain rfl:=aF
 refine Zv (eR rfl)<|Zb rfl<|ct<|ZQ rfl (λav=> ?_) λav=> ?_
 exact absurd (OO av) (by rw[hr];decide)
 refine cx<|Zr<|Zp rfl<|Zv (Bc (h0:=rfl) (k0:=rfl) (c0_0:= .pointer (some ⟨bz,0,none⟩)))<|Zy (dw (c:= #[_,_]) rfl rfl λk bt aw U d=> ?_)
 have l:=ZO aw hB
 have F:w.heap.size≤k:=aw▸hX.size
 replace hz:=U.at hz
 replace hD:=fJ.ext U hD
 obtain⟨hX,hB,g⟩:=U.k3 hX hB g
 refine Zy (cK Rs rfl λr bu ax V e=> ?_)
 have ay:=ZO ax hB
 have aG:w.heap.size≤r:=ax▸hX.size
 replace hz:=V.at hz
 replace hD:=fJ.ext V hD
 obtain⟨hX,hB,g,d⟩:=V.k4 hX hB g d
 refine Zy (db (v:= .pointer (some ⟨k,0,none⟩)) rfl rfl jA rfl e K1 λbv G aH=> ?_)
 replace hz:=At.grownAt hz e G Dd
 replace hD:=fJ.grownAt hD e G Dd Dd
 replace hX:=ac1 hX aG (Dx.grown G (aa9 ..) ay)
 replace hB:=Zg hB G ay
 replace g:=At.grownAt g e G Dd
 replace d:=At.grownAt d e G Dd
 replace e:=aH
 replace e:At _ _ #[_] _:=e
 refine ct ?_
 rw[hSn]at g
 refine Zr<|Zf rfl iM<|Zl rfl cR g rfl<|ZC vU (nA ((nN S:Nat):Int) _) rfl λbw bx X aI=> ?_
 replace hz:=X.at hz
 replace hD:=fJ.ext X hD
 obtain⟨hX,hB,g,d,e⟩:=X.k5 hX hB g d e
 obtain rfl:=RO h8 aI
 refine Zw (.tuple #[.agg #[_,_,_,_], .int .i64 0]) rfl<|Zv (cZ rfl)<|Zv (c7 rfl)<|Zy (cK el rfl λp aJ az Y i=> ?_)
 have aA:=ZO az hB
 have aK:w.heap.size≤p:=az▸hX.size
 replace hz:=Y.at hz
 replace hD:=fJ.ext Y hD
 obtain⟨hX,hB,g,d,e⟩:=Y.k5 hX hB g d e
 replace i:At aJ p #[wv 0 0,wv 0 1,wv 0 2,wv 0 3] 40:=i
 refine Zy (cA rfl rfl cC rfl i rfl rfl λbA t aL=> ?_)
 replace hz:=At.grownAt hz i t Dd
 replace hD:=fJ.grownAt hD i t Dd Dd
 replace hX:=ac1 hX aK (Dx.grown t (aa9 ..) aA)
 replace hB:=Zg hB t aA
 replace g:=At.grownAt g i t Dd
 replace d:=At.grownAt d i t Dd
 replace e:=At.grownAt e i t Dd
 replace i:=aL
 refine ZZ rfl<|Zr<|ZZ rfl<|Zr<|Zv (eS (vs:= #[.pointer (some ⟨p,0,none⟩), .pointer (some ⟨s,0,none⟩), .pointer (some ⟨r,0,none⟩)]) AO)<|Zw (.func (.func 220) #[] #[.pointer (some ⟨p,0,none⟩), .pointer (some ⟨s,0,none⟩), .pointer (some ⟨r,0,none⟩)]) rfl<|ct<|Zq<|Zr<|ZZ rfl<|cy ?_
 refine cY (σ:=(Nat)×(Nat)×(List Nd)×(Int)) [9,9,11,14,32,103] (λ(o,out,nsc,ec)=>[(11, .int .i64 (o:Int)),(9, .int .i64 (out:Int))]) (λsg W=>match sg with|(o,out,nsc,ec)=>(At W bz _ 282)∧(Dx 228 w0.heap.size [ba,bm] w W)∧(Below w0.heap.size w0 W)∧(At W s _ 59)∧(At W r _ 283)∧(At W p _ 40)∧(fJ 222 228 w0.heap.size ba bm R W nsc)∧(At W k #[.pointer (some ⟨bz,0,none⟩), .int .i64 ec] 285)∧(1≤o∧o≤2^S.may.length)∧(VP ns nsc R S o ec out)∧(True)) (λ(o,out,nsc,ec)=>2^S.may.length-o) ((1,0,ns,0)) ⟨rfl,rfl,trivial⟩ ⟨hz,hX,hB,g,e,i,hD,d,Om,Pv,trivial⟩ ?_
 rintro⟨o,out,nsc,ec⟩ bB bC ⟨hz,hX,hB,g,e,i,hD,d,hoo,halw,_⟩ bD aM
 refine Zq<|Zr<|Zi rfl<|Zf rfl gi<|ZL mayV rfl eY g rfl<|Zv (de (v:=mayV) rfl (Below.slT hB hmay) ey)<|Zv (jN (m:=1) rfl rfl Om (by simp only[IntKind.bits];omega) tW)<|Zv (dq rfl rfl)<|ct<|ZQ rfl (λH=> ?_) λH=> ?_
 refine cx<|Zq<|cy ?_
 have hol:o<16:=by simp only[abd,so]at H;omega
 have hom:o<2^S.may.length:=by simp only[abd,so]at H;omega
 have hwo:=halw.v
 refine Zr<|Zw (.func (.func 220) #[] #[.pointer (some ⟨p,0,none⟩), .pointer (some ⟨s,0,none⟩), .pointer (some ⟨r,0,none⟩)]) rfl<|Zi rfl ?_
 refine mQ (dd:=some 42) rfl rfl rfl (ip (q:=220) (first:= #[]) (cap:= #[.pointer (some ⟨p,0,none⟩), .pointer (some ⟨s,0,none⟩), .pointer (some ⟨r,0,none⟩)]) (vs:= #[.int .i64 _, .pointer (some ⟨p,0,none⟩), .pointer (some ⟨s,0,none⟩), .pointer (some ⟨r,0,none⟩)]) rfl IK GD) (rr w0 ba bm bz k R nsc ec S onV mayV o _ _ _ _ hB hz hD d l hr hon hmay i g e Om) (λbE bF aN=> ?_)
 obtain⟨aO,e10_2,aP,rfl,I,aQ,hD10_2,aR,aS⟩:=aN
 replace hX:=ac1 hX F I.dx
 replace hB:=Below.dx hB (am _) (am _) I.dx
 replace g:=abW hD d I g Dd Dd Dd
 replace e:=abW hD d I e Dd Dd Dd
 replace i:=abW hD d I i Dd Dd Dd
 replace hz:=aQ
 replace hD:=hD10_2
 replace d:=aR
 refine ZZ rfl<|Zq<|Zr<|Zi rfl<|Zv (eB rfl rfl Om Om)<|ZZ rfl<|cy ?_
 refine cY (σ:=(Nat)×(Nat)×(List Nd)×(Int)) [12,13,45,70] (λ(j,f,nsi,ei)=>[(13, .int .i64 (j:Int)),(12, .int .i64 (f:Int))]) (λsg W=>match sg with|(j,f,nsi,ei)=>(At W bz _ 282)∧(Dx 228 w0.heap.size [ba,bm] w W)∧(Below w0.heap.size w0 W)∧(At W s _ 59)∧(At W r _ 283)∧(At W p _ 40)∧(fJ 222 228 w0.heap.size ba bm R W nsi)∧(At W k #[.pointer (some ⟨bz,0,none⟩), .int .i64 ei] 285)∧(o<j∧j≤2^S.may.length)∧(VI nsc nsi R S o j ec ei f)∧(True)) (λ(j,f,nsi,ei)=>2^S.may.length-j) ((o+1,aP,aO,e10_2)) ⟨rfl,rfl,trivial⟩ ⟨hz,hX,hB,g,e,i,hD,d,(by simp only[abd,so]at H;omega),(OJ aS),trivial⟩ ?_
 rintro⟨j,f,nsi,ei⟩ bG bH ⟨hz,hX,hB,g,e,i,hD,d,hjj,hfw,_⟩ bI aB
 refine Zq<|Zr<|Zi rfl<|Zf rfl gi<|ZL mayV rfl eY g rfl<|Zv (de (v:=mayV) rfl (Below.slT hB hmay) ey)<|Zv (jN (m:=1) rfl rfl Om (by simp only[IntKind.bits];omega) tW)<|Zv (dq rfl rfl)<|ct<|ZQ rfl (λZ=> ?_) λZ=> ?_
 refine cx<|Zq<|cy ?_
 have hjp:j<2^S.may.length:=by simp only[abd,so]at Z;omega
 refine Zr<|Zi rfl<|Zi rfl<|Zv (m5 (n:=_) rfl rfl rfl vP vP)<|Zi rfl<|Zv (dJ rfl rfl)<|ct<|ZQ rfl (λaa=> ?_) λaa=> ?_
 refine eP (λa b=>Dc 228 285 w0.heap.size k bz ba bm a b) fC (λab ac=> ?_)
 obtain⟨hz,hX,hB,g,e,i⟩:=ac.k6 hz hX hB g e i
 replace hD:=fJ.ext ac hD
 replace d:=ac.at d
 have hwk0:Wc 285 k bz ab:=⟨_,d⟩
 have hS:Dc 228 285 w0.heap.size k bz ba bm ab ab:=Dc.refl
 refine Tk 0 rfl (λ_ hq=>cD (v:= .pointer (some ⟨k,0,none⟩)) rfl jA (At.cell (abW hD d hq e Dd Dd Dd) rfl)) hS<|Tk 1 rfl (λ_ hq=>cD (v:= .pointer (some ⟨k,0,none⟩)) rfl jA (At.cell (abW hD d hq e Dd Dd Dd) rfl)) hS<|Tc 2 rfl rfl hS<|Tf 3 rfl rfl j1 hS<|Tk 4 rfl (λ_ hq=>cD (v:= .pointer (some ⟨bz,0,none⟩)) rfl iS (ac9 (Dc.wk hq hwk0))) hS<|Ti 5 rfl rfl hS<|Tw 6 (.func (.func 220) #[] #[.pointer (some ⟨p,0,none⟩), .pointer (some ⟨s,0,none⟩), .pointer (some ⟨r,0,none⟩)]) rfl rfl hS<|Ti 7 rfl rfl hS<|To 8 rfl (adc (ip (q:=220) (first:= #[]) (cap:= #[.pointer (some ⟨p,0,none⟩), .pointer (some ⟨s,0,none⟩), .pointer (some ⟨r,0,none⟩)]) (vs:= #[.int .i64 _, .pointer (some ⟨p,0,none⟩), .pointer (some ⟨s,0,none⟩), .pointer (some ⟨r,0,none⟩)]) rfl IK GD) (rr w0 ba bm bz k R nsi ei S onV mayV j _ _ _ _ hB hz hD d l hr hon hmay i g e Om) λbJ bK ad=>⟨.inl (Dc.trans hS ((by obtain⟨_,_,_,_,h,_⟩:=ad;exact h))),?_⟩)
 replace hS:=Dc.trans hS ((by obtain⟨_,_,_,_,h,_⟩:=ad;exact h))
 obtain⟨aT,e15_8,aU,rfl,J,aV,hD15_8,aW,ae⟩:=ad
 replace hX:=ac1 hX F J.dx
 replace hB:=Below.dx hB (am _) (am _) J.dx
 replace g:=abW hD d J g Dd Dd Dd
 replace e:=abW hD d J e Dd Dd Dd
 replace i:=abW hD d J i Dd Dd Dd
 replace hz:=aV
 replace hD:=hD15_8
 replace d:=aW
 have hwa:=hD.wf
 have hla:=gr ae.pre
 have hwi:=hfw.v
 refine To 9 rfl (TG IX (oF w0.heap.size ba bm bz R aT f aU _ (Below.size hB) hz hD Om ae.v) rfl λbL bM af=>⟨.inl (Dc.trans hS (acw hD (PO.dx af) (by decide) (by decide))),?_⟩)
 replace hS:=Dc.trans hS (acw hD (PO.dx af) Dd Dd)
 obtain⟨aX,aY,aC,rfl,x,aZ,a0⟩:=af
 replace hz:=At.dx hD x hz Dd Dd
 replace hX:=Dx.trans hX (x)
 replace hB:=Below.dx hB (am _) (am _) x
 replace g:=At.dx hD x g Dd Dd
 replace e:=At.dx hD x e Dd Dd
 replace i:=At.dx hD x i Dd Dd
 replace d:=At.dx hD x d Dd Dd
 replace hD:=aZ
 refine Tk 10 rfl (λ_ _=>cZ rfl) hS<|Tk 11 rfl (λ_ _=>c7 rfl) hS<|To 12 rfl (TG oD (eW w0.heap.size k bz _ _ _ _ (Below.size hB) d l) rfl λbN bO K=>⟨.inl (Dc.trans hS (Dc.did K.1 l K.2.1)),?_⟩)
 replace hS:=Dc.trans hS (Dc.did K.1 l K.2.1)
 obtain⟨y,a1,rfl⟩:=K
 replace hz:=At.grownAt hz d y Dd
 replace hX:=ac1 hX F (Dx.grown y (aa9 ..) l)
 replace hB:=Zg hB y l
 replace g:=At.grownAt g d y Dd
 replace e:=At.grownAt e d y Dd
 replace i:=At.grownAt i d y Dd
 replace hD:=fJ.grownAt hD d y Dd Dd
 replace d:=a1
 refine Ti 13 rfl rfl hS<|Td<|cI<|Zi rfl<|Zv (eB rfl rfl Om Om)<|ZZ rfl ?_
 exact aB _ _ ((j+1,kB e15_8 aC aY,aX,iW e15_8 aC)) Za ⟨rfl,rfl,trivial⟩ ⟨hz,hX,hB,g,e,i,hD,(by exact d),Om,(QK hr hD.wf hfw hjj.1 (PB aa) ae a0),trivial⟩ (by show 2^S.may.length-(j+1)<2^S.may.length-j;omega)
 refine cx<|cI<|Zi rfl<|Zv (eB rfl rfl Om Om)<|ZZ rfl ?_
 exact aB _ _ ((j+1,f,nsi,ei)) Za ⟨rfl,rfl,trivial⟩ ⟨hz,hX,hB,g,e,i,hD,(by exact d),Om,(SU hfw (λh=>aa (congrArg Int.ofNat h))),trivial⟩ (by show 2^S.may.length-(j+1)<2^S.may.length-j;omega)
 refine cT ?_
 obtain rfl:j=2^S.may.length:=by simp only[abd,so]at Z;omega
 have hwi:=hfw.v
 have hwl:=gr hfw.pre
 refine Zd (λa b=>Dc 228 285 w0.heap.size k bz ba bm a b) λag ah=> ?_
 obtain⟨hz,hX,hB,g,e,i⟩:=ah.k6 hz hX hB g e i
 replace hD:=fJ.ext ah hD
 replace d:=ah.at d
 have hwk0:Wc 285 k bz ag:=⟨_,d⟩
 have hS:Dc 228 285 w0.heap.size k bz ba bm ag ag:=Dc.refl
 refine Tk 0 rfl (λ_ hq=>cD (v:= .pointer (some ⟨k,0,none⟩)) rfl jA (At.cell (abW hD d hq e Dd Dd Dd) rfl)) hS<|Tk 1 rfl (λ_ hq=>cD (v:= .pointer (some ⟨k,0,none⟩)) rfl jA (At.cell (abW hD d hq e Dd Dd Dd) rfl)) hS<|Tc 2 rfl rfl hS<|Tf 3 rfl rfl j1 hS<|Tk 4 rfl (λ_ hq=>cD (v:= .pointer (some ⟨bz,0,none⟩)) rfl iS (ac9 (Dc.wk hq hwk0))) hS<|Ti 5 rfl rfl hS<|Tk 6 rfl (λ_ hq=>cD (v:= .pointer (some ⟨k,0,none⟩)) rfl jA (At.cell (abW hD d hq e Dd Dd Dd) rfl)) hS<|Tk 7 rfl (λ_ hq=>cD (v:= .pointer (some ⟨k,0,none⟩)) rfl jA (At.cell (abW hD d hq e Dd Dd Dd) rfl)) hS<|Tc 8 rfl rfl hS<|Tf 9 rfl rfl j1 hS<|Tk 10 rfl (λ_ hq=>cD (v:= .pointer (some ⟨bz,0,none⟩)) rfl iS (ac9 (Dc.wk hq hwk0))) hS<|Ti 11 rfl rfl hS<|Tk 12 rfl (λ_ _=>jN (m:=_) rfl rfl Om (by simp only[IntKind.bits];omega) (by show o*65536<_;simp only[iA];omega)) hS<|To 13 rfl (eC (u:= .int .i64 _) rfl cV eL rfl Dd Dd λbP bQ a2 O a3=>⟨.inl (Dc.trans hS (Dc.ext O)),?_⟩)
 have a4:=ZO a2 hB
 obtain⟨hz,hX,hB,g,e,i⟩:=O.k6 hz hX hB g e i
 replace hD:=fJ.ext O hD
 obtain⟨d,hS⟩:=O.k2 d hS
 have a5:=jf (enc:=dT) (a:=((o*65536:Nat):Int)) a3 rfl rfl a4
 refine To 14 rfl (TG Kj (qM w0.heap.size ba bm bz R nsi _ [((o*65536:Nat):Int)] _ (Below.size hB) hz hD a5.sl (show 1≤1000000 by decide)) rfl λbR bS ai=>⟨.inl (Dc.trans hS (acw hD (PE.dx ai) (by decide) (by decide))),?_⟩)
 replace hS:=Dc.trans hS (acw hD (PE.dx ai) Dd Dd)
 obtain⟨a6,a7,P,rfl,z,a8,a9⟩:=ai
 replace hz:=At.dx hD z hz Dd Dd
 replace hX:=Dx.trans hX (z)
 replace hB:=Below.dx hB (am _) (am _) z
 replace g:=At.dx hD z g Dd Dd
 replace e:=At.dx hD z e Dd Dd
 replace i:=At.dx hD z i Dd Dd
 replace d:=At.dx hD z d Dd Dd
 replace hD:=a8
 have hgA:=TF a9 (Ve hol)
 have hvA:=hgA.valid
 have hlA:=gr hgA.pre
 refine Tk 15 rfl (λ_ _=>cZ rfl) hS<|Tk 16 rfl (λ_ _=>c7 rfl) hS<|To 17 rfl (TG oD (eW w0.heap.size k bz _ _ _ _ (Below.size hB) d l) rfl λbT bU L=>⟨.inl (Dc.trans hS (Dc.did L.1 l L.2.1)),?_⟩)
 replace hS:=Dc.trans hS (Dc.did L.1 l L.2.1)
 obtain⟨A,bb,rfl⟩:=L
 replace hz:=At.grownAt hz d A Dd
 replace hX:=ac1 hX F (Dx.grown A (aa9 ..) l)
 replace hB:=Zg hB A l
 replace g:=At.grownAt g d A Dd
 replace e:=At.grownAt e d A Dd
 replace i:=At.grownAt i d A Dd
 replace hD:=fJ.grownAt hD d A Dd Dd
 replace d:=bb
 refine To 18 rfl (TG JT (oJ w0.heap.size ba bm bz R a6 f (kB ei P a7) _ (Below.size hB) hz hD Om (qc hvA)) rfl λbV bW aj=>⟨.inl (Dc.trans hS (acw hD (PO.dx aj) (by decide) (by decide))),?_⟩)
 replace hS:=Dc.trans hS (acw hD (PO.dx aj) Dd Dd)
 obtain⟨bc,bd,ak,rfl,B,bf,al⟩:=aj
 replace hz:=At.dx hD B hz Dd Dd
 replace hX:=Dx.trans hX (B)
 replace hB:=Below.dx hB (am _) (am _) B
 replace g:=At.dx hD B g Dd Dd
 replace e:=At.dx hD B e Dd Dd
 replace i:=At.dx hD B i Dd Dd
 replace d:=At.dx hD B d Dd Dd
 replace hD:=bf
 have hvJ:=al.valid
 have hlJ:=gr al.pre
 refine Tk 19 rfl (λ_ _=>cZ rfl) hS<|Tk 20 rfl (λ_ _=>c7 rfl) hS<|To 21 rfl (TG oD (eW w0.heap.size k bz _ _ _ _ (Below.size hB) d l) rfl λbX bY M=>⟨.inl (Dc.trans hS (Dc.did M.1 l M.2.1)),?_⟩)
 replace hS:=Dc.trans hS (Dc.did M.1 l M.2.1)
 obtain⟨C,bg,rfl⟩:=M
 replace hz:=At.grownAt hz d C Dd
 replace hX:=ac1 hX F (Dx.grown C (aa9 ..) l)
 replace hB:=Zg hB C l
 replace g:=At.grownAt g d C Dd
 replace e:=At.grownAt e d C Dd
 replace i:=At.grownAt i d C Dd
 replace hD:=fJ.grownAt hD d C Dd Dd
 replace d:=bg
 refine Ti 22 rfl rfl hS<|Td ?_
 refine eP (λa b=>Dc 228 285 w0.heap.size k bz ba bm a b) fC (λao ap=> ?_)
 obtain⟨hz,hX,hB,g,e,i⟩:=ap.k6 hz hX hB g e i
 replace hD:=fJ.ext ap hD
 replace d:=ap.at d
 have hwk0:Wc 285 k bz ao:=⟨_,d⟩
 have hS:Dc 228 285 w0.heap.size k bz ba bm ao ao:=Dc.refl
 refine Tk 0 rfl (λ_ hq=>cD (v:= .pointer (some ⟨k,0,none⟩)) rfl jA (At.cell (abW hD d hq e Dd Dd Dd) rfl)) hS<|Tk 1 rfl (λ_ hq=>cD (v:= .pointer (some ⟨k,0,none⟩)) rfl jA (At.cell (abW hD d hq e Dd Dd Dd) rfl)) hS<|Tc 2 rfl rfl hS<|Tf 3 rfl rfl j1 hS<|Tk 4 rfl (λ_ hq=>cD (v:= .pointer (some ⟨bz,0,none⟩)) rfl iS (ac9 (Dc.wk hq hwk0))) hS<|Ti 5 rfl rfl hS<|Ti 6 rfl rfl hS<|To 7 rfl (TG DW (kY w0.heap.size ba bm bz R bc out (kB (iW ei P) ak bd) _ (Below.size hB) hz hD Om (qc hvJ)) rfl λbZ b0 aq=>⟨.inl (Dc.trans hS (acw hD (PO.dx aq) (by decide) (by decide))),?_⟩)
 replace hS:=Dc.trans hS (acw hD (PO.dx aq) Dd Dd)
 obtain⟨bh,bi,aD,rfl,D,bj,bk⟩:=aq
 replace hz:=At.dx hD D hz Dd Dd
 replace hX:=Dx.trans hX (D)
 replace hB:=Below.dx hB (am _) (am _) D
 replace g:=At.dx hD D g Dd Dd
 replace e:=At.dx hD D e Dd Dd
 replace i:=At.dx hD D i Dd Dd
 replace d:=At.dx hD D d Dd Dd
 replace hD:=bj
 refine Tk 8 rfl (λ_ _=>cZ rfl) hS<|Tk 9 rfl (λ_ _=>c7 rfl) hS<|To 10 rfl (TG oD (eW w0.heap.size k bz _ _ _ _ (Below.size hB) d l) rfl λb1 b2 N=>⟨.inl (Dc.trans hS (Dc.did N.1 l N.2.1)),?_⟩)
 replace hS:=Dc.trans hS (Dc.did N.1 l N.2.1)
 obtain⟨E,bl,rfl⟩:=N
 replace hz:=At.grownAt hz d E Dd
 replace hX:=ac1 hX F (Dx.grown E (aa9 ..) l)
 replace hB:=Zg hB E l
 replace g:=At.grownAt g d E Dd
 replace e:=At.grownAt e d E Dd
 replace i:=At.grownAt i d E Dd
 replace hD:=fJ.grownAt hD d E Dd Dd
 replace d:=bl
 refine Ti 11 rfl rfl hS<|Td<|cI<|Zi rfl<|Zv (eB rfl rfl Om Om)<|ZZ rfl ?_
 exact aM _ _ ((o+1,kB (iW (iW ei P) ak) aD bi,bh,iW (iW (iW ei P) ak) aD)) Za ⟨rfl,rfl,trivial⟩ ⟨hz,hX,hB,g,e,i,hD,(by exact d),Om,(Rm hr hD.wf (Ql o) halw hoo.1 hol hom hfw hgA al bk),trivial⟩ (by show 2^S.may.length-(o+1)<2^S.may.length-o;omega)
 refine cT<|Zq ?_
 obtain rfl:o=2^S.may.length:=by simp only[abd,so]at H;omega
 refine Zr<|ZL (.pointer (some ⟨k,0,none⟩)) rfl jA e rfl<|Zc rfl<|Zf rfl kW<|Zl rfl fe d rfl<|Zv (e7 rfl rfl)<|ct<|ZQ rfl (λar=> ?_) λar=> ?_
 refine Zd dC λbn au=> ?_
 obtain⟨hX,e⟩:=au.k2 hX e
 replace hD:=fJ.ext au hD
 replace d:=au.at d
 have hS:=dC.refl bn
 refine Tk 0 rfl (λ_ hq=>cD (v:= .pointer (some ⟨k,0,none⟩)) rfl jA (At.cell (hq.at e) rfl)) hS<|Tc 1 rfl rfl hS<|Tf 2 rfl rfl kW hS<|Tk 3 rfl (λ_ hq=>cD (v:= .int .i64 _) rfl fe (At.cell (hq.at d) rfl)) hS<|Ti 4 rfl rfl hS<|Ti 5 rfl rfl hS<|Td<|Zt<|dG (v:= .int .i64 0) rfl (v1:= .int .i64 _) rfl ?_
 exact⟨_,_,_,rfl,hX,hD,QD halw ar⟩
 refine cx<|Zr<|Zi rfl<|Zi rfl<|ZZ rfl<|Zt<|dG (v:= .int .i64 _) rfl (v1:= .int .i64 0) rfl ?_
 exact⟨_,_,_,rfl,hX,hD,W2 halw (aaN ar)⟩
end
section
open Go Go.RowKit
theorem Km:cX Tryz.prog 151=true:=by kernel_rfl
theorem Qy:cX Tryz.prog 152=true:=by kernel_rfl
theorem zv (xa:Value) (l:List Rw) (i k:Nat) (w:World) (hl:dp gx 3 w xa l) (hlb:l.length≤1000000) (hlr:iC l) (hi:i<l.length) (hk:k<8):
    Fn Tryz.prog 152 #[xa, .int .i64 (i:Int), .int .i64 (k:Int)] w λv w'=>cH gx 3 158 w' w.heap.size v (mz l i k):=by
 refine cM (n:=36) Tryz.func152 rfl rfl rfl λhB=> ?_
 have h7:=DP hk
 refine Zr<|Zw (.slice none 0 0) rfl<|ct<|Zr<|Zy (D2 dM λs W5 t x y=> ?_)
 have z:=ZO t hB
 replace hB:=Ze hB x
 have p:=vq (enc:=gx) (sz:=3) y z
 refine Zw xa rfl<|Zy (dR (v:= .slice (some ⟨s,0,none⟩) 0 0) (v2:=xa) rfl rfl dM il Dd p (Below.slT hB hl) (lC) (mV hB) Am Am λe W8 A d=> ?_)
 replace d:=cH.app (enc:=gx) rfl rfl rfl rfl d
 replace hB:=ZG hB A p
 rw[abG]at d
 refine Zw e rfl<|ct<|Zq ?_
 obtain⟨H,I,J⟩:=hlr.get hi
 refine Zd (λa b=>a.grownBy b e.ownBlock) λB C=> ?_
 obtain⟨hB,d⟩:=C.k2 hB d
 have hS:=World.grownBy.refl B e.ownBlock
 refine Tw 0 e rfl rfl hS<|Ti 1 rfl rfl hS<|Ti 5 rfl rfl hS<|Tk 6 rfl (λ_ _=>jN (m:=1) rfl rfl Om (by simp only[IntKind.bits];omega) y6) hS ?_
 refine iY (dd:=some 13) 2 ka rfl rfl rfl rfl (Yd.val (dm (v:=e) rfl d.sl rfl dM Om (by omega)) ⟨.inl hS,?_⟩)
 refine Tf 3 rfl rfl fF hS ?_
 refine iY (dd:=some 15) 4 ka rfl rfl rfl rfl (Yd.val (cD (v:= .int .u8 _) rfl dN (dp.cell d.sl eA ⟨⟨0,0⟩,0⟩ Om (by omega) 2 rfl)) ⟨.inl hS,?_⟩)
 refine Tk 7 rfl (λ_ _=>rl (n:=_) rfl rfl rfl pN y6) hS ?_
 refine iY (dd:=some 19) 8 ka rfl rfl rfl rfl (Yd.val (dm (v:=e) rfl d.sl rfl dM Om (by omega)) ⟨.inl hS,?_⟩)
 refine Tf 9 rfl rfl fF hS<|To 10 rfl (NM (v:=e) (u:= .int .u8 _) (a:=⟨(l.getD i ⟨⟨0,0⟩,0⟩).c,andNot (l.getD i ⟨⟨0,0⟩,0⟩).o (1*2^k)⟩) (dd:=⟨⟨0,0⟩,0⟩) (j:=_) (r:=2) rfl rfl dN eA rfl Dd (rfl) d Om (by omega) λK q D=>⟨.inl (cB hS q),?_⟩)
 replace hB:=ZG hB q d
 replace d:=D
 rw[so]at d
 refine Td ?_
 have hsl:(l.set i ⟨(l.getD i ⟨⟨0,0⟩,0⟩).c,andNot (l.getD i ⟨⟨0,0⟩,0⟩).o (1*2^k)⟩).length=l.length:=List.length_set
 have hC:(l.set i ⟨(l.getD i ⟨⟨0,0⟩,0⟩).c,andNot (l.getD i ⟨⟨0,0⟩,0⟩).o (1*2^k)⟩).length≤jn e:=(Sl.eqv d.sl).2.1
 refine Zr<|Zw e rfl<|Zi rfl<|Zv (dm (v:=e) rfl d.sl rfl dM Om (by omega))<|Zf rfl fF<|Zv (cD (v:= .int .u8 _) rfl dN (dp.cell d.sl eA ⟨⟨0,0⟩,0⟩ Om (by omega) 2 rfl))<|Zv (dJ rfl rfl)<|ct<|ZQ rfl (λg=> ?_) λg=> ?_
 refine eP (λa b=>a.grownBy b e.ownBlock) fC (λE F=> ?_)
 obtain⟨hB,d⟩:=F.k2 hB d
 have hS:=World.grownBy.refl E e.ownBlock
 refine Tw 0 e rfl rfl hS<|Ti 1 rfl rfl hS<|Tk 2 rfl (λ_ _=>GS (v:=e) rfl d.sl dM rfl Om Om) hS<|Tw 3 e rfl rfl hS<|Ti 4 rfl rfl hS<|Tk 5 rfl (λ_ _=>eB rfl rfl Om Om) hS<|Tk 6 rfl (λ_ _=>Hh (v:=e) rfl d.sl dM rfl Om Om) hS<|To 7 rfl (Hv (v:=e) (i:=i) (j:=(i+1)) eA lC rfl rfl dM d Om Om Om λf L h G M=>⟨.inl (cB hS h),?_⟩)
 replace hS:=cB hS h
 replace hB:=ZG hB h d
 refine Tw 8 f rfl rfl hS<|Td<|Zr<|Zw f rfl<|Zw f rfl<|ct<|Zt<|df (v:=f) rfl ⟨hB,?_⟩
 exact(WR hi g)▸G
 refine cx<|Zr<|Zw e rfl<|Zw e rfl<|ct<|Zt<|df (v:=e) rfl ⟨hB,?_⟩
 exact(VQ hi g)▸d
theorem Gd (S:Sp) (onV mayV:Value) (xa:Value) (l:List Rw) (w:World) (hon:dp fh 4 w onV S.on) (hmay:dp fh 4 w mayV S.may) (hl:dp gx 3 w xa l) (hlb:l.length≤1000000) (hlr:iC l) (h4:S.on.length≤20):
    Fn Tryz.prog 104 #[.agg #[.int .i64 S.n,onV,mayV],xa] w λv w'=>if gz S l=true then ∃x,v= .tuple #[x, .int .i64 0]∧cH gx 3 158 w' w.heap.size x (lf S l)else v= .tuple #[.slice none 0 0, .int .i64 1]:=by
 refine cM (n:=61) Tryz.func104 rfl rfl rfl λhB=> ?_
 refine Zr<|Zy (dw (c:= #[_,_,_]) rfl rfl λq W3 M t a=> ?_)
 replace hB:=Ze hB t
 refine Zw (.slice none 0 0) rfl<|ZZ rfl<|Zq<|Zr<|Zv (cz rfl ee rfl a)<|Zw xa rfl<|ZC (vs:=[.agg #[_,_,_],xa]) Km (tB S _ _ _ l _ (Below.slT hB hon) (Below.slT hB hmay) (Below.slT hB hl) Om hlr h4) rfl λN O u y=> ?_
 obtain⟨hB,a⟩:=u.k2 hB a
 obtain rfl:=y
 refine Zv (eR rfl)<|ct<|ZQ rfl (λm=> ?_) λm=> ?_
 refine Zr<|Zw (.slice none 0 0) rfl<|ZZ rfl<|Zt<|dG (v:= .slice none 0 0) rfl (v1:= .int .i64 1) rfl ⟨hB,?_⟩
 rw[if_neg (by rw[show gz S l=false from kZ m];decide)]
 refine cx ?_
 have hc:gz S l=true:=mN m
 have hp:=zn hc
 obtain⟨hr0,hr8,hr1,hr4,hr5,_⟩:=dz.1 (eU.1 hc).1
 refine Zr<|Zy (D2 dM λz P A B C=> ?_)
 have D:=ZO A hB
 obtain⟨hB,a⟩:=B.k2 hB a
 have o:=vq (enc:=gx) (sz:=3) C D
 refine Zw xa rfl<|Zy (dR (v:= .slice (some ⟨z,0,none⟩) 0 0) (v2:=xa) rfl rfl dM il Dd o (Below.slT hB hl) (lC) (mV hB) Am Am λg Q r b=> ?_)
 replace b:=cH.app (enc:=gx) rfl rfl rfl rfl b
 replace hB:=ZG hB r o
 replace a:=At.grownOw a o r Dd
 rw[abG]at b
 refine Zw g rfl<|ct<|Zq<|Zr<|ZZ rfl<|cy ?_
 refine cY (σ:=(Nat)×(Value)) [6,10,18,59] (λ(j,v0)=>[(7, .int .i64 ((mF S l j).length:Int)),(6,v0)]) (λsg W=>match sg with|(j,v0)=>(Below w.heap.size w W)∧(At W q _ 59)∧(cH gx 3 158 W w.heap.size g _)∧(cH gx 3 158 W w.heap.size v0 (mF S l j++l.drop j))∧(j≤l.length)∧(True)) (λ(j,v0)=>l.length-j) ((0,g)) ⟨rfl,rfl,trivial⟩ ⟨hB,a,b,(by exact b),(my _),trivial⟩ ?_
 rintro⟨j,v0⟩ R T ⟨hB,a,b,ho,hj,_⟩ U s
 refine Zq ?_
 have hdl:=QT (S:=S) (l:=l) (j:=j)
 have hal:=IY S l j
 refine Zr<|Zi rfl<|Zw v0 rfl<|Zv (de (v:=v0) rfl ho.sl dM)<|Zv (dq rfl rfl)<|ct<|ZQ rfl (λE=> ?_) λE=> ?_
 refine cx<|cy ?_
 have hjl:j<l.length:=by omega
 refine Zr<|Zw v0 rfl<|Zv (de (v:=v0) rfl ho.sl dM)<|ZZ rfl<|Zq<|Zr<|Zf rfl gW<|ZL onV rfl eY a rfl<|Zv (de (v:=onV) rfl (Below.slT hB hon) ey)<|ZZ rfl<|cy ?_
 refine cY (σ:=(Nat)×(Value)) [6,6,9,10,27,53] (λ(k,v1)=>[(27, .int .i64 (k:Int)),(6,v1)]) (λsg W=>match sg with|(k,v1)=>(Below w.heap.size w W)∧(At W q _ 59)∧(cH gx 3 158 W w.heap.size g _)∧(cH gx 3 158 W w.heap.size v1 (xh S l j k))∧(k≤S.on.length)∧(True)) (λ(k,v1)=>S.on.length-k) ((0,v0)) ⟨rfl,rfl,trivial⟩ ⟨hB,a,b,(by rw[←Gq hp hjl];exact ho),(my _),trivial⟩ ?_
 rintro⟨k,v1⟩ V X ⟨hB,a,b,hoo,hk,_⟩ Y i
 refine Zr<|Zv (dq rfl rfl)<|ct<|Zq<|ZQ rfl (λF=> ?_) λF=> ?_
 refine cx<|Zq<|cy<|Zr<|Zi rfl<|ZZ rfl<|Zq ?_
 have htl:=FC (S:=S) (l:=l) (j:=j) (k:=k)
 obtain⟨hk1,hk2,hk3⟩:=kpL (tm S l j k)
 have htb:=XG (S:=S) hlr hjl k
 have hget:(qF (tm S l j k)).length=1→(xh S l j k).getD (((mF S l j).length:Nat):Int).toNat ⟨⟨0,0⟩,0⟩=tm S l j k:=λh=>by rw[so];exact Rv (hk2 h)
 refine Zr<|Zw v1 rfl<|Zv (de (v:=v1) rfl hoo.sl dM)<|Zi rfl<|Zv (dq rfl rfl)<|ZX rfl (λG=> ?_) λG=> ?_
 refine Zs<|Zs<|Zs<|Zs<|Zs<|Zs<|Zs<|Zs<|Zs<|Zb rfl<|ct<|cQ rfl<|cT ?_
 refine ZT rfl rfl rfl ?_
 exact i _ _ ((k+1,v1)) Za ⟨rfl,rfl,trivial⟩ ⟨hB,a,b,(by (rw[←Ff (.inl (M5 (hk3 Om)))];exact hoo)),Om,trivial⟩ (by show S.on.length-(k+1)<S.on.length-k;omega)
 refine Zw v1 rfl<|Zi rfl<|Zv (dm (v:=v1) rfl hoo.sl rfl dM Om (by omega))<|Zf rfl fF<|Zv (cD (v:= .int .u8 _) rfl dN (dp.cell hoo.sl eA ⟨⟨0,0⟩,0⟩ Om (by omega) 2 rfl))<|Zi rfl<|Zv (qQ rfl rfl Om (by simp only[IntKind.bits];omega))<|Zv (m5 (n:=1) rfl rfl rfl (by exact abr (abV _ _) (htb.any _)) Dd)<|Zv (dJ rfl rfl)<|Zb rfl<|ct<|ZQ rfl (λf=> ?_) λf=> ?_
 refine cT<|ZT rfl rfl rfl ?_
 exact i _ _ ((k+1,v1)) Za ⟨rfl,rfl,trivial⟩ ⟨hB,a,b,(by (rw[←Ff (.inl (Ru (by rw[hget Om]at f;exact f)))];exact hoo)),Om,trivial⟩ (by show S.on.length-(k+1)<S.on.length-k;omega)
 refine cx ?_
 have hpos:(qF (tm S l j k)).length=1:=by omega
 rw[hget hpos]at f
 have hbt:(tG S l j k).testBit k=true:=Oi f
 have hwl:=LI (xh S l j k) (mF S l j).length k
 refine Zr<|Zw v1 rfl<|Zi rfl<|Zi rfl<|ZC Qy (zv _ (xh S l j k) (mF S l j).length k _ hoo.sl Om htb Om Om) rfl λd Z H e=> ?_
 have aa:=acL b
 have ab:=acL hoo
 have I:=(Below.size hB)
 obtain⟨hB,a,b,hoo⟩:=H.k4 hB a b hoo
 replace e:=cH.mono e I
 refine Zw d rfl<|ct<|Zr<|Zv (cz rfl ee rfl a)<|Zw d rfl<|ZC (vs:=[.agg #[_,_,_],d]) Km (tB S _ _ _ (mz (xh S l j k) (mF S l j).length k) _ (Below.slT hB hon) (Below.slT hB hmay) e.sl Om (Rj htb Om k) h4) rfl λac ad J K=> ?_
 obtain⟨hB,a,b,hoo,e⟩:=J.k5 hB a b hoo e
 obtain rfl:=K
 refine ct<|ZQ rfl (λp=> ?_) λp=> ?_
 refine cI<|Zw d rfl<|Zw d rfl<|ct<|ZT rfl rfl rfl ?_
 exact i _ _ ((k+1,d)) Za ⟨rfl,rfl,trivial⟩ ⟨hB,a,b,(by (rw[←TN hbt p];exact e)),Om,trivial⟩ (by show S.on.length-(k+1)<S.on.length-k;omega)
 refine cx<|ZT rfl rfl rfl ?_
 exact i _ _ ((k+1,v1)) Za ⟨rfl,rfl,trivial⟩ ⟨hB,a,b,(by (rw[←Ff (.inr p)];exact hoo)),Om,trivial⟩ (by show S.on.length-(k+1)<S.on.length-k;omega)
 refine cT ?_
 obtain rfl:k=S.on.length:=by omega
 have htl:=FC (S:=S) (l:=l) (j:=j) (k:=S.on.length)
 obtain⟨hk1,hk2,hk3⟩:=kpL (tm S l j S.on.length)
 have hA1:(mF S l (j+1)).length=(mF S l j).length+(qF (tm S l j S.on.length)).length:=by rw[kq,An]
 refine Zr<|Zw v1 rfl<|Zv (de (v:=v1) rfl hoo.sl dM)<|Zi rfl<|Zv (dJ rfl rfl)<|ct<|ZQ rfl (λL=> ?_) λL=> ?_
 refine cI<|Zi rfl<|Zv (eB rfl rfl Om Om)<|ZZ rfl ?_
 exact s _ _ ((j+1,v1)) Za ⟨(by exact congrArg (Value.int .i64) Om),rfl,trivial⟩ ⟨hB,a,b,(by (rw[←DQ];exact hoo)),Om,trivial⟩ (by show l.length-(j+1)<l.length-j;omega)
 refine cx ?_
 exact s _ _ ((j+1,v1)) Za ⟨(by exact congrArg (Value.int .i64) Om),rfl,trivial⟩ ⟨hB,a,b,(by (rw[←DQ];exact hoo)),Om,trivial⟩ (by show l.length-(j+1)<l.length-j;omega)
 refine cT<|Zr<|Zw v0 rfl<|Zw v0 rfl<|ZZ rfl<|Zt<|dG (v:=v0) rfl (v1:= .int .i64 0) rfl ⟨hB,?_⟩
 obtain rfl:j=l.length:=by omega
 rw[if_pos hc]
 rw[List.drop_length,abK]at ho
 exact⟨_,rfl,ho⟩
end
section
open Go Go.RowKit
theorem Hw:d5 Tryz.prog 298 0=some 0:=by kernel_rfl
theorem rg:kf Tryz.prog 298=some 5:=by kernel_rfl
theorem xI:cX Tryz.prog 235=true:=by kernel_rfl
theorem Iy:cX Tryz.prog 265=true:=by kernel_rfl
theorem r8:eJ Tryz.prog 212=true:=by kernel_rfl
theorem H6:d5 Tryz.prog 298 1=some 1:=by kernel_rfl
theorem IP:cX Tryz.prog 263=true:=by kernel_rfl
theorem SZ:dW Tryz.prog 212=some (.slice none 0 0):=by kernel_rfl
theorem Ka:cX Tryz.prog 264=true:=by kernel_rfl
theorem wQ (s:Nat) (i:Int) (one:Bool) (w:World):
    Fn Tryz.prog 263 #[ej s, .int .i64 i, .bool one] w λv w'=>v=ej (if 0≤i∧i<8 then cS s i.toNat one else 0):=by
 refine cM (n:=31) Tryz.func263 rfl rfl rfl λhB=> ?_
 refine Zr<|Zy (dw (c:= #[_,_,_,_]) rfl rfl λF W3 ag G b=> ?_)
 replace hB:=Ze hB G
 refine Zy (cK el rfl λt W6 I J a=> ?_)
 have K:=ZO I hB
 obtain⟨hB,b⟩:=J.k2 hB b
 replace a:At W6 t #[wv 0 0,wv 0 1,wv 0 2,wv 0 3] 40:=a
 refine ct<|Zr<|Zv (cz rfl cC rfl b)<|Zi rfl<|Zb rfl<|ZC (vs:=[.agg #[_,_,_,_], .int .i64 _, .bool _]) DK (yp _ _ _ _) rfl λah ai L M=> ?_
 obtain⟨hB,b,a⟩:=L.k3 hB b a
 obtain rfl:=M
 generalize hH:(if 0≤i∧i<8 then qG s i.toNat one else 0)=H
 refine Zy (cK el rfl λu N l O d=> ?_)
 have P:=ZO l hB
 have Q:=Zn l b.lt
 have R:=Zn l a.lt
 obtain⟨hB,b,a⟩:=O.k3 hB b a
 replace d:At N u #[wv 0 0,wv 0 1,wv 0 2,wv 0 3] 40:=d
 refine Zy (cA rfl rfl cC rfl d rfl rfl λaj o S=> ?_)
 replace hB:=Zg hB o P
 replace b:=At.grownNe b Q o
 replace a:=At.grownNe a R o
 replace d:=S
 refine ct<|Zr<|Zv (cz rfl cC rfl d)<|Zy (cK el rfl λx T h U e=> ?_)
 have y:=ZO h hB
 have z:=Zn h b.lt
 have q:=Zn h a.lt
 have A:=Zn h d.lt
 obtain⟨hB,b,a,d⟩:=U.k4 hB b a d
 replace e:At T x #[wv 0 0,wv 0 1,wv 0 2,wv 0 3] 40:=e
 refine Zy (cA rfl rfl cC rfl e rfl rfl λak j V=> ?_)
 replace hB:=Zg hB j y
 replace b:=At.grownNe b z j
 replace a:=At.grownNe a q j
 replace d:=At.grownNe d A j
 replace e:=V
 refine ct<|Zq<|Zr<|Zv (cz rfl cC rfl d)<|ZC (vs:=[.agg #[_,_,_,_]]) uI (nU _ _) rfl λr al X f=> ?_
 have Y:=(Below.size hB)
 obtain⟨hB,b,a,d,e⟩:=X.k5 hB b a d e
 replace f:=cH.mono f Y
 refine Zv (de (v:=r) rfl f.sl cV)<|ZZ rfl<|cy ?_
 refine cY (σ:=(Nat)) [10,10,19,29] (λk=>[(19, .int .i64 (k:Int))]) (λk W=>(Below w.heap.size w W)∧(At W F _ 40)∧(At W t _ 40)∧(At W u _ 40)∧(cH dT 1 3 W w.heap.size r _)∧(At W x #[wv (kQ (eb H) H i.toNat k) 0,wv (kQ (eb H) H i.toNat k) 1,wv (kQ (eb H) H i.toNat k) 2,wv (kQ (eb H) H i.toNat k) 3] 40)∧(k≤(eb H).length)∧(True)) (λk=>(eb H).length-k) (0) ⟨rfl,trivial⟩ ⟨hB,b,a,d,f,e,(my _),trivial⟩ ?_
 rintro k ao ap ⟨hB,b,a,d,f,e,hk,_⟩ aq Z
 have hll:=mq H
 refine Zr<|Zv (dq rfl rfl)<|ct<|Zq<|ZQ rfl (λB=> ?_) λB=> ?_
 refine cx<|Zq<|cy ?_
 have hi8:0≤i∧i<8:=Sj hH B
 obtain⟨p,ar,au,C⟩:=l9 (s:=H) (i:=k) (by omega)
 have h7:=DP (show i.toNat<8 by omega)
 refine Zr<|Zv (dm (v:=r) rfl f.sl rfl cV Om (by omega))<|Zv (cD (v:= .int .i64 _) rfl cR (dp.cell f.sl ez 0 Om (by omega) 0 rfl))<|ZZ rfl ?_
 have aa:(eb H).getD (k:Int).toNat 0=(p:Int):=C
 rw[aa]
 refine eP dC fC (λab ac=> ?_)
 obtain⟨hB,b,a,d,f,e⟩:=ac.k6 hB b a d f e
 have hS:=dC.refl ab
 refine Tk 0 rfl (λ_ hq=>cz rfl cC rfl (hq.at e)) hS<|Ti 1 rfl rfl hS<|Ti 2 rfl rfl hS<|Tk 3 rfl (λ_ _=>jN (m:=1) rfl rfl Om (by simp only[IntKind.bits];omega) pZ) hS<|Tk 4 rfl (λ_ _=>N7 (n:=_) rfl rfl rfl pZ pZ) hS<|To 5 rfl (TC (vs:=[.agg #[_,_,_,_], .int .i64 _]) Ak (nP _ _ _) rfl λav aw D ad=>⟨.inl (hS.trans D),?_⟩)
 obtain⟨hB,b,a,d,f,e⟩:=D.k6 hB b a d f e
 obtain rfl:=ad
 refine To 6 rfl (cA rfl rfl cC rfl e rfl rfl λax g ae=>⟨.inr ka,?_⟩)
 replace hB:=Zg hB g y
 replace b:=At.grownNe b z g
 replace a:=At.grownNe a q g
 replace d:=At.grownNe d A g
 replace f:=cH.grownAt f e g Dd
 replace e:=ae
 refine Td<|ZT rfl rfl rfl ?_
 exact Z _ _ (k+1) Za ⟨rfl,trivial⟩ ⟨hB,b,a,d,f,(by rw[xf Om,C,so,←abd (2^i.toNat)];exact e),Om,trivial⟩ Zo
 refine cT<|Zr<|Zv (cz rfl cC rfl e)<|Zy (cA rfl rfl cC rfl a rfl rfl λay E af=> ?_)
 replace hB:=Zg hB E K
 replace e:=At.grownNe e (Ne.symm q) E
 replace a:=af
 refine ct<|Zt<|jw rfl cC a rfl ⟨hB,?_⟩
 obtain rfl:k=(eb H).length:=by omega
 rw[ND hH]
theorem m8 (n:Nat) (x:Value) (l:List Cb) (w:World) (h8:n≤8) (hl:dp iD 2 w x l) (hr:∀c,c∈l→c.m<2^n∧c.v &&& c.m=c.v) (hlb:l.length≤100000):
    Fn Tryz.prog 265 #[.agg #[.int .i64 (n:Int),wv (fm n) 0,wv (fm n) 1,wv (fm n) 2,wv (fm n) 3],x] w λv w'=>v=ej (l3 l n l.length):=by
 refine cM (n:=28) Tryz.func265 rfl rfl rfl λhB=> ?_
 refine Zr<|Zy (dw (c:= #[_,_,_,_,_]) rfl rfl λu W3 Y y d=> ?_)
 replace hB:=Ze hB y
 refine Zy (cK el rfl λo W6 z A a=> ?_)
 have B:=ZO z hB
 obtain⟨hB,d⟩:=A.k2 hB d
 replace a:At W6 o #[wv 0 0,wv 0 1,wv 0 2,wv 0 3] 40:=a
 refine ct<|Zr<|Zy (cK el rfl λp C q D b=> ?_)
 have E:=ZO q hB
 have r:=Zn q a.lt
 obtain⟨hB,d,a⟩:=D.k3 hB d a
 replace b:At C p #[wv 0 0,wv 0 1,wv 0 2,wv 0 3] 40:=b
 refine ct<|Zq<|Zr<|Zw x rfl<|Zv (de (v:=x) rfl (Below.slT hB hl) eE)<|ZZ rfl<|cy ?_
 refine cY (σ:=(Nat)) [7,9,12,26] (λk=>[(12, .int .i64 (k:Int))]) (λk W=>(Below w.heap.size w W)∧(At W u _ 298)∧(At W o _ 40)∧(At W p #[wv (l3 l n k) 0,wv (l3 l n k) 1,wv (l3 l n k) 2,wv (l3 l n k) 3] 40)∧(k≤l.length)∧(True)) (λk=>l.length-k) (0) ⟨rfl,trivial⟩ ⟨hB,d,a,b,(my _),trivial⟩ ?_
 rintro k Z aa ⟨hB,d,a,b,hk,_⟩ ab F
 refine Zr<|Zv (dq rfl rfl)<|ct<|Zq<|ZQ rfl (λG=> ?_) λG=> ?_
 refine cx<|Zq<|cy ?_
 obtain⟨hr1,hr2⟩:=hr (l.getD k ⟨0,0⟩) (dB (by omega))
 have hle256:=gj h8
 have hr3:(l.getD k ⟨0,0⟩).v≤(l.getD k ⟨0,0⟩).m:=by rw[←hr2];exact aci
 have hrr:dP (l.getD k ⟨0,0⟩).m (l.getD k ⟨0,0⟩).v (n:Int)=true:=du.2 ⟨by omega,by omega,hr1,hr2⟩
 refine Zr<|Zv (dm (v:=x) rfl (Below.slT hB hl) rfl eE Om (by omega))<|Zv (iq rfl dh (dp.cell (Below.slT hB hl) gt ⟨0,0⟩ Om (by omega) 0 rfl) (dp.cell (Below.slT hB hl) gt ⟨0,0⟩ Om (by omega) 1 rfl))<|Zy (cK gU rfl λac ad H I e=> ?_)
 have J:=ZO H hB
 obtain⟨hB,d,a,b⟩:=I.k4 hB d a b
 refine Zy (cA rfl rfl dh rfl e rfl rfl λae g K=> ?_)
 replace hB:=Zg hB g J
 replace d:=At.grownAt d e g Dd
 replace a:=At.grownAt a e g Dd
 replace b:=At.grownAt b e g Dd
 replace e:=K
 refine ct<|Zr<|Zv (cz rfl dh rfl e)<|Zf rfl Hw<|Zl rfl cR d rfl<|ZC (vs:=[.agg #[_,_], .int .i64 _]) yM (kx _ _ (n:Int) _ (by show (l.getD k ⟨0,0⟩).m<256;omega) (by show (l.getD k ⟨0,0⟩).v<256;omega)) rfl λaf ag L s=> ?_
 obtain⟨hB,d,a,b⟩:=L.k4 hB d a b
 rw[if_pos (show dP (l.getD ((k:Nat):Int).toNat ⟨0,0⟩).m (l.getD ((k:Nat):Int).toNat ⟨0,0⟩).v (n:Int)=true from hrr)]at s
 obtain rfl:=s
 refine Zw (.tuple #[.agg #[_,_,_,_], .int .i64 _]) rfl<|Zv (cZ rfl)<|Zv (c7 rfl)<|Zy (cK el rfl λM N i O f=> ?_)
 have P:=ZO i hB
 have Q:=Zn i a.lt
 have R:=Zn i b.lt
 obtain⟨hB,d,a,b⟩:=O.k4 hB d a b
 replace f:At N M #[wv 0 0,wv 0 1,wv 0 2,wv 0 3] 40:=f
 refine Zy (cA rfl rfl cC rfl f rfl rfl λah h S=> ?_)
 replace hB:=Zg hB h P
 replace d:=At.grownAt d f h Dd
 replace a:=At.grownNe a Q h
 replace b:=At.grownNe b R h
 replace f:=S
 refine ZZ rfl<|cI<|Zv (cz rfl cC rfl b)<|Zv (cz rfl cC rfl f)<|ZC (vs:=[.agg #[_,_,_,_], .agg #[_,_,_,_]]) qj (pq _ _ _) rfl λai aj T U=> ?_
 obtain⟨hB,d,a,b⟩:=T.k4 hB d a b
 obtain rfl:=U
 refine Zy (cA rfl rfl cC rfl b rfl rfl λak j V=> ?_)
 replace hB:=Zg hB j E
 replace d:=At.grownAt d b j Dd
 replace a:=At.grownNe a r j
 replace b:=V
 refine ct<|ZT rfl rfl rfl ?_
 exact F _ _ (k+1) Za ⟨rfl,trivial⟩ ⟨hB,d,a,(by exact b),Om,trivial⟩ Zo
 refine cT<|Zr<|Zv (cz rfl cC rfl b)<|Zy (cA rfl rfl cC rfl a rfl rfl λal t X=> ?_)
 replace hB:=Zg hB t B
 replace b:=At.grownNe b (Ne.symm r) t
 replace a:=X
 refine ct<|Zt<|jw rfl cC a rfl ⟨hB,?_⟩
 obtain rfl:k=l.length:=by omega
 rfl
theorem CT0 (n f i on may N bm bons bmays bi brest bout rest:Nat) (v0:Value) (out:List Cb) (w:World) (hN0:N≤w.heap.size) (hih:∀(on may i:Nat) (w:World),n≤8→ox n on may i→n+1-i≤f→f≤9→Fn Tryz.prog 235 #[.agg #[.int .i64 (n:Int),wv (fm n) 0,wv (fm n) 1,wv (fm n) 2,wv (fm n) 3],ej on,ej may, .int .i64 (i:Int)] w λv w'=>cH iD 2 34 w' w.heap.size v (eH n f on may i)) (h8:n≤8) (hg:ox n on may i) (hi:i<n) (hf:n+1-(i+1)≤f) (hf9:f≤8) (hm:At w bm #[.int .i64 (n:Int),wv (fm n) 0,wv (fm n) 1,wv (fm n) 2,wv (fm n) 3] 298) (hons:At w bons (nH (cS on i false) (cS on i true)) 315) (hmays:At w bmays (nH (cS may i false) (cS may i true)) 315) (hbi:At w bi #[.int .i64 (i:Int)] 3) (hrest:At w brest #[wv rest 0,wv rest 1,wv rest 2,wv rest 3] 40) (hout:At w bout #[v0] 212) (hown:cH iD 2 34 w N v0 out) (hlen:out.length≤20000) (lor:N≤brest) (loo:N≤bout):
    lc Tryz.prog 264 #[.int .i64 0, .pointer (some ⟨bm,0,none⟩), .pointer (some ⟨bons,0,none⟩), .pointer (some ⟨bmays,0,none⟩), .pointer (some ⟨bi,0,none⟩), .pointer (some ⟨brest,0,none⟩), .pointer (some ⟨bout,0,none⟩)] w λv w'=>Below N w w'∧At w' bm #[.int .i64 (n:Int),wv (fm n) 0,wv (fm n) 1,wv (fm n) 2,wv (fm n) 3] 298∧At w' bons (nH (cS on i false) (cS on i true)) 315∧At w' bmays (nH (cS may i false) (cS may i true)) 315∧At w' bi #[.int .i64 (i:Int)] 3∧At w' brest #[wv (rest ||| andNot (cS on i false) (l3 (eH n f (andNot (cS on i false) (cS may i true)) (cS may i false) (i+1)) n (eH n f (andNot (cS on i false) (cS may i true)) (cS may i false) (i+1)).length)) 0,wv (rest ||| andNot (cS on i false) (l3 (eH n f (andNot (cS on i false) (cS may i true)) (cS may i false) (i+1)) n (eH n f (andNot (cS on i false) (cS may i true)) (cS may i false) (i+1)).length)) 1,wv (rest ||| andNot (cS on i false) (l3 (eH n f (andNot (cS on i false) (cS may i true)) (cS may i false) (i+1)) n (eH n f (andNot (cS on i false) (cS may i true)) (cS may i false) (i+1)).length)) 2,wv (rest ||| andNot (cS on i false) (l3 (eH n f (andNot (cS on i false) (cS may i true)) (cS may i false) (i+1)) n (eH n f (andNot (cS on i false) (cS may i true)) (cS may i false) (i+1)).length)) 3] 40∧∃v1,At w' bout #[v1] 212∧cH iD 2 34 w' N v1 (out++(eH n f (andNot (cS on i false) (cS may i true)) (cS may i false) (i+1)).map (iZ i 0)):=by
 refine dK (n:=60) (N:=N) Tryz.func264 rfl rfl rfl λhB=> ?_
 have hi8:i<8:=by omega
 refine Zd dC λW3 M=> ?_
 obtain⟨hm,hons,hmays,hbi,hrest,hout,hown⟩:=M.k7 hm hons hmays hbi hrest hout hown
 replace hB:=cW hB M hN0
 have hS:=dC.refl W3
 refine Tk 0 rfl (λ_ hq=>cz rfl rg rfl (hq.at hm)) hS<|Ti 1 rfl rfl hS<|Tk 2 rfl (λ_ _=>fx rfl rfl ij Om Om) hS<|Tk 3 rfl (λ_ hq=>eQ rfl cC (At.cell (hq.at hons) rfl) (At.cell (hq.at hons) rfl) (At.cell (hq.at hons) rfl) (At.cell (hq.at hons) rfl)) hS<|Ti 4 rfl rfl hS<|Tk 5 rfl (λ_ _=>jS rfl rfl Om Om) hS<|Tk 6 rfl (λ_ _=>fx rfl rfl ij Om Om) hS<|Tk 7 rfl (λ_ hq=>eQ rfl cC (At.cell (hq.at hmays) rfl) (At.cell (hq.at hmays) rfl) (At.cell (hq.at hmays) rfl) (At.cell (hq.at hmays) rfl)) hS<|Ti 9 rfl rfl hS<|Tk 10 rfl (λ_ _=>fx rfl rfl ij Om Om) hS<|Tk 11 rfl (λ_ hq=>eQ rfl cC (At.cell (hq.at hmays) rfl) (At.cell (hq.at hmays) rfl) (At.cell (hq.at hmays) rfl) (At.cell (hq.at hmays) rfl)) hS<|Tk 12 rfl (λ_ hq=>cD (v:= .int .i64 _) rfl cR (At.cell (hq.at hbi) rfl)) hS<|Tk 13 rfl (λ_ _=>eB rfl rfl Om Om) hS<|To 8 rfl (TC (vs:=[.agg #[_,_,_,_], .agg #[_,_,_,_]]) ss (l6 _ _ _) rfl λal W5 y P=>⟨.inl (hS.trans y),?_⟩)
 obtain⟨hm,hons,hmays,hbi,hrest,hout,hown⟩:=y.k7 hm hons hmays hbi hrest hout hown
 replace hB:=cW hB y hN0
 replace hS:=hS.trans y
 obtain rfl:=P
 refine To 14 rfl (TC (vs:=[.agg #[_,_,_,_,_], .agg #[_,_,_,_], .agg #[_,_,_,_], .int .i64 _]) xI (hih _ _ (i+1) _ h8 (hg.side h8 hi false) hf (go hf9 Dd)) rfl λl W9 z a=>⟨.inl (hS.trans z),?_⟩)
 have Q:=acL hown
 have R:=(go hN0 (Below.size hB))
 obtain⟨hm,hons,hmays,hbi,hrest,hout,hown⟩:=z.k7 hm hons hmays hbi hrest hout hown
 replace hB:=cW hB z hN0
 replace hS:=hS.trans z
 have S:=ft.new Q a
 replace a:=cH.mono a R
 have hcm:jI n (cS may i false) (i+1) (eH n f (andNot (cS on i false) (cS may i true)) (cS may i false) (i+1)):=(lT h8 f _ _ _ (hg.side h8 hi false) hf).1
 have hcl:=jp (n:=n) f (andNot (cS on i false) (cS may i true)) (cS may i false) (i+1)
 have h3f:3^f≤3^8:=aa8 (by decide) hf9
 try simp only[Bool.not_false,Bool.not_true]at a
 generalize hL:eH n f (andNot (cS on i false) (cS may i true)) (cS may i false) (i+1)=L at*
 refine Tw 15 l rfl rfl hS<|Td<|Zd dC λT B=> ?_
 obtain⟨hm,hons,hmays,hbi,hrest,hout,hown⟩:=B.k7 hm hons hmays hbi hrest hout hown
 replace hB:=cW hB B hN0
 replace a:=B.ow a
 have hS:=dC.refl T
 refine Tk 0 rfl (λ_ hq=>cz rfl cC rfl (hq.at hrest)) hS<|Ti 1 rfl rfl hS<|Tk 2 rfl (λ_ _=>fx rfl rfl ij Om Om) hS<|Tk 3 rfl (λ_ hq=>eQ rfl cC (At.cell (hq.at hons) rfl) (At.cell (hq.at hons) rfl) (At.cell (hq.at hons) rfl) (At.cell (hq.at hons) rfl)) hS<|Tk 4 rfl (λ_ hq=>cz rfl rg rfl (hq.at hm)) hS<|Tw 5 l rfl rfl hS<|To 6 rfl (TC (vs:=[.agg #[_,_,_,_,_],l]) Iy (m8 n _ L _ h8 a.sl (λc hc=>⟨(hcm c hc).1,(hcm c hc).2.1⟩) Om) rfl λao ap s U=>⟨.inl (hS.trans s),?_⟩)
 obtain⟨hm,hons,hmays,hbi,hrest,hout,hown⟩:=s.k7 hm hons hmays hbi hrest hout hown
 replace hB:=cW hB s hN0
 replace a:=s.ow a
 replace hS:=hS.trans s
 obtain rfl:=U
 refine To 7 rfl (TC (vs:=[.agg #[_,_,_,_], .agg #[_,_,_,_]]) ss (l6 _ _ _) rfl λaq ar t V=>⟨.inl (hS.trans t),?_⟩)
 obtain⟨hm,hons,hmays,hbi,hrest,hout,hown⟩:=t.k7 hm hons hmays hbi hrest hout hown
 replace hB:=cW hB t hN0
 replace a:=t.ow a
 replace hS:=hS.trans t
 obtain rfl:=V
 refine To 8 rfl (TC (vs:=[.agg #[_,_,_,_], .agg #[_,_,_,_]]) qj (pq _ _ _) rfl λau av A X=>⟨.inl (hS.trans A),?_⟩)
 obtain⟨hm,hons,hmays,hbi,hrest,hout,hown⟩:=A.k7 hm hons hmays hbi hrest hout hown
 replace hB:=cW hB A hN0
 replace a:=A.ow a
 obtain rfl:=X
 refine To 9 rfl (cA rfl rfl cC rfl hrest rfl rfl λaw o Y=>⟨.inr ka,?_⟩)
 replace hm:=At.grownAt hm hrest o Dd
 replace hons:=At.grownAt hons hrest o Dd
 replace hmays:=At.grownAt hmays hrest o Dd
 replace hbi:=At.grownAt hbi hrest o Dd
 replace hout:=At.grownAt hout hrest o Dd
 replace hown:=cH.grownAt hown hrest o Dd
 replace hB:=dg hB o hN0 (λj hj=>by cases hj;exact lor)
 replace a:=cH.grownAt a hrest o Dd
 replace hrest:=Y
 refine Td<|Zr<|Zw l rfl<|Zv (de (v:=l) rfl a.sl eE)<|ZZ rfl<|cy ?_
 refine cY (σ:=(Nat)×(Value)) [10,10,37,59] (λ(k,v2)=>[(37, .int .i64 (k:Int))]) (λsg W=>match sg with|(k,v2)=>(At W bm _ 298)∧(At W bons _ 315)∧(At W bmays _ 315)∧(At W bi _ 3)∧(At W brest _ 40)∧(Below N w W)∧(cH iD 2 34 W N l _)∧(At W bout #[v2] 212)∧(cH iD 2 34 W N v2 (out++(L.take k).map (iZ i 0)))∧(ft v2 l)∧(k≤L.length)∧(True)) (λ(k,v2)=>L.length-k) ((0,v0)) ⟨rfl,trivial⟩ ⟨hm,hons,hmays,hbi,hrest,hB,a,hout,(by rw[List.take_zero,List.map_nil,abK];exact hown),S,(my _),trivial⟩ ?_
 rintro⟨k,v2⟩ ax ay ⟨hm,hons,hmays,hbi,hrest,hB,a,hout,hown,hap,hk,_⟩ az Z
 refine Zr<|Zv (dq rfl rfl)<|ct<|Zq<|ZQ rfl (λaa=> ?_) λaa=> ?_
 refine cx<|Zq<|cy ?_
 have hck:=hcm (L.getD k ⟨0,0⟩) (dB (by omega))
 obtain⟨hck1,hck2,_,_⟩:=hck
 have hle256:=gj h8
 have hck3:(L.getD k ⟨0,0⟩).v≤(L.getD k ⟨0,0⟩).m:=by rw[←hck2];exact aci
 refine Zr<|Zv (dm (v:=l) rfl a.sl rfl eE Om (by omega))<|Zv (iq rfl dh (dp.cell a.sl gt ⟨0,0⟩ Om (by omega) 0 rfl) (dp.cell a.sl gt ⟨0,0⟩ Om (by omega) 1 rfl))<|Zy (cK gU rfl λC aA D E d=> ?_)
 have F:N≤C:=D▸(go hN0 (Below.size hB))
 have G:=abE (b:=C) a (aa1 D.symm)
 have H:=abE (b:=C) hown (aa1 D.symm)
 obtain⟨hm,hons,hmays,hbi,hrest⟩:=E.k5 hm hons hmays hbi hrest
 replace hB:=cW hB E hN0
 obtain⟨a,hout,hown⟩:=E.k3 a hout hown
 refine Zy (cA rfl rfl dh rfl d rfl rfl λaB e ab=> ?_)
 replace hm:=At.grownAt hm d e Dd
 replace hons:=At.grownAt hons d e Dd
 replace hmays:=At.grownAt hmays d e Dd
 replace hbi:=At.grownAt hbi d e Dd
 replace hrest:=At.grownAt hrest d e Dd
 replace hB:=dg hB e hN0 (λj hj=>by cases hj;exact F)
 replace a:=abg a G e
 replace hout:=At.grownAt hout d e Dd
 replace hown:=abg hown H e
 replace d:=ab
 refine ct<|Zd dC λac I=> ?_
 obtain⟨hm,hons,hmays,hbi,hrest⟩:=I.k5 hm hons hmays hbi hrest
 replace hB:=cW hB I hN0
 obtain⟨a,hout,hown,d⟩:=I.k4 a hout hown d
 have hS:=dC.refl ac
 refine Tf 0 rfl rfl eo hS<|Tk 1 rfl (λ_ hq=>cD (v:= .int .u8 _) rfl dN (At.cell (hq.at d) rfl)) hS<|Tk 2 rfl (λ_ hq=>cD (v:= .int .i64 _) rfl cR (At.cell (hq.at hbi) rfl)) hS<|Tk 3 rfl (λ_ _=>jN (m:=1) rfl rfl Om (by simp only[IntKind.bits];omega) tW) hS<|Tk 4 rfl (λ_ _=>A6 (n:=_) rfl rfl rfl (by show (L.getD k ⟨0,0⟩).m<256;omega) tW) hS<|Tf 5 rfl rfl eo hS<|To 6 rfl (db (v:= .int .u8 _) rfl rfl dN rfl d fD λaC g ad=>⟨.inr ka,?_⟩)
 replace hm:=At.grownAt hm d g Dd
 replace hons:=At.grownAt hons d g Dd
 replace hmays:=At.grownAt hmays d g Dd
 replace hbi:=At.grownAt hbi d g Dd
 replace hrest:=At.grownAt hrest d g Dd
 replace hB:=dg hB g hN0 (λj hj=>by cases hj;exact F)
 replace a:=abg a G g
 replace hout:=At.grownAt hout d g Dd
 replace hown:=abg hown H g
 replace d:=ad
 replace d:At _ _ #[_,_] _:=d
 refine Td<|Zd dC λae J=> ?_
 obtain⟨hm,hons,hmays,hbi,hrest⟩:=J.k5 hm hons hmays hbi hrest
 replace hB:=cW hB J hN0
 obtain⟨a,hout,hown,d⟩:=J.k4 a hout hown d
 have hS:=dC.refl ae
 refine Tf 0 rfl rfl fM hS<|Tk 1 rfl (λ_ hq=>cD (v:= .int .u8 _) rfl dN (At.cell (hq.at d) rfl)) hS<|Ti 2 rfl rfl hS<|Tk 3 rfl (λ_ _=>i7 (m:=0) rfl Tryz.underlying3 Tryz.underlying5 Dd) hS<|Tk 4 rfl (λ_ hq=>cD (v:= .int .i64 _) rfl cR (At.cell (hq.at hbi) rfl)) hS<|Tk 5 rfl (λ_ _=>jN (m:=0) rfl rfl Om (by simp only[IntKind.bits];omega) (by rw[ach];decide)) hS<|Tk 6 rfl (λ_ _=>A6 (n:=_) rfl rfl rfl (by show (L.getD k ⟨0,0⟩).v<256;omega) (by rw[ach];decide)) hS<|Tf 7 rfl rfl fM hS<|To 8 rfl (db (v:= .int .u8 _) rfl rfl dN rfl d fD λaD h af=>⟨.inr ka,?_⟩)
 replace hm:=At.grownAt hm d h Dd
 replace hons:=At.grownAt hons d h Dd
 replace hmays:=At.grownAt hmays d h Dd
 replace hbi:=At.grownAt hbi d h Dd
 replace hrest:=At.grownAt hrest d h Dd
 replace hB:=dg hB h hN0 (λj hj=>by cases hj;exact F)
 replace a:=abg a G h
 replace hout:=At.grownAt hout d h Dd
 replace hown:=abg hown H h
 replace d:=af
 replace d:At _ _ #[_,_] _:=d
 refine Td<|cI<|ZL v2 rfl r8 hout rfl<|Zv (cz rfl dh rfl d)<|Zy (eC (u:= .agg #[_,_]) rfl eE jL rfl Dd Dd λag aE aF K ah=> ?_)
 obtain⟨hm,hons,hmays,hbi,hrest⟩:=K.k5 hm hons hmays hbi hrest
 replace hB:=cW hB K hN0
 obtain⟨a,hout,hown⟩:=K.k3 a hout hown
 refine Zy (jg (v:=v2) (v2:= .slice (some ⟨ag,0,none⟩) 1 1) rfl rfl eE jL Dd hown (eK ah rfl) rfl (mV hB) Am Am λO aG p r ai=> ?_)
 have aj:=ft.app hap ai a
 replace r:=cH.snoc (enc:=iD) (x:=⟨_,_⟩) rfl rfl rfl rfl r
 replace hm:=At.grownOw hm hown p Dd
 replace hons:=At.grownOw hons hown p Dd
 replace hmays:=At.grownOw hmays hown p Dd
 replace hbi:=At.grownOw hbi hown p Dd
 replace hrest:=At.grownOw hrest hown p Dd
 replace hB:=dg hB p hN0 (λj hj=>(cH.lt hown j hj))
 replace a:=cH.grownAp a hap p
 replace hout:=At.grownOw hout hown p Dd
 refine Zy (db (v:=O) rfl rfl r8 (dp.one r.sl) hout fD λaH q ak=> ?_)
 replace hm:=At.grownAt hm hout q Dd
 replace hons:=At.grownAt hons hout q Dd
 replace hmays:=At.grownAt hmays hout q Dd
 replace hbi:=At.grownAt hbi hout q Dd
 replace hrest:=At.grownAt hrest hout q Dd
 replace hB:=dg hB q hN0 (λj hj=>by cases hj;exact loo)
 replace a:=cH.grownAt a hout q Dd
 replace r:=cH.grownAt r hout q Dd
 replace hout:=ak
 replace hout:At _ _ #[_] _:=hout
 refine ct<|ZT rfl rfl rfl ?_
 exact Z _ _ ((k+1,O)) Za ⟨rfl,trivial⟩ ⟨hm,hons,hmays,hbi,hrest,hB,a,hout,(by rw[Fq Om,←abm];exact r),aj,Om,trivial⟩ (by show L.length-(k+1)<L.length-k;omega)
 refine cT ?_
 repeat (first|refine eN ?_|refine ex ?_)
 refine eq ?_
 repeat (first|refine d9 ?_|refine dO ?_)
 refine oe ?_
 have hkL:k=L.length:=by omega
 rw[hkL,aa7]at hown
 exact⟨hB,hm,hons,hmays,hbi,hrest,_,hout,hown⟩
theorem CT1 (n f i on may N bm bons bmays bi brest bout rest:Nat) (v0:Value) (out:List Cb) (w:World) (hN0:N≤w.heap.size) (hih:∀(on may i:Nat) (w:World),n≤8→ox n on may i→n+1-i≤f→f≤9→Fn Tryz.prog 235 #[.agg #[.int .i64 (n:Int),wv (fm n) 0,wv (fm n) 1,wv (fm n) 2,wv (fm n) 3],ej on,ej may, .int .i64 (i:Int)] w λv w'=>cH iD 2 34 w' w.heap.size v (eH n f on may i)) (h8:n≤8) (hg:ox n on may i) (hi:i<n) (hf:n+1-(i+1)≤f) (hf9:f≤8) (hm:At w bm #[.int .i64 (n:Int),wv (fm n) 0,wv (fm n) 1,wv (fm n) 2,wv (fm n) 3] 298) (hons:At w bons (nH (cS on i false) (cS on i true)) 315) (hmays:At w bmays (nH (cS may i false) (cS may i true)) 315) (hbi:At w bi #[.int .i64 (i:Int)] 3) (hrest:At w brest #[wv rest 0,wv rest 1,wv rest 2,wv rest 3] 40) (hout:At w bout #[v0] 212) (hown:cH iD 2 34 w N v0 out) (hlen:out.length≤20000) (lor:N≤brest) (loo:N≤bout):
    lc Tryz.prog 264 #[.int .i64 1, .pointer (some ⟨bm,0,none⟩), .pointer (some ⟨bons,0,none⟩), .pointer (some ⟨bmays,0,none⟩), .pointer (some ⟨bi,0,none⟩), .pointer (some ⟨brest,0,none⟩), .pointer (some ⟨bout,0,none⟩)] w λv w'=>Below N w w'∧At w' bm #[.int .i64 (n:Int),wv (fm n) 0,wv (fm n) 1,wv (fm n) 2,wv (fm n) 3] 298∧At w' bons (nH (cS on i false) (cS on i true)) 315∧At w' bmays (nH (cS may i false) (cS may i true)) 315∧At w' bi #[.int .i64 (i:Int)] 3∧At w' brest #[wv (rest ||| andNot (cS on i true) (l3 (eH n f (andNot (cS on i true) (cS may i false)) (cS may i true) (i+1)) n (eH n f (andNot (cS on i true) (cS may i false)) (cS may i true) (i+1)).length)) 0,wv (rest ||| andNot (cS on i true) (l3 (eH n f (andNot (cS on i true) (cS may i false)) (cS may i true) (i+1)) n (eH n f (andNot (cS on i true) (cS may i false)) (cS may i true) (i+1)).length)) 1,wv (rest ||| andNot (cS on i true) (l3 (eH n f (andNot (cS on i true) (cS may i false)) (cS may i true) (i+1)) n (eH n f (andNot (cS on i true) (cS may i false)) (cS may i true) (i+1)).length)) 2,wv (rest ||| andNot (cS on i true) (l3 (eH n f (andNot (cS on i true) (cS may i false)) (cS may i true) (i+1)) n (eH n f (andNot (cS on i true) (cS may i false)) (cS may i true) (i+1)).length)) 3] 40∧∃v1,At w' bout #[v1] 212∧cH iD 2 34 w' N v1 (out++(eH n f (andNot (cS on i true) (cS may i false)) (cS may i true) (i+1)).map (iZ i 1)):=by
 refine dK (n:=60) (N:=N) Tryz.func264 rfl rfl rfl λhB=> ?_
 have hi8:i<8:=by omega
 refine Zd dC λW3 M=> ?_
 obtain⟨hm,hons,hmays,hbi,hrest,hout,hown⟩:=M.k7 hm hons hmays hbi hrest hout hown
 replace hB:=cW hB M hN0
 have hS:=dC.refl W3
 refine Tk 0 rfl (λ_ hq=>cz rfl rg rfl (hq.at hm)) hS<|Ti 1 rfl rfl hS<|Tk 2 rfl (λ_ _=>fx rfl rfl ij Om Om) hS<|Tk 3 rfl (λ_ hq=>eQ rfl cC (At.cell (hq.at hons) rfl) (At.cell (hq.at hons) rfl) (At.cell (hq.at hons) rfl) (At.cell (hq.at hons) rfl)) hS<|Ti 4 rfl rfl hS<|Tk 5 rfl (λ_ _=>jS rfl rfl Om Om) hS<|Tk 6 rfl (λ_ _=>fx rfl rfl ij Om Om) hS<|Tk 7 rfl (λ_ hq=>eQ rfl cC (At.cell (hq.at hmays) rfl) (At.cell (hq.at hmays) rfl) (At.cell (hq.at hmays) rfl) (At.cell (hq.at hmays) rfl)) hS<|Ti 9 rfl rfl hS<|Tk 10 rfl (λ_ _=>fx rfl rfl ij Om Om) hS<|Tk 11 rfl (λ_ hq=>eQ rfl cC (At.cell (hq.at hmays) rfl) (At.cell (hq.at hmays) rfl) (At.cell (hq.at hmays) rfl) (At.cell (hq.at hmays) rfl)) hS<|Tk 12 rfl (λ_ hq=>cD (v:= .int .i64 _) rfl cR (At.cell (hq.at hbi) rfl)) hS<|Tk 13 rfl (λ_ _=>eB rfl rfl Om Om) hS<|To 8 rfl (TC (vs:=[.agg #[_,_,_,_], .agg #[_,_,_,_]]) ss (l6 _ _ _) rfl λal W5 y P=>⟨.inl (hS.trans y),?_⟩)
 obtain⟨hm,hons,hmays,hbi,hrest,hout,hown⟩:=y.k7 hm hons hmays hbi hrest hout hown
 replace hB:=cW hB y hN0
 replace hS:=hS.trans y
 obtain rfl:=P
 refine To 14 rfl (TC (vs:=[.agg #[_,_,_,_,_], .agg #[_,_,_,_], .agg #[_,_,_,_], .int .i64 _]) xI (hih _ _ (i+1) _ h8 (hg.side h8 hi true) hf (go hf9 Dd)) rfl λl W9 z a=>⟨.inl (hS.trans z),?_⟩)
 have Q:=acL hown
 have R:=(go hN0 (Below.size hB))
 obtain⟨hm,hons,hmays,hbi,hrest,hout,hown⟩:=z.k7 hm hons hmays hbi hrest hout hown
 replace hB:=cW hB z hN0
 replace hS:=hS.trans z
 have S:=ft.new Q a
 replace a:=cH.mono a R
 have hcm:jI n (cS may i true) (i+1) (eH n f (andNot (cS on i true) (cS may i false)) (cS may i true) (i+1)):=(lT h8 f _ _ _ (hg.side h8 hi true) hf).1
 have hcl:=jp (n:=n) f (andNot (cS on i true) (cS may i false)) (cS may i true) (i+1)
 have h3f:3^f≤3^8:=aa8 (by decide) hf9
 try simp only[Bool.not_false,Bool.not_true]at a
 generalize hL:eH n f (andNot (cS on i true) (cS may i false)) (cS may i true) (i+1)=L at*
 refine Tw 15 l rfl rfl hS<|Td<|Zd dC λT B=> ?_
 obtain⟨hm,hons,hmays,hbi,hrest,hout,hown⟩:=B.k7 hm hons hmays hbi hrest hout hown
 replace hB:=cW hB B hN0
 replace a:=B.ow a
 have hS:=dC.refl T
 refine Tk 0 rfl (λ_ hq=>cz rfl cC rfl (hq.at hrest)) hS<|Ti 1 rfl rfl hS<|Tk 2 rfl (λ_ _=>fx rfl rfl ij Om Om) hS<|Tk 3 rfl (λ_ hq=>eQ rfl cC (At.cell (hq.at hons) rfl) (At.cell (hq.at hons) rfl) (At.cell (hq.at hons) rfl) (At.cell (hq.at hons) rfl)) hS<|Tk 4 rfl (λ_ hq=>cz rfl rg rfl (hq.at hm)) hS<|Tw 5 l rfl rfl hS<|To 6 rfl (TC (vs:=[.agg #[_,_,_,_,_],l]) Iy (m8 n _ L _ h8 a.sl (λc hc=>⟨(hcm c hc).1,(hcm c hc).2.1⟩) Om) rfl λao ap s U=>⟨.inl (hS.trans s),?_⟩)
 obtain⟨hm,hons,hmays,hbi,hrest,hout,hown⟩:=s.k7 hm hons hmays hbi hrest hout hown
 replace hB:=cW hB s hN0
 replace a:=s.ow a
 replace hS:=hS.trans s
 obtain rfl:=U
 refine To 7 rfl (TC (vs:=[.agg #[_,_,_,_], .agg #[_,_,_,_]]) ss (l6 _ _ _) rfl λaq ar t V=>⟨.inl (hS.trans t),?_⟩)
 obtain⟨hm,hons,hmays,hbi,hrest,hout,hown⟩:=t.k7 hm hons hmays hbi hrest hout hown
 replace hB:=cW hB t hN0
 replace a:=t.ow a
 replace hS:=hS.trans t
 obtain rfl:=V
 refine To 8 rfl (TC (vs:=[.agg #[_,_,_,_], .agg #[_,_,_,_]]) qj (pq _ _ _) rfl λau av A X=>⟨.inl (hS.trans A),?_⟩)
 obtain⟨hm,hons,hmays,hbi,hrest,hout,hown⟩:=A.k7 hm hons hmays hbi hrest hout hown
 replace hB:=cW hB A hN0
 replace a:=A.ow a
 obtain rfl:=X
 refine To 9 rfl (cA rfl rfl cC rfl hrest rfl rfl λaw o Y=>⟨.inr ka,?_⟩)
 replace hm:=At.grownAt hm hrest o Dd
 replace hons:=At.grownAt hons hrest o Dd
 replace hmays:=At.grownAt hmays hrest o Dd
 replace hbi:=At.grownAt hbi hrest o Dd
 replace hout:=At.grownAt hout hrest o Dd
 replace hown:=cH.grownAt hown hrest o Dd
 replace hB:=dg hB o hN0 (λj hj=>by cases hj;exact lor)
 replace a:=cH.grownAt a hrest o Dd
 replace hrest:=Y
 refine Td<|Zr<|Zw l rfl<|Zv (de (v:=l) rfl a.sl eE)<|ZZ rfl<|cy ?_
 refine cY (σ:=(Nat)×(Value)) [10,10,37,59] (λ(k,v2)=>[(37, .int .i64 (k:Int))]) (λsg W=>match sg with|(k,v2)=>(At W bm _ 298)∧(At W bons _ 315)∧(At W bmays _ 315)∧(At W bi _ 3)∧(At W brest _ 40)∧(Below N w W)∧(cH iD 2 34 W N l _)∧(At W bout #[v2] 212)∧(cH iD 2 34 W N v2 (out++(L.take k).map (iZ i 1)))∧(ft v2 l)∧(k≤L.length)∧(True)) (λ(k,v2)=>L.length-k) ((0,v0)) ⟨rfl,trivial⟩ ⟨hm,hons,hmays,hbi,hrest,hB,a,hout,(by rw[List.take_zero,List.map_nil,abK];exact hown),S,(my _),trivial⟩ ?_
 rintro⟨k,v2⟩ ax ay ⟨hm,hons,hmays,hbi,hrest,hB,a,hout,hown,hap,hk,_⟩ az Z
 refine Zr<|Zv (dq rfl rfl)<|ct<|Zq<|ZQ rfl (λaa=> ?_) λaa=> ?_
 refine cx<|Zq<|cy ?_
 have hck:=hcm (L.getD k ⟨0,0⟩) (dB (by omega))
 obtain⟨hck1,hck2,_,_⟩:=hck
 have hle256:=gj h8
 have hck3:(L.getD k ⟨0,0⟩).v≤(L.getD k ⟨0,0⟩).m:=by rw[←hck2];exact aci
 refine Zr<|Zv (dm (v:=l) rfl a.sl rfl eE Om (by omega))<|Zv (iq rfl dh (dp.cell a.sl gt ⟨0,0⟩ Om (by omega) 0 rfl) (dp.cell a.sl gt ⟨0,0⟩ Om (by omega) 1 rfl))<|Zy (cK gU rfl λC aA D E d=> ?_)
 have F:N≤C:=D▸(go hN0 (Below.size hB))
 have G:=abE (b:=C) a (aa1 D.symm)
 have H:=abE (b:=C) hown (aa1 D.symm)
 obtain⟨hm,hons,hmays,hbi,hrest⟩:=E.k5 hm hons hmays hbi hrest
 replace hB:=cW hB E hN0
 obtain⟨a,hout,hown⟩:=E.k3 a hout hown
 refine Zy (cA rfl rfl dh rfl d rfl rfl λaB e ab=> ?_)
 replace hm:=At.grownAt hm d e Dd
 replace hons:=At.grownAt hons d e Dd
 replace hmays:=At.grownAt hmays d e Dd
 replace hbi:=At.grownAt hbi d e Dd
 replace hrest:=At.grownAt hrest d e Dd
 replace hB:=dg hB e hN0 (λj hj=>by cases hj;exact F)
 replace a:=abg a G e
 replace hout:=At.grownAt hout d e Dd
 replace hown:=abg hown H e
 replace d:=ab
 refine ct<|Zd dC λac I=> ?_
 obtain⟨hm,hons,hmays,hbi,hrest⟩:=I.k5 hm hons hmays hbi hrest
 replace hB:=cW hB I hN0
 obtain⟨a,hout,hown,d⟩:=I.k4 a hout hown d
 have hS:=dC.refl ac
 refine Tf 0 rfl rfl eo hS<|Tk 1 rfl (λ_ hq=>cD (v:= .int .u8 _) rfl dN (At.cell (hq.at d) rfl)) hS<|Tk 2 rfl (λ_ hq=>cD (v:= .int .i64 _) rfl cR (At.cell (hq.at hbi) rfl)) hS<|Tk 3 rfl (λ_ _=>jN (m:=1) rfl rfl Om (by simp only[IntKind.bits];omega) tW) hS<|Tk 4 rfl (λ_ _=>A6 (n:=_) rfl rfl rfl (by show (L.getD k ⟨0,0⟩).m<256;omega) tW) hS<|Tf 5 rfl rfl eo hS<|To 6 rfl (db (v:= .int .u8 _) rfl rfl dN rfl d fD λaC g ad=>⟨.inr ka,?_⟩)
 replace hm:=At.grownAt hm d g Dd
 replace hons:=At.grownAt hons d g Dd
 replace hmays:=At.grownAt hmays d g Dd
 replace hbi:=At.grownAt hbi d g Dd
 replace hrest:=At.grownAt hrest d g Dd
 replace hB:=dg hB g hN0 (λj hj=>by cases hj;exact F)
 replace a:=abg a G g
 replace hout:=At.grownAt hout d g Dd
 replace hown:=abg hown H g
 replace d:=ad
 replace d:At _ _ #[_,_] _:=d
 refine Td<|Zd dC λae J=> ?_
 obtain⟨hm,hons,hmays,hbi,hrest⟩:=J.k5 hm hons hmays hbi hrest
 replace hB:=cW hB J hN0
 obtain⟨a,hout,hown,d⟩:=J.k4 a hout hown d
 have hS:=dC.refl ae
 refine Tf 0 rfl rfl fM hS<|Tk 1 rfl (λ_ hq=>cD (v:= .int .u8 _) rfl dN (At.cell (hq.at d) rfl)) hS<|Ti 2 rfl rfl hS<|Tk 3 rfl (λ_ _=>i7 (m:=1) rfl Tryz.underlying3 Tryz.underlying5 Dd) hS<|Tk 4 rfl (λ_ hq=>cD (v:= .int .i64 _) rfl cR (At.cell (hq.at hbi) rfl)) hS<|Tk 5 rfl (λ_ _=>jN (m:=1) rfl rfl Om (by simp only[IntKind.bits];omega) tW) hS<|Tk 6 rfl (λ_ _=>A6 (n:=_) rfl rfl rfl (by show (L.getD k ⟨0,0⟩).v<256;omega) tW) hS<|Tf 7 rfl rfl fM hS<|To 8 rfl (db (v:= .int .u8 _) rfl rfl dN rfl d fD λaD h af=>⟨.inr ka,?_⟩)
 replace hm:=At.grownAt hm d h Dd
 replace hons:=At.grownAt hons d h Dd
 replace hmays:=At.grownAt hmays d h Dd
 replace hbi:=At.grownAt hbi d h Dd
 replace hrest:=At.grownAt hrest d h Dd
 replace hB:=dg hB h hN0 (λj hj=>by cases hj;exact F)
 replace a:=abg a G h
 replace hout:=At.grownAt hout d h Dd
 replace hown:=abg hown H h
 replace d:=af
 replace d:At _ _ #[_,_] _:=d
 refine Td<|cI<|ZL v2 rfl r8 hout rfl<|Zv (cz rfl dh rfl d)<|Zy (eC (u:= .agg #[_,_]) rfl eE jL rfl Dd Dd λag aE aF K ah=> ?_)
 obtain⟨hm,hons,hmays,hbi,hrest⟩:=K.k5 hm hons hmays hbi hrest
 replace hB:=cW hB K hN0
 obtain⟨a,hout,hown⟩:=K.k3 a hout hown
 refine Zy (jg (v:=v2) (v2:= .slice (some ⟨ag,0,none⟩) 1 1) rfl rfl eE jL Dd hown (eK ah rfl) rfl (mV hB) Am Am λO aG p r ai=> ?_)
 have aj:=ft.app hap ai a
 replace r:=cH.snoc (enc:=iD) (x:=⟨_,_⟩) rfl rfl rfl rfl r
 replace hm:=At.grownOw hm hown p Dd
 replace hons:=At.grownOw hons hown p Dd
 replace hmays:=At.grownOw hmays hown p Dd
 replace hbi:=At.grownOw hbi hown p Dd
 replace hrest:=At.grownOw hrest hown p Dd
 replace hB:=dg hB p hN0 (λj hj=>(cH.lt hown j hj))
 replace a:=cH.grownAp a hap p
 replace hout:=At.grownOw hout hown p Dd
 refine Zy (db (v:=O) rfl rfl r8 (dp.one r.sl) hout fD λaH q ak=> ?_)
 replace hm:=At.grownAt hm hout q Dd
 replace hons:=At.grownAt hons hout q Dd
 replace hmays:=At.grownAt hmays hout q Dd
 replace hbi:=At.grownAt hbi hout q Dd
 replace hrest:=At.grownAt hrest hout q Dd
 replace hB:=dg hB q hN0 (λj hj=>by cases hj;exact loo)
 replace a:=cH.grownAt a hout q Dd
 replace r:=cH.grownAt r hout q Dd
 replace hout:=ak
 replace hout:At _ _ #[_] _:=hout
 refine ct<|ZT rfl rfl rfl ?_
 exact Z _ _ ((k+1,O)) Za ⟨rfl,trivial⟩ ⟨hm,hons,hmays,hbi,hrest,hB,a,hout,(by rw[Fq Om,←abm];exact r),aj,Om,trivial⟩ (by show L.length-(k+1)<L.length-k;omega)
 refine cT ?_
 repeat (first|refine eN ?_|refine ex ?_)
 refine eq ?_
 repeat (first|refine d9 ?_|refine dO ?_)
 refine oe ?_
 have hkL:k=L.length:=by omega
 rw[hkL,aa7]at hown
 exact⟨hB,hm,hons,hmays,hbi,hrest,_,hout,hown⟩
theorem Mo (n f i on may:Nat) (w:World) (hih:∀(on may i:Nat) (w:World),n≤8→ox n on may i→n+1-i≤f→f≤9→Fn Tryz.prog 235 #[.agg #[.int .i64 (n:Int),wv (fm n) 0,wv (fm n) 1,wv (fm n) 2,wv (fm n) 3],ej on,ej may, .int .i64 (i:Int)] w λv w'=>cH iD 2 34 w' w.heap.size v (eH n f on may i)) (h8:n≤8) (hg:ox n on may i) (hf:n+1-i≤f+1) (hf9:f+1≤9):
    Fn Tryz.prog 235 #[.agg #[.int .i64 (n:Int),wv (fm n) 0,wv (fm n) 1,wv (fm n) 2,wv (fm n) 3],ej on,ej may, .int .i64 (i:Int)] w λv w'=>cH iD 2 34 w' w.heap.size v (eH n (f+1) on may i):=by
 refine cM (n:=61) Tryz.func235 rfl rfl rfl λhB=> ?_
 refine Zr<|Zy (dw (c:= #[_,_,_,_,_]) rfl rfl λr W3 aJ U e=> ?_)
 replace hB:=Ze hB U
 refine Zy (dw (c:= #[_,_,_,_]) rfl rfl λV W6 aK X l=> ?_)
 obtain⟨hB,e⟩:=X.k2 hB e
 refine Zy (dw (c:= #[_,_,_,_]) rfl rfl λY W9 Z aa m=> ?_)
 have aL:=Zn Z l.lt
 obtain⟨hB,e,l⟩:=aa.k3 hB e l
 refine Zy (dw (c:= #[_]) rfl rfl λt aM aN ab j=> ?_)
 obtain⟨hB,e,l,m⟩:=ab.k4 hB e l m
 refine Zw (.slice none 0 0) rfl<|ct<|Zq<|cy<|Zr<|Zv (cz rfl cC rfl l)<|Zv (v:=ej 0) (gm)<|Zv (vk rfl rfl)<|Zb rfl<|ct<|ZQ rfl (λE=> ?_) λE=> ?_
 refine Zr<|Zw (.slice none 0 0) rfl<|ct<|Zt<|df (v:= .slice none 0 0) rfl ⟨hB,?_⟩
 rw[eH,if_pos (x7 E)]
 exact cH.nil
 refine Zr<|Zv (cz rfl cC rfl m)<|Zf rfl H6<|Zv (eQ rfl cC (At.cell e rfl) (At.cell e rfl) (At.cell e rfl) (At.cell e rfl))<|Zv (vk rfl rfl)<|Zb rfl<|ct<|ZQ rfl (λH=> ?_) λH=> ?_
 refine Zr<|Zv (j6)<|Zy (eC (u:= .agg #[_,_]) rfl eE jL rfl Dd Dd λO aO ac ad ae=> ?_)
 have af:=ZO ac hB
 replace hB:=Ze hB ad
 refine Zw (.slice (some ⟨O,0,none⟩) 1 1) rfl<|ct<|Zt<|df (v:= .slice (some ⟨O,0,none⟩) 1 1) rfl ⟨hB,?_⟩
 rw[eH,if_neg (λh=>E (vB h)),if_pos (x7 H)]
 exact jf (enc:=iD) (a:=⟨0,0⟩) ae rfl rfl af
 refine cx ?_
 have h0:¬AF on 0=true:=λh=>E (vB h)
 have h1:¬AF may (fm n)=true:=λh=>H (vB h)
 have hi:i<n:=Ts h8 hg h0 h1
 have hf1:n+1-(i+1)≤f:=by omega
 have hi8:i<8:=by omega
 refine Zr<|Zy (cK xT rfl λo aP ag ah g=> ?_)
 have ai:=ZO ag hB
 obtain⟨hB,e,l,m,j⟩:=ah.k5 hB e l m j
 refine Zy (cK xT rfl λx aQ P aj d=> ?_)
 have ak:=ZO P hB
 have Q:=Zn P g.lt
 obtain⟨hB,e,l,m,j,g⟩:=aj.k6 hB e l m j g
 refine ct<|Zq ?_
 replace g:=vV (s:=on) (i:=i) g
 replace d:=vV (s:=may) (i:=i) d
 refine Zr<|ZZ rfl<|cy ?_
 refine cY (σ:=(Nat)) [11,11,26,43] (λk=>[(26, .int .i64 (k:Int))]) (λk W=>(Below w.heap.size w W)∧(At W r _ 298)∧(At W V _ 40)∧(At W Y _ 40)∧(At W t _ 3)∧(At W o (o7 on i k) 315)∧(At W x (o7 may i k) 315)∧(k≤2)∧(True)) (λk=>2-k) (0) ⟨rfl,trivial⟩ ⟨hB,e,l,m,j,g,d,(my _),trivial⟩ ?_
 rintro k aR aS ⟨hB,e,l,m,j,g,d,hk,_⟩ aT al
 refine Zr<|Zv (dq rfl rfl)<|ct<|Zq<|ZQ rfl (λao=> ?_) λao=> ?_
 refine cx<|Zq<|cy<|Zr<|Zi rfl<|ZZ rfl ?_
 refine eP (λa b=>a.grownBy b (some o)) fC (λap aq=> ?_)
 obtain⟨hB,e,l,m,j,g,d⟩:=aq.k7 hB e l m j g d
 have F:=g
 have hS:=World.grownBy.refl ap (some o)
 refine Ti 0 rfl rfl hS<|Ti 1 rfl rfl hS<|Tk 2 rfl (λ_ hq=>cz rfl cC rfl (At.grownAt l F hq Dd)) hS<|Tk 3 rfl (λ_ hq=>cD (v:= .int .i64 _) rfl cR (At.cell (At.grownAt j F hq Dd) rfl)) hS<|Ti 4 rfl rfl hS<|Tk 5 rfl (λ_ _=>dJ rfl rfl) hS<|Tk 7 rfl (λ_ hq=>cz rfl cC rfl (At.grownAt m F hq Dd)) hS<|Tk 8 rfl (λ_ hq=>cD (v:= .int .i64 _) rfl cR (At.cell (At.grownAt j F hq Dd) rfl)) hS<|Ti 9 rfl rfl hS<|Tk 10 rfl (λ_ _=>dJ rfl rfl) hS<|To 6 rfl (TC (vs:=[.agg #[_,_,_,_], .int .i64 _, .bool _]) IP (wQ _ _ _ _) rfl λaU aV I ar=>⟨.inl (cB hS (dC.grown I (some o))),?_⟩)
 obtain⟨hB,e,l,m,j,g,d⟩:=I.k7 hB e l m j g d
 replace hS:=cB hS (dC.grown I (some o))
 obtain rfl:=ar
 rw[if_pos (show 0≤(i:Int)∧(i:Int)<8 by omega)]
 simp only[so]
 refine Tk 12 rfl (λ_ _=>fx rfl rfl ij Om Om) hS<|To 11 rfl (TC (vs:=[.agg #[_,_,_,_], .int .i64 _, .bool _]) IP (wQ _ _ _ _) rfl λaW aX J au=>⟨.inl (cB hS (dC.grown J (some o))),?_⟩)
 obtain⟨hB,e,l,m,j,g,d⟩:=J.k7 hB e l m j g d
 replace hS:=cB hS (dC.grown J (some o))
 obtain rfl:=au
 rw[if_pos (show 0≤(i:Int)∧(i:Int)<8 by omega)]
 simp only[so]
 refine To 13 rfl (iO rfl rfl cC rfl g (by rw[r9];omega) rfl λaY B av=>⟨.inl (cB hS B),?_⟩)
 replace hS:=cB hS B
 replace hB:=Zg hB B ai
 replace e:=At.grownAt e g B Dd
 replace l:=At.grownAt l g B Dd
 replace m:=At.grownAt m g B Dd
 replace j:=At.grownAt j g B Dd
 replace d:=At.grownNe d (Ne.symm Q) B
 replace g:=av
 try simp only[so]at g
 rw[ug (by omega)]at g
 refine Tk 14 rfl (λ_ _=>fx rfl rfl ij Om Om) hS<|To 15 rfl (iO rfl rfl cC rfl d (by rw[r9];omega) rfl λaZ D aw=>⟨.inr ka,?_⟩)
 replace hB:=Zg hB D ak
 replace e:=At.grownAt e d D Dd
 replace l:=At.grownAt l d D Dd
 replace m:=At.grownAt m d D Dd
 replace j:=At.grownAt j d D Dd
 replace g:=At.grownNe g Q D
 replace d:=aw
 try simp only[so]at d
 rw[ug (by omega)]at d
 refine Td<|ZT rfl rfl rfl ?_
 exact al _ _ (k+1) Za ⟨rfl,trivial⟩ ⟨hB,e,l,m,j,(by exact g),(by exact d),Om,trivial⟩ Zo
 refine cT ?_
 obtain rfl:k=2:=by omega
 replace g:At _ _ (nH (cS on i false) (cS on i true)) _:=g
 replace d:At _ _ (nH (cS may i false) (cS may i true)) _:=d
 refine Zr<|Zy (cK SZ rfl λC a0 ax ay y=> ?_)
 have R:=ZO ax hB
 obtain⟨hB,e,j,g,d⟩:=ay.k5 hB e j g d
 refine ct<|Zr<|Zy (cK el rfl λz az aA aB A=> ?_)
 have S:=ZO aA hB
 obtain⟨hB,e,j,g,d,y⟩:=aB.k6 hB e j g d y
 replace A:At az z #[wv 0 0,wv 0 1,wv 0 2,wv 0 3] 40:=A
 refine ct<|Zr<|Zv (eS (vs:= #[.pointer (some ⟨r,0,none⟩), .pointer (some ⟨o,0,none⟩), .pointer (some ⟨x,0,none⟩), .pointer (some ⟨t,0,none⟩), .pointer (some ⟨z,0,none⟩), .pointer (some ⟨C,0,none⟩)]) AO)<|Zw (.func (.func 264) #[] #[.pointer (some ⟨r,0,none⟩), .pointer (some ⟨o,0,none⟩), .pointer (some ⟨x,0,none⟩), .pointer (some ⟨t,0,none⟩), .pointer (some ⟨z,0,none⟩), .pointer (some ⟨C,0,none⟩)]) rfl<|ct ?_
 have hca:=(lT h8 f _ _ _ (hg.side h8 hi false) hf1)
 have hcb:=(lT h8 f _ _ _ (hg.side h8 hi true) hf1)
 have hgr:=hg.rest h8 hi hca.1 hcb.1 hca.2 hcb.2
 have hla:=jp (n:=n) f (andNot (cS on i false) (cS may i true)) (cS may i false) (i+1)
 have hlb:=jp (n:=n) f (andNot (cS on i true) (cS may i false)) (cS may i true) (i+1)
 have h3f:3^f≤3^8:=aa8 (by decide) (by omega)
 refine Zr<|Zw (.func (.func 264) #[] #[.pointer (some ⟨r,0,none⟩), .pointer (some ⟨o,0,none⟩), .pointer (some ⟨x,0,none⟩), .pointer (some ⟨t,0,none⟩), .pointer (some ⟨z,0,none⟩), .pointer (some ⟨C,0,none⟩)]) rfl ?_
 refine mQ (dd:=some 46) rfl rfl rfl (ip (q:=264) (first:= #[]) (cap:= #[.pointer (some ⟨r,0,none⟩), .pointer (some ⟨o,0,none⟩), .pointer (some ⟨x,0,none⟩), .pointer (some ⟨t,0,none⟩), .pointer (some ⟨z,0,none⟩), .pointer (some ⟨C,0,none⟩)]) (vs:= #[.int .i64 0, .pointer (some ⟨r,0,none⟩), .pointer (some ⟨o,0,none⟩), .pointer (some ⟨x,0,none⟩), .pointer (some ⟨t,0,none⟩), .pointer (some ⟨z,0,none⟩), .pointer (some ⟨C,0,none⟩)]) rfl Ka GD) (CT0 n f i on may w.heap.size _ _ _ _ _ _ 0 _ [] _ (Below.size hB) hih h8 hg hi hf1 Om e g d j A y cH.nil fD S R) (λa1 a2 aC=> ?_)
 obtain⟨hBt,e,g,d,j,A,vt0,y,hot0⟩:=aC
 replace hB:=Below.trans hB hBt
 refine ct<|Zr<|Zw (.func (.func 264) #[] #[.pointer (some ⟨r,0,none⟩), .pointer (some ⟨o,0,none⟩), .pointer (some ⟨x,0,none⟩), .pointer (some ⟨t,0,none⟩), .pointer (some ⟨z,0,none⟩), .pointer (some ⟨C,0,none⟩)]) rfl ?_
 refine mQ (dd:=some 48) rfl rfl rfl (ip (q:=264) (first:= #[]) (cap:= #[.pointer (some ⟨r,0,none⟩), .pointer (some ⟨o,0,none⟩), .pointer (some ⟨x,0,none⟩), .pointer (some ⟨t,0,none⟩), .pointer (some ⟨z,0,none⟩), .pointer (some ⟨C,0,none⟩)]) (vs:= #[.int .i64 1, .pointer (some ⟨r,0,none⟩), .pointer (some ⟨o,0,none⟩), .pointer (some ⟨x,0,none⟩), .pointer (some ⟨t,0,none⟩), .pointer (some ⟨z,0,none⟩), .pointer (some ⟨C,0,none⟩)]) rfl Ka GD) (CT1 n f i on may w.heap.size _ _ _ _ _ _ _ _ _ _ (Below.size hB) hih h8 hg hi hf1 Om e g d j A y hot0 iw S R) (λa3 a4 aD=> ?_)
 obtain⟨hBt,e,g,d,j,A,vt1,y,hot1⟩:=aD
 replace hB:=Below.trans hB hBt
 refine ct<|Zd (λa b=>a.grownBy b vt1.ownBlock) λaE aF=> ?_
 obtain⟨hB,e,j,d,y,A,hot1⟩:=aF.k7 hB e j d y A hot1
 have p:=hot1
 have hS:=World.grownBy.refl aE vt1.ownBlock
 refine Tk 0 rfl (λ_ hq=>cD (v:=vt1) rfl r8 (At.cell (At.grownOw y p hq Dd) rfl)) hS<|Tk 1 rfl (λ_ hq=>cz rfl rg rfl (At.grownOw e p hq Dd)) hS<|Tk 2 rfl (λ_ hq=>cz rfl cC rfl (At.grownOw A p hq Dd)) hS<|Tk 3 rfl (λ_ _=>fx rfl rfl ij Om Om) hS<|Tk 4 rfl (λ_ hq=>eQ rfl cC (At.cell (At.grownOw d p hq Dd) rfl) (At.cell (At.grownOw d p hq Dd) rfl) (At.cell (At.grownOw d p hq Dd) rfl) (At.cell (At.grownOw d p hq Dd) rfl)) hS<|Tk 5 rfl (λ_ _=>fx rfl rfl ij Om Om) hS<|Tk 6 rfl (λ_ hq=>eQ rfl cC (At.cell (At.grownOw d p hq Dd) rfl) (At.cell (At.grownOw d p hq Dd) rfl) (At.cell (At.grownOw d p hq Dd) rfl) (At.cell (At.grownOw d p hq Dd) rfl)) hS<|Tk 8 rfl (λ_ hq=>cD (v:= .int .i64 _) rfl cR (At.cell (At.grownOw j p hq Dd) rfl)) hS<|Tk 9 rfl (λ_ _=>eB rfl rfl Om Om) hS<|To 7 rfl (TC (vs:=[.agg #[_,_,_,_], .agg #[_,_,_,_]]) tH (pB _ _ _) rfl λa5 a6 K aG=>⟨.inl (cB hS (dC.grown K vt1.ownBlock)),?_⟩)
 obtain⟨hB,hot1⟩:=K.k2 hB hot1
 replace hS:=cB hS (dC.grown K vt1.ownBlock)
 obtain rfl:=aG
 refine To 10 rfl (TC (vs:=[.agg #[_,_,_,_,_], .agg #[_,_,_,_], .agg #[_,_,_,_], .int .i64 _]) xI (hih _ _ (i+1) _ h8 hgr hf1 (go (Nat.le_succ f) hf9)) rfl λaH a7 L G=>⟨.inl (cB hS (dC.grown L vt1.ownBlock)),?_⟩)
 have a8:=acL hot1
 have aI:=(Below.size hB)
 obtain⟨hB,hot1⟩:=L.k2 hB hot1
 replace hS:=cB hS (dC.grown L vt1.ownBlock)
 replace G:=cH.mono G aI
 try simp only[Bool.not_false,Bool.not_true]at G
 have hlc:=jp (n:=n) f (vm n (cS on i false) (cS on i true) (eH n f (andNot (cS on i false) (cS may i true)) (cS may i false) (i+1)) (eH n f (andNot (cS on i true) (cS may i false)) (cS may i true) (i+1))) (cS may i false &&& cS may i true) (i+1)
 refine To 11 rfl (jg (v:=vt1) (v2:=aH) rfl rfl eE jL Dd hot1 G.sl (qe) (mV hB) (by simp only[abG,An,aby,Nat.zero_or];have hlc2:=hlc;unfold vm at hlc2;omega) (by simp only[abG,An,aby,Nat.zero_or];have hlc2:=hlc;unfold vm at hlc2;omega) λT a9 M N ba=>⟨.inl (cB hS M),?_⟩)
 replace hS:=cB hS M
 replace N:=cH.app (enc:=iD) rfl rfl rfl rfl N
 replace hB:=ZG hB M hot1
 refine Tw 12 T rfl rfl hS<|Td<|Zt<|df (v:=T) rfl ⟨hB,?_⟩
 rw[eH,if_neg h0,if_neg h1]
 exact N
end
section
open Go Go.RowKit
theorem RM:dW Tryz.prog 298=some (.agg #[.int .i64 0, .int .u64 0, .int .u64 0, .int .u64 0, .int .u64 0]):=by kernel_rfl
theorem KP:(Tryz.prog.info? 40).map (·.size)=some 4:=by kernel_rfl
theorem xE {f:Nat→Value} {w:World} {d:Option Nat} {ty:TypeId} {ps:String} {af:Array Edge} {g:Option (Nat×Bool)} {x0 x1:Operand} {c0_0 c1_0 c1_1 c1_2 c1_3:Value} (h0:dk f x0=c0_0) (k0:c0_0.cells= #[c0_0]) (h1:dk f x1= .agg #[c1_0,c1_1,c1_2,c1_3]):
    (execOp (dk f) ⟨d, .build 298 #[(0,x0),(1,x1)],ty,ps,af,g⟩).run Tryz.prog w= .ok (.value (.agg #[c0_0,c1_0,c1_1,c1_2,c1_3])) w:=by
  obtain⟨i0,hi0,hz0⟩:=Do.1 (show (Tryz.prog.info? 298).bind (·.zero)=_ from RM)
  obtain⟨j3,hj3,hs3⟩:=an.1 fN
  obtain⟨j40,hj40,hs40⟩:=an.1 KP
  simp[execOp,h0,k0,h1,Instr.build,zeroValue,typeInfo,sizeOf,hi0,hz0,run_underlying Tryz.underlying298,Instr.fill,d7,hj3,hs3,hj40,hs40]
theorem Qw:cX Tryz.prog 195=true:=by kernel_rfl
theorem RC:cX Tryz.prog 196=true:=by kernel_rfl
theorem I7 (n:Nat):∀(f:Nat),∀(on may i:Nat) (w:World),n≤8→ox n on may i→n+1-i≤f→f≤9→Fn Tryz.prog 235 #[.agg #[.int .i64 (n:Int),wv (fm n) 0,wv (fm n) 1,wv (fm n) 2,wv (fm n) 3],ej on,ej may, .int .i64 (i:Int)] w λv w'=>cH iD 2 34 w' w.heap.size v (eH n f on may i)
  |0,on,may,i,w,_,hg,hf,_=>by have:=hg.le;omega
  |f+1,on,may,i,w,h8,hg,hf,hf9=>Mo n f i on may w (I7 n f) h8 hg hf hf9
theorem DU (on may:Nat) (n:Int) (w:World):
    Fn Tryz.prog 195 #[ej on,ej may, .int .i64 n] w λv w'=>if BD on may n=true then ∃x,v= .tuple #[x, .int .i64 0]∧cH iD 2 34 w' w.heap.size x (kc on may n)else v= .tuple #[.slice none 0 0, .int .i64 1]:=by
 refine cM (n:=35) Tryz.func195 rfl rfl rfl λhB=> ?_
 refine Zr<|Zy (dw (c:= #[_,_,_,_]) rfl rfl λH W3 I m a=> ?_)
 replace hB:=Ze hB m
 refine Zy (dw (c:= #[_,_,_,_]) rfl rfl λJ W6 K o b=> ?_)
 obtain⟨hB,a⟩:=o.k2 hB a
 refine Zw (.slice none 0 0) rfl<|ZZ rfl<|Zr<|Zi rfl<|ZC vU (nA _ _) rfl λL M p q=> ?_
 obtain⟨hB,a,b⟩:=p.k3 hB a b
 obtain⟨sa,er,rfl,hhP1_1⟩:=sU q
 refine Zw (.tuple #[.agg #[_,_,_,_], .int .i64 _]) rfl<|Zv (cZ rfl)<|Zv (c7 rfl)<|Zy (cK el rfl λr s f t d=> ?_)
 have u:=ZO f hB
 have y:=Zn f a.lt
 have z:=Zn f b.lt
 obtain⟨hB,a,b⟩:=t.k3 hB a b
 replace d:At s r #[wv 0 0,wv 0 1,wv 0 2,wv 0 3] 40:=d
 refine Zy (cA rfl rfl cC rfl d rfl rfl λN g A=> ?_)
 replace hB:=Zg hB g u
 replace a:=At.grownNe a y g
 replace b:=At.grownNe b z g
 replace d:=A
 refine ZZ rfl<|Zq<|Zr<|Zi rfl<|Zv (e7 rfl rfl)<|ZX rfl (λe=> ?_) λe=> ?_
 refine Zs<|Zs<|Zs<|Zs<|Zb rfl<|Zb rfl<|Zs<|Zs<|Zs<|Zs<|Zb rfl<|ct<|cQ rfl<|Zr ?_
 refine Zw (.slice none 0 0) rfl<|ZZ rfl<|Zt<|dG (v:= .slice none 0 0) rfl (v1:= .int .i64 1) rfl ⟨hB,?_⟩
 rw[if_neg (Qq hhP1_1 e)]
 refine Zv (cz rfl cC rfl a)<|Zv (cz rfl cC rfl b)<|ZC (vs:=[.agg #[_,_,_,_], .agg #[_,_,_,_]]) oW (gN _ _ _) rfl λO P B C=> ?_
 obtain⟨hB,a,b,d⟩:=B.k4 hB a b d
 obtain rfl:=C
 refine Zv (eR rfl)<|Zb rfl<|ZX rfl (λi=> ?_) λi=> ?_
 refine Zs<|Zs<|Zs<|Zs<|Zb rfl<|ct<|cQ rfl<|Zr<|Zw (.slice none 0 0) rfl<|ZZ rfl<|Zt<|dG (v:= .slice none 0 0) rfl (v1:= .int .i64 1) rfl ⟨hB,?_⟩
 rw[if_neg (QU i)]
 refine Zv (cz rfl cC rfl b)<|Zv (cz rfl cC rfl d)<|ZC (vs:=[.agg #[_,_,_,_], .agg #[_,_,_,_]]) oW (gN _ _ _) rfl λQ R D E=> ?_
 obtain⟨hB,a,b,d⟩:=D.k4 hB a b d
 obtain rfl:=E
 refine Zv (eR rfl)<|Zb rfl<|ct<|ZQ rfl (λj=> ?_) λj=> ?_
 refine Zr<|Zw (.slice none 0 0) rfl<|ZZ rfl<|Zt<|dG (v:= .slice none 0 0) rfl (v1:= .int .i64 1) rfl ⟨hB,?_⟩
 rw[if_neg (QM hhP1_1 e j)]
 refine cx ?_
 have hok:BD on may n=true:=VV hhP1_1 e i j
 obtain⟨h0,h8,rfl,rfl⟩:=hhP1_1.resolve_right (λh=>h.1 (lg (kF.1 hok).1))
 obtain⟨n,rfl⟩:=abj h0
 obtain⟨hok8,hok9⟩:=CP hok
 refine Zr<|Zi rfl<|Zv (cz rfl cC rfl d)<|Zv (xE (h0:=rfl) (k0:=rfl) (h1:=rfl) (c0_0:= .int .i64 _))<|Zv (cz rfl cC rfl a)<|Zv (cz rfl cC rfl b)<|ZC (vs:=[.agg #[_,_,_,_,_], .agg #[_,_,_,_], .agg #[_,_,_,_], .int .i64 0]) xI (I7 n (n+1) on may 0 _ hok8 hok9 Om Om) rfl λl S F k=> ?_
 have G:=(Below.size hB)
 replace hB:=Ze hB F
 replace k:=cH.mono k G
 refine Zw l rfl<|ZZ rfl<|Zt<|dG (v:=l) rfl (v1:= .int .i64 0) rfl ⟨hB,?_⟩
 rw[if_pos hok]
 exact⟨_,rfl,k⟩
theorem Dp (on may:Nat) (n:Int) (w:World):
    Fn Tryz.prog 149 #[ej on,ej may, .int .i64 n] w λv w'=>if BD on may n=true then ∃x,v= .tuple #[x, .int .i64 0]∧cH iD 2 34 w' w.heap.size x (Ic may n (kc on may n))else v= .tuple #[.slice none 0 0, .int .i64 1]:=by
 refine cM (n:=52) Tryz.func149 rfl rfl rfl λhB=> ?_
 refine Zr<|Zy (dw (c:= #[_,_,_,_]) rfl rfl λE W3 ah F f=> ?_)
 replace hB:=Ze hB F
 refine Zy (dw (c:= #[_,_,_,_]) rfl rfl λG W6 ai H g=> ?_)
 obtain⟨hB,f⟩:=H.k2 hB f
 refine Zw (.slice none 0 0) rfl<|ZZ rfl<|Zr<|Zv (cz rfl cC rfl f)<|Zv (cz rfl cC rfl g)<|Zi rfl<|ZC (vs:=[.agg #[_,_,_,_], .agg #[_,_,_,_], .int .i64 _]) Qw (DU _ _ _ _) rfl λaj ak I J=> ?_
 have K:=(Below.size hB)
 obtain⟨hB,f,g⟩:=I.k3 hB f g
 obtain⟨x_hP1_3,er_hP1_3,l_hP1_3,rfl,ho_hP1_3,hc_hP1_3⟩:=Kh J
 replace ho_hP1_3:=cH.mono ho_hP1_3 K
 refine Zw (.tuple #[x_hP1_3, .int .i64 _]) rfl<|Zv (cZ rfl)<|Zv (c7 rfl)<|Zw x_hP1_3 rfl<|ZZ rfl<|Zq<|Zr<|Zi rfl<|Zv (e7 rfl rfl)<|ct<|ZQ rfl (λr=> ?_) λr=> ?_
 refine Zr<|Zi rfl<|Zw (.slice none 0 0) rfl<|ZZ rfl<|Zt<|dG (v:= .slice none 0 0) rfl (v1:= .int .i64 _) rfl ⟨hB,?_⟩
 obtain⟨hno,hee⟩:=VG hc_hP1_3 r
 rw[if_neg hno,hee]
 refine cx ?_
 obtain⟨hok,hleq⟩:=Ob hc_hP1_3 r
 subst hleq
 have hll:=Ex (on:=on) (may:=may) (lg (kF.1 hok).1).2
 refine Zr<|Zy (g7 (enc:=jo) (encV:=Value.bool) λp al L M e=> ?_)
 have N:=ZO L hB
 obtain⟨hB,f,g,ho_hP1_3⟩:=M.k4 hB f g ho_hP1_3
 replace e:dy jo Value.bool _ _ (fz []):=e
 refine Zw (.map (some p)) rfl<|ct<|Zr<|Zw (.slice none 0 0) rfl<|ct<|Zq<|Zr<|Zw x_hP1_3 rfl<|Zv (de (v:=x_hP1_3) rfl ho_hP1_3.sl eE)<|ZZ rfl<|cy ?_
 refine cY (σ:=(Nat)×(Value)) [11,11,13,15,29,50] (λ(k,v0)=>[(29, .int .i64 (k:Int)),(11,v0)]) (λsg W=>match sg with|(k,v0)=>(Below w.heap.size w W)∧(At W E _ 40)∧(At W G _ 40)∧(cH iD 2 34 W w.heap.size x_hP1_3 _)∧(dy jo Value.bool W p (fz (kE may n (kc on may n) k)))∧(ft v0 x_hP1_3)∧(cH iD 2 34 W w.heap.size v0 (kE may n (kc on may n) k))∧(k≤(kc on may n).length)∧(True)) (λ(k,v0)=>(kc on may n).length-k) ((0, .slice none 0 0)) ⟨rfl,rfl,trivial⟩ ⟨hB,f,g,ho_hP1_3,e,adh,cH.nil,(my _),trivial⟩ ?_
 rintro⟨k,v0⟩ ao ap ⟨hB,f,g,ho_hP1_3,e,hap,ho,hk,_⟩ aq z
 refine Zr<|Zv (dq rfl rfl)<|ct<|Zq<|ZQ rfl (λO=> ?_) λO=> ?_
 refine cx<|Zq<|cy<|Zr<|Zv (dm (v:=x_hP1_3) rfl ho_hP1_3.sl rfl eE Om (by omega))<|Zv (iq rfl dh (dp.cell ho_hP1_3.sl gt ⟨0,0⟩ Om (by omega) 0 rfl) (dp.cell ho_hP1_3.sl gt ⟨0,0⟩ Om (by omega) 1 rfl))<|Zy (cK gU rfl λA ar s P i=> ?_)
 have Q:=ZO s hB
 have R:=abE (b:=A) ho_hP1_3 (aa1 s.symm)
 have S:=abE (b:=A) ho (aa1 s.symm)
 obtain⟨hB,f,g,ho_hP1_3,e,ho⟩:=P.k6 hB f g ho_hP1_3 e ho
 refine Zy (cA rfl rfl dh rfl i rfl rfl λau j T=> ?_)
 replace hB:=Zg hB j Q
 replace f:=At.grownAt f i j Dd
 replace g:=At.grownAt g i j Dd
 replace ho_hP1_3:=abg ho_hP1_3 R j
 replace e:=dy.grownAt e i j
 replace ho:=abg ho S j
 replace i:=T
 refine ct ?_
 obtain⟨hi1,hi2,hi3,hi4⟩:=xJ hok (dB (d:=⟨0,0⟩) (show k<(kc on may n).length by omega))
 have hgl:=rP may n (kc on may n) k
 refine Zr<|Zv (cz rfl dh rfl i)<|Zv (cz rfl cC rfl g)<|Zi rfl<|ZC (vs:=[.agg #[_,_], .agg #[_,_,_,_], .int .i64 _]) RC (Cv ((kc on may n).getD k ⟨0,0⟩) may n _ ⟨hi2,hi3⟩) rfl λav aw U B=> ?_
 obtain⟨hB,f,g,ho_hP1_3,e,ho,i⟩:=U.k7 hB f g ho_hP1_3 e ho i
 rw[if_pos hi1]at B
 obtain rfl:=B
 refine Zw (.tuple #[.agg #[_,_], .int .i64 _]) rfl<|Zv (cZ rfl)<|Zv (c7 rfl)<|Zy (cK gU rfl λC ax t V h=> ?_)
 have X:=ZO t hB
 have Y:=abE (b:=C) ho_hP1_3 (aa1 t.symm)
 have Z:=abE (b:=C) ho (aa1 t.symm)
 obtain⟨hB,f,g,ho_hP1_3,e,ho⟩:=V.k6 hB f g ho_hP1_3 e ho
 refine Zy (cA rfl rfl dh rfl h rfl rfl λay l aa=> ?_)
 replace hB:=Zg hB l X
 replace f:=At.grownAt f h l Dd
 replace g:=At.grownAt g h l Dd
 replace ho_hP1_3:=abg ho_hP1_3 Y l
 replace e:=dy.grownAt e h l
 replace ho:=abg ho Z l
 replace h:=aa
 refine ZZ rfl<|Zr<|Zw (.map (some p)) rfl<|Zv (cz rfl dh rfl h)<|Zv (fR (enc:=jo) (encV:=Value.bool) (v0:=false) (k:=(lz may n ((kc on may n).getD k ⟨0,0⟩))) rfl rfl kr ob (λa=>⟨a,rfl⟩) nV rz rfl e)<|Zv (eR rfl)<|ct<|ZQ rfl (λq=> ?_) λq=> ?_
 refine Zr<|Zw (.map (some p)) rfl<|Zv (cz rfl dh rfl h) ?_
 refine gM (dd:=none) rfl rfl rfl (fK (enc:=jo) (encV:=Value.bool) (k:=(lz may n ((kc on may n).getD k ⟨0,0⟩))) (v:=true) rfl rfl rfl kr ob (λa=>⟨a,rfl⟩) nV e (λaz m ab=> ?_))
 replace hB:=Zg hB m N
 replace f:=At.grownMap f e m
 replace g:=At.grownMap g e m
 replace ho_hP1_3:=cH.grownMap ho_hP1_3 e m
 replace ho:=cH.grownMap ho e m
 replace h:=At.grownMap h e m
 replace e:=ab
 rw[jX]at e
 refine ct<|cI<|Zw v0 rfl<|Zv (cz rfl dh rfl h)<|Zy (eC (u:= .agg #[_,_]) rfl eE jL rfl Dd Dd λac aA aB ad ae=> ?_)
 obtain⟨hB,f,g,ho_hP1_3,e,ho⟩:=ad.k6 hB f g ho_hP1_3 e ho
 refine Zy (jg (v:=v0) (v2:= .slice (some ⟨ac,0,none⟩) 1 1) rfl rfl eE jL Dd ho (eK ae rfl) rfl (mV hB) (by omega) (by omega) λD aC o y af=> ?_)
 have ag:=ft.app hap af ho_hP1_3
 replace y:=cH.snoc (enc:=iD) (x:=(lz may n ((kc on may n).getD k ⟨0,0⟩))) rfl rfl rfl rfl y
 replace hB:=ZG hB o ho
 replace f:=At.grownOw f ho o Dd
 replace g:=At.grownOw g ho o Dd
 replace ho_hP1_3:=cH.grownAp ho_hP1_3 hap o
 replace e:=dy.grownOw e ho o
 refine Zw D rfl<|ct<|ZT rfl rfl rfl ?_
 exact z _ _ ((k+1,D)) Za ⟨rfl,rfl,trivial⟩ ⟨hB,f,g,ho_hP1_3,(by exact e),ag,(by (rw[kE,EA (MA (kk:=lz may n ((kc on may n).getD k ⟨0,0⟩)) q)];exact y)),Om,trivial⟩ (by show (kc on may n).length-(k+1)<(kc on may n).length-k;omega)
 refine cx<|ZT rfl rfl rfl ?_
 exact z _ _ ((k+1,v0)) Za ⟨rfl,rfl,trivial⟩ ⟨hB,f,g,ho_hP1_3,(by (rw[kE,zP (Pb (kk:=lz may n ((kc on may n).getD k ⟨0,0⟩)) q)];exact e)),hap,(by (rw[kE,zP (Pb (kk:=lz may n ((kc on may n).getD k ⟨0,0⟩)) q)];exact ho)),Om,trivial⟩ (by show (kc on may n).length-(k+1)<(kc on may n).length-k;omega)
 refine cT<|Zr<|Zw v0 rfl<|Zw v0 rfl<|ZZ rfl<|Zt<|dG (v:=v0) rfl (v1:= .int .i64 0) rfl ⟨hB,?_⟩
 obtain rfl:k=(kc on may n).length:=by omega
 rw[if_pos hok]
 exact⟨_,rfl,ho⟩
end
end Go.Proofs.YtedeonkjellcpaaGreatDoor
