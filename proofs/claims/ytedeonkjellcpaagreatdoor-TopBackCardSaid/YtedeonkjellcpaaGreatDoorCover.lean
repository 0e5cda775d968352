/- The walks of what rows cover, and of the document's rows, primes and growing. The plain law of texts: what is printed is read as it; what is read is right. No program in it. What a table asks for, in plain words. No program in it. Operations of a region that may come in any order, taken together: wh -/
import Derived.Test.YtedeonkjellcpaaGreatDoorCov
namespace Go.Proofs.YtedeonkjellcpaaGreatDoor
set_option linter.unusedVariables false
set_option linter.unusedSimpArgs false
section
open Go Go.RowKit
theorem pS:cX Tryz.prog 131=true:=by kernel_rfl
theorem I2:cX Tryz.prog 105=true:=by kernel_rfl
theorem P3:cX Tryz.prog 200=true:=by kernel_rfl
theorem yh (S:Sp) (onV mayV:Value) (xa:Value) (l:List Rw) (w:World) (hon:dh fT 4 w onV S.on) (hmay:dh fT 4 w mayV S.may) (hl:dh gv 3 w xa l) (hlb:l.length≤2000000) (hlr:ix l) (h4:S.on.length≤20):
    Fn Tryz.prog 105 #[.agg #[.int .i64 S.n,onV,mayV],xa] w λv w'=>v= .bool (mQ S l):=by
 refine cH (n:=35) Tryz.func105 rfl rfl rfl λhB=> ?_
 refine Zr<|Zy (dt (c:= #[_,_,_]) rfl rfl λj W3 H p a=> ?_)
 replace hB:=Ze hB p
 refine Zb rfl<|ct<|Zq<|Zr<|Zw xa rfl<|Zv (cT (v:=xa) rfl (Below.slT hB hl) dM)<|ZZ rfl<|cx ?_
 refine cS (σ:=(Nat)) [4,4,6,6,9,34] (λk=>[(9, .int .i64 (k:Int))]) (λk W=>(Below w.heap.size w W)∧(At W j _ 59)∧(k≤l.length)∧(∀q,q<k→Pr S (l.getD q ⟨⟨0,0⟩,0⟩)=true)∧(True)) (λk=>l.length-k) (0) ⟨rfl,trivial⟩ ⟨hB,a,(my _),ef,trivial⟩ ?_
 rintro k I J ⟨hB,a,hk,hq,_⟩ K r
 refine Zr<|Zv (dk rfl rfl)<|ct<|Zq<|ZQ rfl (λs=> ?_) λs=> ?_
 refine cu<|Zq<|cx ?_
 obtain⟨t,u,L⟩:=hlr.get (k:=k) (by omega)
 refine Zr<|Zv (df (v:=xa) rfl (Below.slT hB hl) rfl dM Om (by omega))<|Zv (gH rfl dP (dh.cell (Below.slT hB hl) eh ⟨⟨0,0⟩,0⟩ Om (by omega) 0 rfl) (dh.cell (Below.slT hB hl) eh ⟨⟨0,0⟩,0⟩ Om (by omega) 1 rfl) (dh.cell (Below.slT hB hl) eh ⟨⟨0,0⟩,0⟩ Om (by omega) 2 rfl))<|Zy (cI jD rfl λM N y z b=> ?_)
 have A:=ZO y hB
 obtain⟨hB,a⟩:=z.k2 hB a
 refine Zy (cz rfl rfl dP rfl b rfl rfl λO h B=> ?_)
 replace hB:=Zg hB h A
 replace a:=At.grownAt a b h Dd
 replace b:=B
 refine ct<|Zd dz λC D=> ?_
 obtain⟨hB,a,b⟩:=D.k3 hB a b
 have hS:=dz.refl C
 refine Tf 0 rfl rfl gE hS<|Tk 1 rfl (λ_ hq=>fD rfl cZ (At.cell (hq.at b) rfl) (At.cell (hq.at b) rfl)) hS<|Tf 2 rfl rfl iF hS<|Tk 3 rfl (λ_ hq=>cB (v:= .int .i64 _) rfl cK (At.cell (hq.at a) rfl)) hS<|To 4 rfl (TC (vs:=[.agg #[_,_], .int .i64 _]) C3 (na _ _ _ _ t u) rfl λP Q d E=>⟨.inl (hS.trans d),?_⟩)
 have F:=hB
 have G:=a
 have i:=b
 obtain⟨hB,a⟩:=d.k2 hB a
 replace hS:=hS.trans d
 obtain rfl:=E
 refine Tk 5 rfl (λ_ _=>eR rfl) hS<|Tx 6 rfl (λ_ _=>jL (v:= .bool _) rfl) hS (λe=> ?_) λe=> ?_
 refine Tp 7 rfl hS<|Tp 8 rfl hS<|Tp 9 rfl hS<|Ty 10 rfl rfl hS<|Ty 11 rfl rfl hS<|Tp 12 rfl hS<|Tp 13 rfl hS<|Tp 14 rfl hS<|Tp 15 rfl hS<|Tp 16 rfl hS<|Tp 17 rfl hS<|Tp 18 rfl hS<|Tp 19 rfl hS<|Ty 20 rfl rfl hS ?_
 refine Td<|cF rfl<|Zr<|Zb rfl<|ct<|Zt<|cV (v:= .bool false) rfl ⟨hB,?_⟩
 exact Na (k:=k) Om (WU e)
 refine Tf 7 rfl rfl fy hS<|Tk 8 rfl (λ_ hq=>cB (v:= .int .u8 _) rfl dK (At.cell (hq.at i) rfl)) hS<|Tk 9 rfl (λ_ _=>dW rfl rfl) hS<|Ty 10 rfl rfl hS<|Tx 11 rfl (λ_ _=>jL (v:= .bool _) rfl) hS (λf=> ?_) λf=> ?_
 refine Tp 12 rfl hS<|Tp 13 rfl hS<|Tp 14 rfl hS<|Tp 15 rfl hS<|Tp 16 rfl hS<|Tp 17 rfl hS<|Tp 18 rfl hS<|Tp 19 rfl hS<|Ty 20 rfl rfl hS<|Td<|cF rfl<|Zr<|Zb rfl<|ct ?_
 refine Zt<|cV (v:= .bool false) rfl ⟨hB,?_⟩
 exact Na (k:=k) Om (Yt f)
 refine Tf 12 rfl rfl fy hS<|Tk 13 rfl (λ_ hq=>cB (v:= .int .u8 _) rfl dK (At.cell (hq.at i) rfl)) hS<|Tk 14 rfl (λ_ _=>ic rfl Tryz.underlying5 Tryz.underlying3 (by show (l.getD k ⟨⟨0,0⟩,0⟩).o<9223372036854775808;omega)) hS<|Tf 15 rfl rfl iG hS<|Tk 16 rfl (λ_ hq=>cB (v:=onV) rfl ft (At.cell (hq.at G) rfl)) hS<|Tk 17 rfl (λ_ hq=>cT (v:=onV) rfl (hq.slT (Below.slT F hon)) eN) hS<|Tk 18 rfl (λ_ _=>jA (m:=1) rfl rfl Om (by simp only[IntKind.bits];omega) tB) hS<|Tk 19 rfl (λ_ _=>mT rfl rfl) hS<|Ty 20 rfl rfl hS<|Td<|ZQ rfl (λg=> ?_) λg=> ?_
 refine Zr<|Zb rfl<|ct<|Zt<|cV (v:= .bool false) rfl ⟨hB,?_⟩
 exact Na (k:=k) Om (WK g)
 refine cu<|ZT rfl rfl rfl ?_
 exact r _ _ (k+1) Za ⟨rfl,trivial⟩ ⟨hB,a,Om,(dG hq (Ww (x:=(l.getD k ⟨⟨0,0⟩,0⟩)) e f g)),trivial⟩ Zo
 refine cR<|Zr<|Zb rfl<|ct<|Zt<|cV (v:= .bool true) rfl ⟨hB,?_⟩
 obtain rfl:k=l.length:=by omega
 exact LT (ko.2 hq)
theorem Au (xa:Value) (l:List Rw) (n out:Int) (w:World) (hl:dh gv 3 w xa l) (hlb:l.length≤2000000) (hlr:ix l):
    Fn Tryz.prog 200 #[xa, .int .i64 n, .int .i64 out] w λv w'=>v=if Av l n out=true then .tuple #[eb (nT l n.toNat out.toNat l.length), .int .i64 0]else .tuple #[eb 0, .int .i64 1]:=by
 refine cH (n:=56) Tryz.func200 rfl rfl rfl λhB=> ?_
 refine Zr<|Zy (cI ee rfl λt W3 u D a=> ?_)
 have f:=ZO u hB
 replace hB:=Ze hB D
 replace a:At W3 t #[wv 0 0,wv 0 1,wv 0 2,wv 0 3] 40:=a
 refine ZZ rfl<|Zq<|Zr<|Zi rfl<|Zv (dk rfl rfl)<|ZX rfl (λE=> ?_) λE=> ?_
 refine Zs<|Zs<|Zb rfl<|Zb rfl<|Zs<|Zs<|Zb rfl<|Zb rfl<|Zs<|Zs<|Zb rfl<|ct<|cF rfl<|Zr ?_
 refine Zv (v:=eb 0) (gg)<|Zy (cz rfl rfl cA rfl a rfl rfl λau F G=> ?_)
 replace hB:=Zg hB F f
 replace a:=G
 refine ZZ rfl<|Zt<|eI rfl cA a rfl (v1:= .int .i64 1) rfl ⟨hB,?_⟩
 rw[if_neg (xP (by omega))]
 refine Zi rfl<|Zv (il rfl rfl)<|Zb rfl<|ZX rfl (λH=> ?_) λH=> ?_
 refine Zs<|Zs<|Zb rfl<|Zb rfl<|Zs<|Zs<|Zb rfl<|ct<|cF rfl<|Zr<|Zv (v:=eb 0) (gg)<|Zy (cz rfl rfl cA rfl a rfl rfl λav I J=> ?_)
 replace hB:=Zg hB I f
 replace a:=J
 refine ZZ rfl<|Zt<|eI rfl cA a rfl (v1:= .int .i64 1) rfl ⟨hB,?_⟩
 rw[if_neg (xP (by omega))]
 refine Zi rfl<|Zv (dk rfl rfl)<|Zb rfl<|ZX rfl (λK=> ?_) λK=> ?_
 refine Zs<|Zs<|Zb rfl<|ct<|cF rfl<|Zr<|Zv (v:=eb 0) (gg)<|Zy (cz rfl rfl cA rfl a rfl rfl λaw L M=> ?_)
 replace hB:=Zg hB L f
 replace a:=M
 refine ZZ rfl<|Zt<|eI rfl cA a rfl (v1:= .int .i64 1) rfl ⟨hB,?_⟩
 rw[if_neg (xP (by omega))]
 refine Zi rfl<|Zv (mT rfl rfl)<|Zb rfl<|ct<|ZQ rfl (λN=> ?_) λN=> ?_
 refine Zr<|Zv (v:=eb 0) (gg)<|Zy (cz rfl rfl cA rfl a rfl rfl λax O P=> ?_)
 replace hB:=Zg hB O f
 replace a:=P
 refine ZZ rfl<|Zt<|eI rfl cA a rfl (v1:= .int .i64 1) rfl ⟨hB,?_⟩
 rw[if_neg (xP (by omega))]
 refine cu<|Zr<|Zy (cI ee rfl λx Q y R b=> ?_)
 have S:=ZO y hB
 have z:=Zn y a.lt
 obtain⟨hB,a⟩:=R.k2 hB a
 replace b:At Q x #[wv 0 0,wv 0 1,wv 0 2,wv 0 3] 40:=b
 refine ct<|Zq<|Zr<|Zw xa rfl<|Zv (cT (v:=xa) rfl (Below.slT hB hl) dM)<|ZZ rfl<|cx ?_
 refine cS (σ:=(Nat)) [7,7,10,12,30,54] (λk=>[(30, .int .i64 (k:Int))]) (λk W=>(Below w.heap.size w W)∧(At W t _ 40)∧(At W x #[wv (nT l n.toNat out.toNat k) 0,wv (nT l n.toNat out.toNat k) 1,wv (nT l n.toNat out.toNat k) 2,wv (nT l n.toNat out.toNat k) 3] 40)∧(k≤l.length)∧(∀q,q<k→dC (l.getD q ⟨⟨0,0⟩,0⟩).c.m (l.getD q ⟨⟨0,0⟩,0⟩).c.v n=true)∧(True)) (λk=>l.length-k) (0) ⟨rfl,trivial⟩ ⟨hB,a,b,(my _),ef,trivial⟩ ?_
 rintro k ay az ⟨hB,a,b,hk,hq,_⟩ aA A
 refine Zr<|Zv (dk rfl rfl)<|ct<|Zq<|ZQ rfl (λT=> ?_) λT=> ?_
 refine cu<|Zq<|cx ?_
 obtain⟨U,V,aB⟩:=hlr.get (k:=k) (by omega)
 have u:(l.getD k ⟨⟨0,0⟩,0⟩).o/2^out.toNat≤(l.getD k ⟨⟨0,0⟩,0⟩).o:=aaY _ _
 refine Zr<|Zv (df (v:=xa) rfl (Below.slT hB hl) rfl dM Om (by omega))<|Zv (gH rfl dP (dh.cell (Below.slT hB hl) eh ⟨⟨0,0⟩,0⟩ Om (by omega) 0 rfl) (dh.cell (Below.slT hB hl) eh ⟨⟨0,0⟩,0⟩ Om (by omega) 1 rfl) (dh.cell (Below.slT hB hl) eh ⟨⟨0,0⟩,0⟩ Om (by omega) 2 rfl))<|Zy (cI jD rfl λaC aD X Y d=> ?_)
 have Z:=ZO X hB
 obtain⟨hB,a,b⟩:=Y.k3 hB a b
 refine Zy (cz rfl rfl dP rfl d rfl rfl λaE j aa=> ?_)
 replace hB:=Zg hB j Z
 replace a:=At.grownAt a d j Dd
 replace b:=At.grownAt b d j Dd
 replace d:=aa
 refine ct<|Zr<|Zf rfl gE<|Zv (fD rfl cZ (At.cell d rfl) (At.cell d rfl))<|Zi rfl<|ZC (vs:=[.agg #[_,_], .int .i64 _]) vO (ju _ _ _ _ U V) rfl λaF aG ab ac=> ?_
 obtain⟨hB,a,b,d⟩:=ab.k4 hB a b d
 obtain⟨sa,er,rfl,hhP7_3⟩:=vC ac
 refine Zw (.tuple #[.agg #[_,_,_,_], .int .i64 _]) rfl<|Zv (c7 rfl)<|Zv (da rfl)<|Zy (cI ee rfl λad ae p af g=> ?_)
 have ag:=ZO p hB
 have ah:=Zn p a.lt
 have ai:=Zn p b.lt
 obtain⟨hB,a,b,d⟩:=af.k4 hB a b d
 replace g:At ae ad #[wv 0 0,wv 0 1,wv 0 2,wv 0 3] 40:=g
 refine Zy (cz rfl rfl cA rfl g rfl rfl λaH i aj=> ?_)
 replace hB:=Zg hB i ag
 replace a:=At.grownNe a ah i
 replace b:=At.grownNe b ai i
 replace d:=At.grownAt d g i Dd
 replace g:=aj
 refine ZZ rfl<|Zq<|Zr<|Zi rfl<|Zv (ep rfl rfl)<|ct<|ZQ rfl (λr=> ?_) λr=> ?_
 refine Zr<|Zv (v:=eb 0) (gg)<|Zi rfl<|Zy (cz rfl rfl cA rfl a rfl rfl λaI ak al=> ?_)
 replace hB:=Zg hB ak f
 replace a:=al
 refine ZZ rfl<|Zt<|eI rfl cA a rfl (v1:= .int .i64 _) rfl ⟨hB,?_⟩
 obtain⟨hrr,her⟩:=hhP7_3.resolve_left (λh=>r h.2.2)
 rw[if_neg (V5 (k:=k) (by omega) hrr),her]
 refine cu ?_
 obtain⟨hrr,hsa,_⟩:=hhP7_3.resolve_right (λh=>r (λe=>by rw[h.2]at e;cases e))
 subst hsa
 refine Zr<|Zf rfl fy<|Zl rfl dK d rfl<|Zi rfl<|Zv (qd rfl rfl Om (by simp only[IntKind.bits];omega))<|Zv (mZ (n:=1) rfl rfl rfl (by show (l.getD k ⟨⟨0,0⟩,0⟩).o/2^out.toNat<256;omega) Dd)<|Zv (dW rfl rfl)<|ct<|ZQ rfl (λs=> ?_) λs=> ?_
 refine cN<|Zv (cy rfl cA rfl b)<|Zv (cy rfl cA rfl g)<|ZC (vs:=[.agg #[_,_,_,_], .agg #[_,_,_,_]]) pS (pj _ _ _) rfl λaJ aK ao ap=> ?_
 obtain⟨hB,a,b⟩:=ao.k3 hB a b
 obtain rfl:=ap
 refine Zy (cz rfl rfl cA rfl b rfl rfl λaL B aq=> ?_)
 replace hB:=Zg hB B S
 replace a:=At.grownNe a z B
 replace b:=aq
 refine ct<|ZT rfl rfl rfl ?_
 exact A _ _ (k+1) Za ⟨rfl,trivial⟩ ⟨hB,a,(by (rw[←VG (l:=l) (k:=k) (M9 s)];exact b)),Om,(dG hq hrr),trivial⟩ Zo
 refine cu<|ZT rfl rfl rfl ?_
 exact A _ _ (k+1) Za ⟨rfl,trivial⟩ ⟨hB,a,(by (rw[←VL (l:=l) (k:=k) (Ox s)];exact b)),Om,(dG hq hrr),trivial⟩ Zo
 refine cR<|Zr<|Zv (cy rfl cA rfl b)<|Zy (cz rfl rfl cA rfl a rfl rfl λaM C ar=> ?_)
 replace hB:=Zg hB C f
 replace b:=At.grownNe b (Ne.symm z) C
 replace a:=ar
 refine ZZ rfl<|Zt<|eI rfl cA a rfl (v1:= .int .i64 0) rfl ⟨hB,?_⟩
 obtain rfl:k=l.length:=by omega
 rw[if_pos (tR.2 ⟨by omega,hq⟩)]
theorem sH (S:Sp) (onV mayV:Value) (xa:Value) (l:List Rw) (w:World) (hon:dh fT 4 w onV S.on) (hmay:dh fT 4 w mayV S.may) (hl:dh gv 3 w xa l) (hlb:l.length≤2000000) (hlr:ix l) (h4:S.on.length≤20):
    Fn Tryz.prog 151 #[.agg #[.int .i64 S.n,onV,mayV],xa] w λv w'=>v= .bool (io S l):=by
 refine cH (n:=49) Tryz.func151 rfl rfl rfl λhB=> ?_
 refine Zr<|Zy (dt (c:= #[_,_,_]) rfl rfl λu W3 aa x a=> ?_)
 replace hB:=Ze hB x
 refine Zb rfl<|ct<|Zq<|Zr<|Zv (cy rfl el rfl a)<|ZC (vs:=[.agg #[_,_,_]]) oB (iJ S _ _ _ (Below.slT hB hon) (Below.slT hB hmay)) rfl λab ac y z=> ?_
 obtain⟨hB,a⟩:=y.k2 hB a
 obtain rfl:=z
 refine Zv (eR rfl)<|ZX rfl (λf=> ?_) λf=> ?_
 refine Zs<|Zs<|Zs<|Zs<|Zb rfl<|ct<|cF rfl<|Zr<|Zb rfl<|ct<|Zt<|cV (v:= .bool false) rfl ⟨hB,?_⟩
 exact Uy (kT f)
 refine Zv (cy rfl el rfl a)<|Zw xa rfl<|ZC (vs:=[.agg #[_,_,_],xa]) I2 (yh S _ _ _ l _ (Below.slT hB hon) (Below.slT hB hmay) (Below.slT hB hl) hlb hlr h4) rfl λad ae A B=> ?_
 obtain⟨hB,a⟩:=A.k2 hB a
 obtain rfl:=B
 refine Zv (eR rfl)<|Zb rfl<|ct<|ZQ rfl (λg=> ?_) λg=> ?_
 refine Zr<|Zb rfl<|ct<|Zt<|cV (v:= .bool false) rfl ⟨hB,?_⟩
 exact Uk (kT g)
 refine cu<|Zq ?_
 have hr:dq S=true:=ms f
 have hm:mQ S l=true:=ms g
 obtain⟨h0,h8,h1,h5,h6,_⟩:=dD.1 hr
 refine Zr<|Zf rfl iG<|ZL onV rfl ft a rfl<|Zv (cT (v:=onV) rfl (Below.slT hB hon) eN)<|ZZ rfl<|cx ?_
 refine cS (σ:=(Nat)) [4,8,21,48] (λk=>[(21, .int .i64 (k:Int))]) (λk W=>(Below w.heap.size w W)∧(At W u _ 59)∧(k≤S.on.length)∧(∀q,q<k→B6 S l q=true)∧(True)) (λk=>S.on.length-k) (0) ⟨rfl,trivial⟩ ⟨hB,a,(my _),ef,trivial⟩ ?_
 rintro k af ag ⟨hB,a,hk,hq,_⟩ ah C
 refine Zr<|Zv (dk rfl rfl)<|ct<|Zq<|ZQ rfl (λD=> ?_) λD=> ?_
 refine cu<|Zq<|cx<|Zr<|Zi rfl<|Zv (df (v:=onV) rfl (Below.slT hB hon) rfl eN Om (by omega))<|Zv (fv rfl cA (dh.cell (Below.slT hB hon) dE 0 Om (by omega) 0 rfl) (dh.cell (Below.slT hB hon) dE 0 Om (by omega) 1 rfl) (dh.cell (Below.slT hB hon) dE 0 Om (by omega) 2 rfl) (dh.cell (Below.slT hB hon) dE 0 Om (by omega) 3 rfl))<|Zy (cI ee rfl λE F G H b=> ?_)
 have I:=ZO G hB
 obtain⟨hB,a⟩:=H.k2 hB a
 replace b:At F E #[wv 0 0,wv 0 1,wv 0 2,wv 0 3] 40:=b
 refine Zi rfl<|Zy (cz rfl rfl cA rfl b rfl rfl λai s J=> ?_)
 replace hB:=Zg hB s I
 replace a:=At.grownAt a b s Dd
 replace b:=J
 refine ct<|Zr<|Zw xa rfl<|Zf rfl iF<|Zl rfl cK a rfl<|Zi rfl<|ZC P3 (Au _ l S.n (k:Int) _ (Below.slT hB hl) hlb hlr) rfl λaj ak K L=> ?_
 obtain⟨hB,a,b⟩:=K.k3 hB a b
 obtain⟨sa,er,rfl,hhP6_4⟩:=R2 L
 refine Zw (.tuple #[.agg #[_,_,_,_], .int .i64 _]) rfl<|Zv (c7 rfl)<|Zv (da rfl)<|Zy (cI ee rfl λM N t O d=> ?_)
 have P:=ZO t hB
 have Q:=Zn t b.lt
 obtain⟨hB,a,b⟩:=O.k3 hB a b
 replace d:At N M #[wv 0 0,wv 0 1,wv 0 2,wv 0 3] 40:=d
 refine Zy (cz rfl rfl cA rfl d rfl rfl λal i R=> ?_)
 replace hB:=Zg hB i P
 replace a:=At.grownAt a d i Dd
 replace b:=At.grownNe b Q i
 replace d:=R
 refine ZZ rfl ?_
 obtain⟨_,hsa,_⟩:=hhP6_4.resolve_right (λh=>by have h2:=Sj (l:=l) hr hm (show k<S.on.length by omega);rw[h.1]at h2;cases h2)
 rw[so]at hsa
 subst hsa
 refine Zd dz λT U=> ?_
 obtain⟨hB,a,b,d⟩:=U.k4 hB a b d
 have hS:=dz.refl T
 refine Tk 0 rfl (λ_ hq=>cy rfl cA rfl (hq.at b)) hS<|Tk 1 rfl (λ_ hq=>cy rfl cA rfl (hq.at d)) hS<|To 2 rfl (TC (vs:=[.agg #[_,_,_,_], .agg #[_,_,_,_]]) qO (iL _ _ _) rfl λao ap j V=>⟨.inl (hS.trans j),?_⟩)
 have e:=hB
 have X:=a
 have Y:=d
 obtain⟨hB,a⟩:=j.k2 hB a
 replace hS:=hS.trans j
 obtain rfl:=V
 refine Tk 3 rfl (λ_ _=>eR rfl) hS<|Tx 4 rfl (λ_ _=>jL (v:= .bool _) rfl) hS (λm=> ?_) λm=> ?_
 refine Tp 5 rfl hS<|Tp 6 rfl hS<|Tp 7 rfl hS<|Tp 8 rfl hS<|Tp 9 rfl hS<|Tp 10 rfl hS<|Tp 11 rfl hS<|Tp 12 rfl hS<|Ty 13 rfl rfl hS<|Td<|cF rfl<|Zr<|Zb rfl<|ct ?_
 refine Zt<|cV (v:= .bool false) rfl ⟨hB,?_⟩
 exact VS (o:=k) Om (kT m)
 refine Tk 5 rfl (λ_ hq=>cy rfl cA rfl (hq.at Y)) hS<|Tf 6 rfl rfl gS hS<|Tk 7 rfl (λ_ hq=>cB (v:=mayV) rfl ft (At.cell (hq.at X) rfl)) hS<|Ti 8 rfl rfl hS<|Tk 9 rfl (λ_ hq=>df (v:=mayV) rfl (hq.slT (Below.slT e hmay)) rfl eN Om (by omega)) hS<|Tk 10 rfl (λ_ hq=>fv rfl cA (dh.cell (hq.slT (Below.slT e hmay)) dE 0 Om (by omega) 0 rfl) (dh.cell (hq.slT (Below.slT e hmay)) dE 0 Om (by omega) 1 rfl) (dh.cell (hq.slT (Below.slT e hmay)) dE 0 Om (by omega) 2 rfl) (dh.cell (hq.slT (Below.slT e hmay)) dE 0 Om (by omega) 3 rfl)) hS<|To 11 rfl (TC (vs:=[.agg #[_,_,_,_], .agg #[_,_,_,_]]) qO (iL _ _ _) rfl λaq ar p Z=>⟨.inl (hS.trans p),?_⟩)
 obtain⟨hB,a⟩:=p.k2 hB a
 replace hS:=hS.trans p
 obtain rfl:=Z
 refine Tk 12 rfl (λ_ _=>eR rfl) hS<|Ty 13 rfl rfl hS<|Td<|ZQ rfl (λr=> ?_) λr=> ?_
 refine Zr<|Zb rfl<|ct<|Zt<|cV (v:= .bool false) rfl ⟨hB,?_⟩
 exact V4 (o:=k) Om (kT r)
 refine cu<|ZT rfl rfl rfl ?_
 exact C _ _ (k+1) Za ⟨rfl,trivial⟩ ⟨hB,a,Om,(dG hq (Oq (ms m) (ms r))),trivial⟩ Zo
 refine cR<|Zr<|Zb rfl<|ct<|Zt<|cV (v:= .bool true) rfl ⟨hB,?_⟩
 obtain rfl:k=S.on.length:=by omega
 exact LT (fN.2 ⟨hr,hm,hq⟩)
end
section
open Go Go.RowKit
section
variable {s:List UInt8} {m u i k n:Nat}
theorem Yb (k i:Nat):(1*2^k).testBit i=decide (i=k):=by
 rw[aap,aas]
 exact decide_eq_decide.2 ⟨λh=>h.symm,λh=>h.symm⟩
theorem BW (s:List UInt8):∀k i,(Ge s k).testBit i=(decide (i<k)&&decide (iY s i=48∨iY s i=49))
 |0,i=>by simp[Ge]
 |k+1,i=>by
  rw[Ge]
  by_cases h:iY s k=48∨iY s k=49
  ·rw[if_pos h,aaP,BW s k i,Yb]
   by_cases hi:i=k
   ·subst hi;simp[h]
   ·have e:decide (i<k+1)=decide (i<k):=decide_eq_decide.2 (by omega)
    rw[e,decide_eq_false hi,abS]
  ·rw[if_neg h,BW s k i]
   by_cases hi:i=k
   ·subst hi;simp[h]
   ·have e:decide (i<k+1)=decide (i<k):=decide_eq_decide.2 (by omega)
    rw[e]
theorem C7 (s:List UInt8):∀k i,(Ff s k).testBit i=(decide (i<k)&&decide (iY s i=49))
 |0,i=>by simp[Ff]
 |k+1,i=>by
  rw[Ff]
  by_cases h:iY s k=49
  ·rw[if_pos h,aaP,C7 s k i,Yb]
   by_cases hi:i=k
   ·subst hi;simp[h]
   ·have e:decide (i<k+1)=decide (i<k):=decide_eq_decide.2 (by omega)
    rw[e,decide_eq_false hi,abS]
  ·rw[if_neg h,C7 s k i]
   by_cases hi:i=k
   ·subst hi;simp[h]
   ·have e:decide (i<k+1)=decide (i<k):=decide_eq_decide.2 (by omega)
    rw[e]
theorem HU (h:s.length≤8):dC (Aw s).m (Aw s).v (s.length:Int)=true:=by
 refine dw.2 ⟨by omega,by omega,by rw[so];exact H0 s s.length,?_⟩
 refine Z7 λi=> ?_
 show (Ff s s.length &&& Ge s s.length).testBit i=(Ff s s.length).testBit i
 rw[aad,BW,C7]
 by_cases h1:i<s.length<;>by_cases h2:iY s i=49<;>simp[h1,h2]
theorem J7 (h:nO s=true):s.length≤8:=by
 unfold nO at h
 rw[we]at h
 exact of_decide_eq_true h.1
theorem yB (h:i<k):iY (pF m u k) i=(DC m u i).toNat:=by
 unfold iY pF
 rw[me,abR,List.getElem?_range h]
 rfl
theorem S0:(DC m u i).toNat=48∨(DC m u i).toNat=49↔m.testBit i=true:=by
 unfold DC
 rw[aaL]
 by_cases h:m/2^i%2=0
 ·rw[if_pos h];simp[h]
 ·rw[if_neg h]
  have h1:m/2^i%2=1:=by omega
  by_cases h2:u/2^i%2=0
  ·rw[if_pos h2];simp[h1]
  ·rw[if_neg h2];simp[h1]
theorem SV:(DC m u i).toNat=49↔(m.testBit i=true∧u.testBit i=true):=by
 unfold DC
 rw[aaL,aaL]
 by_cases h:m/2^i%2=0
 ·rw[if_pos h];simp[h]
 ·rw[if_neg h]
  have h1:m/2^i%2=1:=by omega
  by_cases h2:u/2^i%2=0
  ·rw[if_pos h2];simp[h2]
  ·rw[if_neg h2]
   have h3:u/2^i%2=1:=by omega
   simp[h1,h3]
theorem Ci (m u i:Nat):ss (DC m u i).toNat=true:=by
 unfold DC
 by_cases h:m/2^i%2=0
 ·rw[if_pos h];rfl
 ·rw[if_neg h]
  by_cases h2:u/2^i%2=0
  ·rw[if_pos h2];rfl
  ·rw[if_neg h2];rfl
theorem QP {n:Int} (h:dC m u n=true):nO (pF m u n.toNat)=true∧Aw (pF m u n.toNat)=⟨m,u⟩:=by
 obtain⟨h0,h8,hm,hv⟩:=dw.1 h
 refine⟨Io (by rw[k9];omega) λq hq=> ?_,?_⟩
 ·rw[k9]at hq
  rw[yB hq]
  exact Ci m u q
 ·have hml:∀i,n.toNat≤i→m.testBit i=false:=λi hi=>abf (aao hm (aaf (by decide) hi))
  have e1:Ge (pF m u n.toNat) (pF m u n.toNat).length=m:=by
   refine Z7 λi=> ?_
   rw[BW,k9]
   by_cases hi:i<n.toNat
   ·rw[yB hi,decide_eq_true hi,aax]
    cases hb:m.testBit i
    ·exact decide_eq_false λe=>by rw[S0.1 e]at hb;cases hb
    ·exact decide_eq_true (S0.2 hb)
   ·rw[decide_eq_false hi,aaJ,hml i (by omega)]
  have e2:Ff (pF m u n.toNat) (pF m u n.toNat).length=u:=by
   refine Z7 λi=> ?_
   have hv2:u.testBit i=true→m.testBit i=true:=λhb=>by
    rw[←hv,aad,we]at hb
    exact hb.2
   rw[C7,k9]
   by_cases hi:i<n.toNat
   ·rw[yB hi,decide_eq_true hi,aax]
    cases hb:u.testBit i
    ·exact decide_eq_false λe=>by rw[(SV.1 e).2]at hb;cases hb
    ·exact decide_eq_true (SV.2 ⟨hv2 hb,hb⟩)
   ·rw[decide_eq_false hi,aaJ]
    cases hb:u.testBit i
    ·rfl
    ·rw[hml i (by omega)]at hv2;exact absurd (hv2 hb) (by decide)
  unfold Aw
  rw[e1,e2]
end
section
variable {l:Ln} {ni no:Int} {line:List UInt8}
theorem wL:∀(a b:List UInt8),(32:UInt8)∉a→Lib.index (a++32::b) [32]=(a.length:Int)
 |[],b,_=>by
  rw[aaM,Lib.index]
  simp[List.isPrefixOf]
 |c::a,b,h=>by
  have h1:c≠32:=λe=>h WA
  have ih:=wL a b (λe=>h (aai _ e))
  rw[abp,Lib.index]
  have hp:([32]:List UInt8).isPrefixOf (c::(a++32::b))=false:=by simp[List.isPrefixOf,Ne.symm h1]
  rw[hp,ih]
  simp only[abq,if_false,beq_iff_eq]
  rw[if_neg (by omega)]
  simp
theorem UT {a b:List UInt8} (h:(32:UInt8)∉a):Lib.cut (a++32::b) [32]=(a,b,true):=by
 unfold Lib.cut
 rw[wL a b h,if_pos (by omega),so]
 have e:a++32::b=(a++[32])++b:=by simp
 rw[List.take_left,show a.length+([32]:List UInt8).length=(a++[32]).length by simp,e,List.drop_left]
theorem NJ (m u n:Nat):(32:UInt8)∉pF m u n:=by
 intro h
 obtain⟨i,_,e⟩:=aag.1 h
 have:=Ci m u i
 rw[e]at this
 cases this
theorem EC {x:Int} (h:0≤x∧x<3):Kw (GL x).toNat=x∧ss (GL x).toNat=true:=by
 have:x=0∨x=1∨x=2:=by omega
 rcases this with rfl|rfl|rfl<;>exact⟨rfl,rfl⟩
theorem Kx {os:List Int} (h:∀x,x∈os→0≤x∧x<3):sL (lD os)=os:=by
 unfold sL lD
 rw[List.map_map]
 conv=>rhs;rw[←List.map_id os]
 exact abg λx hx=>(EC (h x hx)).1
theorem DU (ni:Int) (l:Ln):Lib.cut (vm ni l) [32]=(pF l.c.m l.c.v ni.toNat,lD l.os,true):=by
 unfold vm yE
 rw[aav]
 exact UT (NJ _ _ _)
theorem Rl (h:oN ni no l=true) (hn:0≤ni):jE ni no (vm ni l)=true∧E3 (vm ni l)=l:=by
 obtain⟨h1,h2,h3⟩:=lj.1 h
 obtain⟨k1,k2⟩:=QP h1
 refine⟨AZ.2 ?_,?_⟩
 ·rw[DU]
  refine⟨rfl,k1,by rw[k9];omega,by rw[pm];exact h2,λq hq=> ?_⟩
  simp only[pm]at hq
  have e:iY (lD l.os) q=(GL (l.os.getD q 0)).toNat:=by
   unfold iY lD
   rw[me,abR,th hq,me,th hq]
   rfl
  simp only[e]
  exact(EC (h3 _ (oT (d:=0) hq))).2
 ·unfold E3
  rw[DU]
  simp only[k2,Kx h3]
theorem Kj (h:jE ni no line=true):oN ni no (E3 line)=true:=by
 obtain⟨_,h2,h3,h4,h5⟩:=AZ.1 h
 refine lj.2 ⟨?_,?_,?_⟩
 ·rw[←h3];exact HU (J7 h2)
 ·show ((sL _).length:Int)=no
  rw[Bn];exact h4
 ·intro x hx
  obtain⟨b,hb,rfl⟩:=aag.1 hx
  obtain⟨i,hi,rfl⟩:=abV hb
  have h6:=h5 i hi
  have e:iY (Lib.cut line [32]).2.1 i=((Lib.cut line [32]).2.1[i]).toNat:=by
   unfold iY
   rw[me,th hi]
   rfl
  rw[e]at h6
  generalize ((Lib.cut line [32]).2.1[i]).toNat=b at h6
  unfold ss at h6
  simp only[aaU,beq_iff_eq]at h6
  rcases h6 with (h6|h6)|h6<;>subst h6<;>decide
end
theorem Jx {line word:List UInt8} {lo hi:Int} (h0:0≤lo) (h:iS line word lo hi≥0):lo≤iS line word lo hi∧iS line word lo hi≤hi:=by
 unfold iS at*
 cases hn:ED line word with
 |none=>rw[hn]at h;simp only at h;omega
 |some n=>
  rw[hn]at h
  simp only at h ⊢
  by_cases hc:lo≤n∧(n:Int)≤hi
  ·rw[if_pos hc];exact hc
  ·rw[if_neg hc]at h;omega
structure RH (r:Rd):Prop where
 k0:0≤r.T.kind
 k3:r.T.kind≤3
 i:1≤r.st→0≤r.T.ni∧r.T.ni≤8
 o:2≤r.st→1≤r.T.no∧r.T.no≤4
 len:r.T.ls.length≤64
 all:∀l,l∈r.T.ls→oN r.T.ni r.T.no l=true
 early:r.st<4→r.T.ls=[]
 s0:0≤r.st
theorem S6 {b:Bool} (h:QJ b=0):b=true:=by
 unfold QJ at h
 cases b
 ·cases h
 ·rfl
section
variable {r:Rd} {l:List UInt8}
theorem RH.take (h:RH r) (he:(gi r l).2=0):RH (gi r l).1:=by
 have hlen:=EP h.len he
 have hs0:=h.s0
 revert he hlen
 unfold gi
 by_cases h0:r.st=0
 ·rw[if_pos h0]
  intro he _
  have hn:=Jx (by decide) (of_decide_eq_true (S6 he))
  have hl:=h.early (by omega)
  exact⟨h.k0,h.k3,λ_=>hn,λh2=>absurd h2 (by show ¬2≤r.st+1;omega),h.len,λl hl2=>(by rw[show ({r.T with ni:=iS _ [46,105] 0 8}:Tb).ls=[] from hl]at hl2;cases hl2),λ_=>hl,by show 0≤r.st+1;omega⟩
 rw[if_neg h0]
 by_cases h1:r.st=1
 ·rw[if_pos h1]
  intro he _
  have hn:=Jx (by decide) (of_decide_eq_true (S6 he))
  have hl:=h.early (by omega)
  exact⟨h.k0,h.k3,λ_=>h.i (by omega),λ_=>hn,h.len,λl hl2=>(by rw[show ({r.T with no:=iS _ [46,111] 1 4}:Tb).ls=[] from hl]at hl2;cases hl2),λ_=>hl,by show 0≤r.st+1;omega⟩
 rw[if_neg h1]
 by_cases h5:r.st=5
 ·rw[if_pos h5]
  intro he
  cases he
 rw[if_neg h5]
 have hi:=h.i (by omega)
 have ho:=h.o (by omega)
 by_cases hp:Lib.hasPrefix l kR=true∧r.st=2
 ·rw[if_pos hp]
  have hl:=h.early (by omega)
  cases hk:ym (Lib.trimPrefix l kR)with
  |none=>intro he;cases he
  |some k=>
   intro _ _
   have hk3:k≤3:=by
    unfold ym at hk
    repeat' split at hk
    all_goals first|(cases hk;decide)|cases hk
   exact⟨show (0:Int)≤(k:Int)by omega,show (k:Int)≤3 by omega,λ_=>hi,λ_=>ho,h.len,h.all,λ_=>hl,show (0:Int)≤3 by decide⟩
 rw[if_neg hp]
 by_cases hn:iS l [46,112] 0 64≥0∧r.st≤3
 ·rw[if_pos hn]
  intro _ _
  exact⟨h.k0,h.k3,λ_=>hi,λ_=>ho,h.len,h.all,λh4=>absurd h4 (show ¬(4:Int)<4 by decide),show (0:Int)≤4 by decide⟩
 rw[if_neg hn]
 by_cases he:l=[46,101]
 ·rw[if_pos he]
  intro _ _
  exact⟨h.k0,h.k3,λ_=>hi,λ_=>ho,h.len,h.all,λh4=>absurd h4 (show ¬(5:Int)<4 by decide),show (0:Int)≤5 by decide⟩
 rw[if_neg he]
 by_cases hr:jE r.T.ni r.T.no l=true
 ·rw[if_pos hr]
  intro _ hlen
  refine⟨h.k0,h.k3,λ_=>hi,λ_=>ho,hlen,λx hx=> ?_,λh4=>absurd h4 (show ¬(4:Int)<4 by decide),show (0:Int)≤4 by decide⟩
  rcases Z6.1 hx with hx|hx
  ·exact h.all x hx
  ·rw[Z8]at hx
   rw[hx]
   exact Kj hr
 ·rw[if_neg hr]
  intro he
  cases he
theorem Pn {ls:List (List UInt8)}:∀k,k≤ls.length→(∀q,q<k→mi (oa ls q) (ls.getD q [])=0)→RH (oa ls k)
 |0,_,_=>by
  rw[Ev]
  exact⟨by decide,by decide,λh=>absurd h (by decide),λh=>absurd h (by decide),by decide,λl hl=>(by cases hl),λ_=>rfl,by decide⟩
 |k+1,hk,hq=>by
  have ih:=Pn k (by omega) (λq h=>hq q (by omega))
  have he:=hq k (by omega)
  rw[pk (by omega)]
  cases hs:o0 (ls.getD k [])with
  |true=>rw[(nj hs).1];exact ih
  |false=>rw[(gC hs).1];rw[(gC hs).2]at he;exact ih.take he
end
section
variable {s:List UInt8}
theorem wN (s:List UInt8):((de s).2.2≠0∧(de s).1=Pz)∨((de s).2.2=0∧(de s).2.1=0∧fc (de s).1=true):=by
 by_cases h8:8000<s.length
 ·rw[Ej h8];exact .inl ⟨by decide,rfl⟩
 ·have hn:(dp s).length=((dp s).length-1)+1:=by have:=abz.2 (rZ s);omega
  cases hb:Dh (dp s) ((dp s).length-1)with
  |some k=>
   have e:de s=(Pz,k,mi (oa (dp s) k) ((dp s).getD k [])):=by
    unfold de
    rw[if_neg h8,hb]
   rw[e]
   unfold Dh at hb
   have:=List.find?_some hb
   exact .inl ⟨by simpa using this,rfl⟩
  |none=>
   have hq:=Kq hb
   by_cases he:(dp s).getD ((dp s).length-1) []=[]
   ·by_cases h5:(oa (dp s) ((dp s).length-1)).st=5
    ·rw[Gn h8 hn hq he h5]
     refine .inr ⟨rfl,rfl,?_⟩
     have hR:=Pn ((dp s).length-1) (by omega) hq
     have hi:=hR.i (by omega)
     have ho:=hR.o (by omega)
     unfold fc
     rw[decide_eq_true ⟨hR.k0,hR.k3,hi.1,hi.2,ho.1,ho.2,hR.len⟩,aax]
     exact aaj.2 hR.all
    ·rw[DS h8 hn hq he h5];exact .inl ⟨show (7:Int)≠0 by decide,rfl⟩
   ·rw[F0 h8 hn hq he];exact .inl ⟨show (2:Int)≠0 by decide,rfl⟩
theorem EU {T:Tb} (h:fc T=true):∀i,i<T.ls.length→(T.ls.getD i eV).c.m<256∧(T.ls.getD i eV).c.v<256:=λi hi=>by
 obtain⟨h1,_⟩:=lj.1 (mw h hi)
 obtain⟨_,h8,hm,hv⟩:=dw.1 h1
 have h2:2^T.ni.toNat≤256:=by
  have:=aaf (show 0<2 by decide) (show T.ni.toNat≤8 by omega)
  simpa using this
 have h3:(T.ls.getD i eV).c.v≤(T.ls.getD i eV).c.m:=by rw[←hv];exact abm
 omega
theorem L8 (s:List UInt8):∀i,i<(de s).1.ls.length→((de s).1.ls.getD i eV).c.m<256∧((de s).1.ls.getD i eV).c.v<256:=by
 rcases wN s with ⟨_,h⟩|⟨_,_,h⟩
 ·rw[h];intro i hi;cases hi
 ·exact EU h
end
def gI (T:Tb):List (List UInt8):=
 [[46,105]++32::jo T.ni.toNat,[46,111]++32::jo T.no.toNat,kR++j7.getD T.kind.toNat [],[46,112]++32::jo T.ls.length]++(T.ls.map (vm T.ni)++[[46,101]])
theorem yc:∀(a b:List UInt8),(10:UInt8)∉a→dp (a++10::b)=a::dp b
 |[],b,_=>by rw[aaM,dp,if_pos rfl]
 |c::a,b,h=>by
  have h1:c≠10:=λe=>h WA
  rw[abp,dp,if_neg h1,yc a b (λe=>h (aai _ e))]
theorem zy:∀(ls:List (List UInt8)),(∀l,l∈ls→(10:UInt8)∉l)→dp (ls.flatMap λl=>l++[10])=ls++[[]]
 |[],_=>rfl
 |l::ls,h=>by
  rw[aaE,aav,List.singleton_append,yc l _ (h l aab),zy ls (λx hx=>h x (aai _ hx))]
  rfl
theorem uA (T:Tb):∀k,k≤T.ls.length→iX T k=Fx T++((T.ls.take k).map (vm T.ni)).flatMap λl=>l++[10]
 |0,_=>by simp[iX]
 |k+1,hk=>by
  rw[iX,uA T k (by omega),aaH,th (by omega),abh,List.flatMap_append,me,th (by omega)]
  simp
theorem Ek (T:Tb):jy T=(gI T).flatMap λl=>l++[10]:=by
 unfold jy gI
 rw[uA T _ (am _),aan]
 unfold Fx kR
 simp
theorem zv (n:Nat) (h:n<100):(10:UInt8)∉jo n:=by
 have:∀n,n<100→(10:UInt8)∉jo n:=by decide+kernel
 exact this n h
theorem Mt {T:Tb} (h:fc T=true):∀l,l∈gI T→(10:UInt8)∉l:=by
 obtain⟨hk0,hk3,hi0,hi8,ho1,ho4,h64⟩:=iu h
 intro l hl
 unfold gI at hl
 simp only[Z6,aaq,aag,List.not_mem_nil,or_false]at hl
 rcases hl with (rfl|rfl|rfl|rfl)|(⟨x,hx,rfl⟩|rfl)
 ·have:=zv T.ni.toNat (by omega);simp[this]
 ·have:=zv T.no.toNat (by omega);simp[this]
 ·obtain⟨q,hq⟩:=aau hk0
  rw[hq,so]
  have h4:q<4:=by omega
  unfold kR
  match q,h4 with
  |0,_|1,_|2,_|3,_=>decide
 ·have:=zv T.ls.length (by omega);simp[this]
 ·unfold vm yE
  intro hm
  simp only[Z6,Z8]at hm
  rcases hm with (hm|hm)|hm
  ·obtain⟨i,_,e⟩:=aag.1 hm
   have:=Ci x.c.m x.c.v i
   rw[e]at this;cases this
  ·cases hm
  ·obtain⟨y,hy,e⟩:=aag.1 hm
   unfold GL at e
   split at e
   ·cases e
   ·split at e<;>cases e
 ·decide
section
variable {T:Tb} {r:Rd}
theorem xw {word:List UInt8} {n:Nat} {lo hi:Int} (hn:n<100) (h1:lo≤(n:Int)) (h2:(n:Int)≤hi):iS (word++32::jo n) word lo hi=(n:Int):=by
 unfold iS
 rw[AL hn rfl]
 simp only
 rw[if_pos ⟨h1,h2⟩]
theorem Mh {b:Bool} (h:b=true):QJ b=0:=by rw[h];rfl
theorem rQ (l:List UInt8):o0 (46::l)=false:=rfl
theorem KU (h:fc T=true):∃r,((gI T).take 4).foldl kZ Hv=r∧r=⟨⟨T.kind,T.ni,T.no,[]⟩,4,(T.ls.length:Int)⟩∧mi Hv ((gI T).getD 0 [])=0∧
  mi (kZ Hv ((gI T).getD 0 [])) ((gI T).getD 1 [])=0∧mi (kZ (kZ Hv ((gI T).getD 0 [])) ((gI T).getD 1 [])) ((gI T).getD 2 [])=0∧
  mi (kZ (kZ (kZ Hv ((gI T).getD 0 [])) ((gI T).getD 1 [])) ((gI T).getD 2 [])) ((gI T).getD 3 [])=0:=by
 obtain⟨hk0,hk3,hi0,hi8,ho1,ho4,h64⟩:=iu h
 obtain⟨qk,hqk⟩:=aau hk0
 have a0:gi Hv ([46,105]++32::jo T.ni.toNat)=(⟨⟨1,T.ni,0,[]⟩,1,-1⟩,0):=by
  rw[XN rfl,xw (by omega) (by omega) (by omega),show ((T.ni.toNat:Nat):Int)=T.ni by omega,Mh (decide_eq_true hi0)]
  rfl
 have a1:gi ⟨⟨1,T.ni,0,[]⟩,1,-1⟩ ([46,111]++32::jo T.no.toNat)=(⟨⟨1,T.ni,T.no,[]⟩,2,-1⟩,0):=by
  rw[Wu (show ¬(1:Int)=0 by decide) rfl,xw (by omega) (by omega) (by omega),show ((T.no.toNat:Nat):Int)=T.no by omega,Mh (decide_eq_true (by omega))]
  rfl
 have a2:gi ⟨⟨1,T.ni,T.no,[]⟩,2,-1⟩ (kR++j7.getD T.kind.toNat [])=(⟨⟨T.kind,T.ni,T.no,[]⟩,3,-1⟩,0):=by
  rw[Xw (i:=qk) (show ¬(2:Int)=0 by decide) (show ¬(2:Int)=1 by decide) (show ¬(2:Int)=5 by decide) (xM.2 ⟨_,rfl⟩) rfl (by omega) (by rw[ut,hqk];rfl),hqk]
 have a3:gi ⟨⟨T.kind,T.ni,T.no,[]⟩,3,-1⟩ ([46,112]++32::jo T.ls.length)=(⟨⟨T.kind,T.ni,T.no,[]⟩,4,(T.ls.length:Int)⟩,0):=by
  rw[WF (show ¬(3:Int)=0 by decide) (show ¬(3:Int)=1 by decide) (show ¬(3:Int)=5 by decide) (λe=>absurd e.2 (show ¬(3:Int)=2 by decide)) (by rw[xw (by omega) (by omega) (by omega)];omega) (show (3:Int)≤3 by decide),xw (by omega) (by omega) (by omega)]
 have s0:=gC (r:=Hv) (rQ ([105]++32::jo T.ni.toNat))
 have s1:=gC (r:=⟨⟨1,T.ni,0,[]⟩,1,-1⟩) (rQ ([111]++32::jo T.no.toNat))
 have s2:=gC (r:=⟨⟨1,T.ni,T.no,[]⟩,2,-1⟩) (rQ ([116,121,112,101,32]++j7.getD T.kind.toNat []))
 have s3:=gC (r:=⟨⟨T.kind,T.ni,T.no,[]⟩,3,-1⟩) (rQ ([112]++32::jo T.ls.length))
 have e0:kZ Hv ((gI T).getD 0 [])=⟨⟨1,T.ni,0,[]⟩,1,-1⟩:=s0.1.trans (congrArg Prod.fst a0)
 have e1:kZ ⟨⟨1,T.ni,0,[]⟩,1,-1⟩ ((gI T).getD 1 [])=⟨⟨1,T.ni,T.no,[]⟩,2,-1⟩:=s1.1.trans (congrArg Prod.fst a1)
 have e2:kZ ⟨⟨1,T.ni,T.no,[]⟩,2,-1⟩ ((gI T).getD 2 [])=⟨⟨T.kind,T.ni,T.no,[]⟩,3,-1⟩:=s2.1.trans (congrArg Prod.fst a2)
 have e3:kZ ⟨⟨T.kind,T.ni,T.no,[]⟩,3,-1⟩ ((gI T).getD 3 [])=⟨⟨T.kind,T.ni,T.no,[]⟩,4,(T.ls.length:Int)⟩:=s3.1.trans (congrArg Prod.fst a3)
 refine⟨_,rfl,?_,s0.2.trans (congrArg Prod.snd a0),?_,?_,?_⟩
 ·show kZ (kZ (kZ (kZ Hv ((gI T).getD 0 [])) ((gI T).getD 1 [])) ((gI T).getD 2 [])) ((gI T).getD 3 [])=_
  rw[e0,e1,e2,e3]
 ·rw[e0];exact s1.2.trans (congrArg Prod.snd a1)
 ·rw[e0,e1];exact s2.2.trans (congrArg Prod.snd a2)
 ·rw[e0,e1,e2];exact s3.2.trans (congrArg Prod.snd a3)
theorem Mi {l:Ln} {ni:Int}:∃c r,vm ni l=c::r∧c≠46∧c≠35:=by
 unfold vm yE pF
 cases h:ni.toNat with
 |zero=>exact⟨32,lD l.os,rfl,by decide,by decide⟩
 |succ k=>
  rw[List.range_succ_eq_map]
  have:=Ci l.c.m l.c.v 0
  refine⟨DC l.c.m l.c.v 0,_,by rw[abc,abp,abp],λe=> ?_,λe=> ?_⟩<;>rw[e]at this<;>cases this
theorem Bs {l:Ln} (hl:oN T.ni T.no l=true) (hn:0≤T.ni) {ls:List Ln} (hlen:ls.length<64) {told:Int}:
  kZ ⟨⟨T.kind,T.ni,T.no,ls⟩,4,told⟩ (vm T.ni l)=⟨⟨T.kind,T.ni,T.no,ls++[l]⟩,4,told⟩∧mi ⟨⟨T.kind,T.ni,T.no,ls⟩,4,told⟩ (vm T.ni l)=0:=by
 obtain⟨c,rest,hc,h46,h35⟩:=Mi (l:=l) (ni:=T.ni)
 obtain⟨h1,h2⟩:=Rl hl hn
 have hsk:o0 (vm T.ni l)=false:=by
  rw[hc]
  refine ri gj λe=>h35 ?_
  have:c.toNat=35:=by
   have e2:((iY (c::rest) 0:Nat):Int)=(c.toNat:Int):=rfl
   omega
  exact UInt8.toNat.inj this
 have hne:¬vm T.ni l=[46,101]:=by rw[hc];intro e;exact h46 (List.cons.inj e).1
 have hnum:iS (vm T.ni l) [46,112] 0 64= -1:=by
  unfold iS
  rw[nt λk _ e=>h46 (by rw[hc]at e;exact(List.cons.inj e).1)]
 have hk:=Wn (r:=⟨⟨T.kind,T.ni,T.no,ls⟩,4,told⟩) (l:=vm T.ni l) (show ¬(4:Int)=0 by decide) (show ¬(4:Int)=1 by decide) (show ¬(4:Int)=5 by decide) (λe=>absurd e.2 (show ¬(4:Int)=2 by decide)) (λe=>absurd e.2 (show ¬(4:Int)≤3 by decide)) hne h1
 have hs:=gC (r:=⟨⟨T.kind,T.ni,T.no,ls⟩,4,told⟩) hsk
 rw[hk]at hs
 refine⟨hs.1.trans ?_,hs.2.trans ?_⟩
 ·simp only[h2]
 ·exact if_neg (by show ¬ls.length=64;omega)
theorem RL (a b:List (List UInt8)) (k:Nat) (hk:k≤b.length):oa (a++b) (a.length+k)=(b.take k).foldl kZ (oa a a.length):=by
 unfold oa
 rw[List.take_length_add_append,List.foldl_append,aan]
theorem vW (a b:List (List UInt8)) (k:Nat):(a++b).getD (a.length+k) []=b.getD k []:=by
 simp only[me]
 rw[aaI (by omega),Nat.add_sub_cancel_left]
theorem BO (h:fc T=true) (told:Int):∀k,k≤T.ls.length→((T.ls.map (vm T.ni)).take k).foldl kZ ⟨⟨T.kind,T.ni,T.no,[]⟩,4,told⟩=⟨⟨T.kind,T.ni,T.no,T.ls.take k⟩,4,told⟩
 |0,_=>rfl
 |k+1,hk=>by
  obtain⟨_,_,hi0,_,_,_,h64⟩:=iu h
  have hl:=mw h (show k<T.ls.length by omega)
  rw[aaH,abR,th (by omega),List.foldl_append,BO h told k (by omega)]
  rw[me,th (show k<T.ls.length by omega)]at hl
  have:=(Bs hl hi0 (ls:=T.ls.take k) GW (told:=told)).1
  rw[aaH,th (by omega)]
  exact this
theorem zP (h:fc T=true):(jy T).length≤1000:=by
 obtain⟨_,_,_,_,_,_,h64⟩:=iu h
 have:=oq h T.ls.length (am _)
 unfold jy
 simp only[An,aak,aa8]
 omega
theorem EH (h:fc T=true):de (jy T)=(T,0,0):=by
 obtain⟨hk0,hk3,hi0,hi8,ho1,ho4,h64⟩:=iu h
 have hL:dp (jy T)=gI T++[[]]:=by rw[Ek];exact zy _ (Mt h)
 have hlen:(gI T).length=T.ls.length+5:=by unfold gI;simp
 have hn:(dp (jy T)).length=(T.ls.length+5)+1:=by rw[hL,An,hlen];rfl
 obtain⟨r,hr,hre,q0,q1,q2,q3⟩:=KU h
 have hsplit:gI T=(gI T).take 4++(T.ls.map (vm T.ni)++[[46,101]]):=rfl
 have hget:∀q,q<T.ls.length+5→(dp (jy T)).getD q []=(gI T).getD q []:=λq hq=>by
  rw[hL]
  simp only[me]
  rw[aaK (by omega)]
 have hrd:∀q,q≤T.ls.length+5→oa (dp (jy T)) q=oa (gI T) q:=λq hq=>by
  unfold oa
  rw[hL,abT (by omega)]
 have hrow:∀k,k≤T.ls.length→oa (gI T) (4+k)=⟨⟨T.kind,T.ni,T.no,T.ls.take k⟩,4,(T.ls.length:Int)⟩:=λk hk=>by
  have e4:oa ((gI T).take 4) 4=r:=by unfold oa;rw[←hr];rfl
  have:=RL ((gI T).take 4) (T.ls.map (vm T.ni)++[[46,101]]) k iq
  rw[←hsplit]at this
  have e5:((gI T).take 4).length=4:=rfl
  rw[e5,e4,hre,abT (by simpa using hk),BO h _ k hk]at this
  exact this
 have hlast:gi ⟨T,4,(T.ls.length:Int)⟩ [46,101]=(⟨T,5,(T.ls.length:Int)⟩,0):=by
  rw[Us (show ¬(4:Int)=0 by decide) (show ¬(4:Int)=1 by decide) (show ¬(4:Int)=5 by decide) (λe=>absurd e.2 (show ¬(4:Int)=2 by decide)) (λe=>absurd e.2 (show ¬(4:Int)≤3 by decide)) rfl]
  rw[Mh gj]
 have hall:oa (gI T) (4+T.ls.length)=⟨T,4,(T.ls.length:Int)⟩:=by rw[hrow _ (am _),aan]
 have hgl:(gI T).getD (4+T.ls.length) []=[46,101]:=by
  have e:gI T=((gI T).take 4++T.ls.map (vm T.ni))++[[46,101]]:=rfl
  rw[e]
  have:=vW ((gI T).take 4++T.ls.map (vm T.ni)) [[46,101]] 0
  have e2:((gI T).take 4++T.ls.map (vm T.ni)).length=4+T.ls.length:=by simp[gI];omega
  rw[e2]at this
  exact this
 have hfin:oa (gI T) (T.ls.length+5)=⟨T,5,(T.ls.length:Int)⟩:=by
  rw[show T.ls.length+5=(4+T.ls.length)+1 by omega,pk (by omega),hall,hgl,(gC (rQ [101])).1,hlast]
 have hq:∀q,q<T.ls.length+5→mi (oa (dp (jy T)) q) ((dp (jy T)).getD q [])=0:=λq hq=>by
  rw[hget q hq,hrd q (by omega)]
  have r1:oa (gI T) 1=kZ Hv ((gI T).getD 0 []):=rfl
  have r2:oa (gI T) 2=kZ (kZ Hv ((gI T).getD 0 [])) ((gI T).getD 1 []):=rfl
  have r3:oa (gI T) 3=kZ (kZ (kZ Hv ((gI T).getD 0 [])) ((gI T).getD 1 [])) ((gI T).getD 2 []):=rfl
  by_cases h4:q<4
  ·match q,h4 with
   |0,_=>exact q0
   |1,_=>rw[r1];exact q1
   |2,_=>rw[r2];exact q2
   |3,_=>rw[r3];exact q3
  ·obtain⟨k,rfl⟩:∃k,q=4+k:=⟨q-4,by omega⟩
   by_cases hk:k<T.ls.length
   ·rw[hrow k (by omega)]
    have hl:=mw h hk
    have hg:(gI T).getD (4+k) []=vm T.ni (T.ls.getD k eV):=by
     have:=vW ((gI T).take 4) (T.ls.map (vm T.ni)++[[46,101]]) k
     rw[←hsplit]at this
     refine this.trans ?_
     simp only[me]
     rw[aaK (by simpa using hk),abR,th hk]
     rfl
    rw[hg]
    exact(Bs hl hi0 (ls:=T.ls.take k) GW).2
   ·obtain rfl:k=T.ls.length:=by omega
    rw[hall,hgl,(gC (rQ [101])).2,hlast]
 have hend:(dp (jy T)).getD (T.ls.length+5) []=[]:=by
  rw[hL]
  have:=vW (gI T) [[]] 0
  rw[hlen]at this
  exact this
 have hT:=zP h
 rw[Gn (by omega) hn hq hend (by rw[hrd _ (am _),hfin]),hrd _ (am _),hfin]
end
end
section
open Go Go.RowKit
def tK (T:Tb) (o:Nat) (m:Int):Nat→Nat
 |0=>0
 |k+1=>if (T.ls.getD k eV).os.getD o 0=m then tK T o m k ||| oH (T.ls.getD k eV).c.m (T.ls.getD k eV).c.v T.ni.toNat else tK T o m k
def pq (T:Tb) (o:Nat) (m:Int):Nat:=tK T o m T.ls.length
def Qh (k:Int) (all ones nz fr:Nat):Nat:=if k=0 then ones else if k=1 then ones ||| fr else andNot all nz
def Ee (T:Tb) (o:Nat):Nat:=Qh T.kind (fh T.ni.toNat) (pq T o 1) (pq T o 0) (pq T o 2)
def nV (T:Tb) (o:Nat):Bool:=decide (2≤T.kind)&&decide (pq T o 1 &&& pq T o 0≠0)
def su (T:Tb) (k:Nat):List Nat:=(List.range k).map λo=>pq T o 1
def mP (T:Tb) (k:Nat):List Nat:=(List.range k).map (Ee T)
def gF (T:Tb):Sp:=⟨T.ni,su T T.no.toNat,mP T T.no.toNat⟩
def zB (T:Tb):Int:=if fc T=true then (if (List.range T.no.toNat).any (nV T)=true then 4 else 0)else 1
section
variable {T:Tb} {o k p:Nat} {m:Int}
theorem Vi (h:(T.ls.getD k eV).os.getD o 0=m):tK T o m k ||| oH (T.ls.getD k eV).c.m (T.ls.getD k eV).c.v T.ni.toNat=tK T o m (k+1):=(if_pos h).symm
theorem VC (h:¬(T.ls.getD k eV).os.getD o 0=m):tK T o m k=tK T o m (k+1):=(if_neg h).symm
theorem yD (hn:T.ni.toNat≤8) (p:Nat):∀k,(tK T o m k).testBit p=true↔p<2^T.ni.toNat∧∃j,j<k∧(T.ls.getD j eV).os.getD o 0=m∧hold (T.ls.getD j eV).c p
 |0=>by simp[tK]
 |k+1=>by
  have ih:=yD hn p k
  rw[tK]
  split
  ·rename_i h
   rw[aaP,aaU,ih,iM hn,we,decide_eq_true_eq,decide_eq_true_eq]
   constructor
   ·rintro(⟨h1,j,hj,r⟩|⟨h1,h2⟩)
    ·exact⟨h1,j,by omega,r⟩
    ·exact⟨h1,k,by omega,h,h2⟩
   ·rintro⟨h1,j,hj,r⟩
    rcases aac.1 hj with hj|rfl
    ·exact .inl ⟨h1,j,hj,r⟩
    ·exact .inr ⟨h1,r.2⟩
  ·rename_i h
   rw[ih]
   constructor
   ·rintro⟨h1,j,hj,r⟩;exact⟨h1,j,by omega,r⟩
   ·rintro⟨h1,j,hj,r⟩
    rcases aac.1 hj with hj|rfl
    ·exact⟨h1,j,hj,r⟩
    ·exact absurd r.1 h
theorem I4 (h:fc T=true):T.ni.toNat≤8:=by obtain⟨_,_,_,h8,_⟩:=iu h;omega
theorem Pc (hn:T.ni.toNat≤8) (hp:256≤p):(tK T o m k).testBit p=false:=aah.2 λh=>by
 have h1:=((yD hn p k).1 h).1
 have h2:2^T.ni.toNat≤256:=by
  have:=aaf (show 0<2 by decide) hn
  simpa using this
 omega
theorem LS (hn:T.ni.toNat≤8):pq T o m<2^256:=gz.2 λj hj=>Pc hn hj
theorem Fo {s:Nat} (h:s<2^256):(((wd s 0:Nat):Int)=((wd 0 0:Nat):Int)∧((wd s 1:Nat):Int)=((wd 0 1:Nat):Int)∧((wd s 2:Nat):Int)=((wd 0 2:Nat):Int)∧((wd s 3:Nat):Int)=((wd 0 3:Nat):Int))↔s=0:=by
 constructor
 ·rintro⟨h0,h1,h2,h3⟩
  exact PI h (by decide) (by omega) (by omega) (by omega) (by omega)
 ·rintro rfl;exact⟨rfl,rfl,rfl,rfl⟩
theorem M0 {a b:Nat} (h:a<2^256):a &&& b<2^256:=aaw Nat.and_le_left h
theorem Rn (h2:2≤T.kind) (hn:T.ni.toNat≤8) (h:¬(((wd (pq T o 1 &&& pq T o 0) 0:Nat):Int)=((wd 0 0:Nat):Int)∧((wd (pq T o 1 &&& pq T o 0) 1:Nat):Int)=((wd 0 1:Nat):Int)∧((wd (pq T o 1 &&& pq T o 0) 2:Nat):Int)=((wd 0 2:Nat):Int)∧((wd (pq T o 1 &&& pq T o 0) 3:Nat):Int)=((wd 0 3:Nat):Int))):nV T o=true:=by
 unfold nV
 rw[decide_eq_true h2,aax]
 exact decide_eq_true λe=>h ((Fo (M0 (LS hn))).2 e)
theorem R9 (hn:T.ni.toNat≤8) (h:¬¬(((wd (pq T o 1 &&& pq T o 0) 0:Nat):Int)=((wd 0 0:Nat):Int)∧((wd (pq T o 1 &&& pq T o 0) 1:Nat):Int)=((wd 0 1:Nat):Int)∧((wd (pq T o 1 &&& pq T o 0) 2:Nat):Int)=((wd 0 2:Nat):Int)∧((wd (pq T o 1 &&& pq T o 0) 3:Nat):Int)=((wd 0 3:Nat):Int))):nV T o=false:=by
 unfold nV
 rw[decide_eq_false (p:=pq T o 1 &&& pq T o 0≠0) λe=>e ((Fo (M0 (LS hn))).1 (aaa h)),aaB]
theorem SQ (h:¬2≤T.kind):nV T o=false:=by unfold nV;rw[decide_eq_false h,aaJ]
theorem KR (T:Tb) (k:Nat):su T (k+1)=su T k++[pq T k 1]:=by simp[su,abN]
theorem HW (T:Tb) (k:Nat):mP T (k+1)=mP T k++[Ee T k]:=by simp[mP,abN]
theorem o7 (T:Tb) (k:Nat):(su T k).length=k:=by simp[su]
theorem zl (T:Tb) (k:Nat):(mP T k).length=k:=by simp[mP]
theorem Nj (T:Tb) {n:Nat} (h:k<n):(su T n).getD k 0=pq T k 1:=by simp[su,h]
theorem KN (T:Tb) {n:Nat} (h:k<n):(mP T n).getD k 0=Ee T k:=by simp[mP,h]
theorem Wy (h:¬fc T=true):zB T=1:=if_neg h
theorem Ya (h:fc T=true) (ho:o<T.no.toNat) (hc:nV T o=true):zB T=4:=by
 unfold zB;rw[if_pos h,if_pos (aaO.2 ⟨o,aam.2 ho,hc⟩)]
theorem TW (h:fc T=true) (hc:∀o,o<T.no.toNat→nV T o=false):zB T=0:=by
 unfold zB
 rw[if_pos h,if_neg]
 intro k
 obtain⟨o,ho,h2⟩:=aaO.1 k
 rw[hc o (aam.1 ho)]at h2;cases h2
theorem OX:zB T=0↔fc T=true∧∀o,o<T.no.toNat→nV T o=false:=by
 constructor
 ·intro h
  unfold zB at h
  split at h
  ·rename_i h1
   refine⟨h1,λo ho=>aah.2 λhc=> ?_⟩
   rw[if_pos (aaO.2 ⟨o,aam.2 ho,hc⟩)]at h
   cases h
  ·cases h
 ·rintro⟨h1,h2⟩;exact TW h1 h2
theorem ID (h:fc T=true) (hc:nV T o=false) (p:Nat):((pq T o 1).testBit p=true→(Ee T o).testBit p=true)∧((Ee T o).testBit p=true→p<2^T.ni.toNat):=by
 have hn:=I4 h
 have hb:∀m,(pq T o m).testBit p=true→p<2^T.ni.toNat:=λm hm=>((yD hn p _).1 hm).1
 unfold Ee Qh
 by_cases h0:T.kind=0
 ·rw[if_pos h0];exact⟨id,hb 1⟩
 rw[if_neg h0]
 by_cases h1:T.kind=1
 ·rw[if_pos h1,aaP,aaU]
  exact⟨.inl,λq=>q.elim (hb 1) (hb 2)⟩
 rw[if_neg h1,dU,fw,we,decide_eq_true_eq]
 refine⟨λq=>⟨hb 1 q,?_⟩,λq=>q.1⟩
 obtain⟨hk0,_⟩:=iu h
 unfold nV at hc
 rw[decide_eq_true (show 2≤T.kind by omega),aax]at hc
 have hz:=aaa (of_decide_eq_false hc)
 have h2:(pq T o 1 &&& pq T o 0).testBit p=false:=by rw[hz];exact aaF p
 rw[aad,q,aax]at h2
 rw[h2];rfl
theorem tN (h:zB T=0):dq (gF T)=true:=by
 obtain⟨h1,h2⟩:=OX.1 h
 obtain⟨hk0,hk3,hi0,hi8,ho1,ho4,h64⟩:=iu h1
 refine dD.2 ⟨hi0,hi8,?_,?_,?_,λk hk=> ?_⟩
 ·show 1≤(su T _).length;rw[o7];omega
 ·show (su T _).length≤4;rw[o7];omega
 ·show (su T _).length=(mP T _).length;rw[o7,zl]
 ·have hk2:k<T.no.toNat:=by rw[show (gF T).on=su T T.no.toNat from rfl,o7]at hk;exact hk
  have e1:Bh (gF T) k=pq T k 1:=Nj T hk2
  have e2:kM (gF T) k=Ee T k:=KN T hk2
  rw[e1,e2,d4,d4]
  refine⟨λp _ q=>(ID h1 (h2 k hk2) p).1 q,λp _ q=> ?_⟩
  rw[fw]
  exact decide_eq_true ((ID h1 (h2 k hk2) p).2 q)
end
section
variable {T:Tb} {o k n p:Nat} {os:List Int}
end
theorem G2 {a:Int} {u v:Value} (hu:u.oneCell'=true) (hv:v.oneCell'=true):(#[Value.int .i64 a,u,v]:Array Value).toList.all Value.oneCell'=true:=by
 simp only[aa7,abL,hu,hv]
 rfl
def Q0 (f0 f1 f2:Nat) (k:Int):Nat:=if k=0 then f0 else if k=1 then f1 else f2
section
variable {P:Program} {f:Nat→Value} {w:World} {d:Option Nat} {ty:TypeId} {ps:String} {af:Array Edge} {g:Option (Nat×Bool)} {x y:Operand}
theorem Bg {t e:TypeId} {fs:Array Field} {f0 f1 f2:Nat} {k:Int} (hx:dg f x= .agg #[.func (.func f0) #[] #[], .bool false, .func (.func f1) #[] #[], .bool false, .func (.func f2) #[] #[], .bool true, .func (.func f2) #[] #[], .bool true]) (hy:dg f y= .int .i64 k)
  (ht:P.underlying t=some (.array 4 e)) (he:P.underlying e=some (.struct fs)) (hc:(P.info? e).map (·.size)=some 2) (h0:0≤k) (h3:k≤3):
  (execOp (dg f) ⟨d, .index t x y,ty,ps,af,g⟩).run P w= .ok (.value (.agg #[.func (.func (Q0 f0 f1 f2 k)) #[] #[], .bool (decide (2≤k))])) w:=by
 obtain⟨i,hi,hs⟩:=go.1 hc
 have hk:k=0∨k=1∨k=2∨k=3:=by omega
 rcases hk with rfl|rfl|rfl|rfl<;>simp[execOp,hx,hy,Instr.index,run_underlying ht,run_underlying he,asIntOf,sizeOf,typeInfo,hi,hs,part,isAgg,Q0]
end
end
section
open Go Go.RowKit
def MT (ops:Array Oper) (Ls:List (Array Bool)):List (Array Bool):=(Ls.flatMap λL=>(Region.ready .any ops L).map λi=>L.setIfInBounds i true).eraseDups
def HT (ops:Array Oper) (A:List Nat) (L1:Array Bool):Nat→List (Array Bool)→Bool
 |0,Ls=>Ls.all λL=>L==L1
 |m+1,Ls=>(Ls.all λL=> !(Region.ready .any ops L).isEmpty&&(Region.ready .any ops L).all λi=>A.contains i)&&HT ops A L1 m (MT ops Ls)
section
variable {P:Program} {n:Nat} {ops:Array Oper} {Q:(Nat→Value)→World→Prop} {S:World→Prop} {f0:Nat→Value}
theorem Ew {T:List Nat} {g:Nat→Value} {d:Nat} {v:Value} (hd:oS T d=true):updo (mask T f0 g) (some d) v=mask T f0 (upd g d v):=by
 funext t
 show cond (Nat.beq t d) v (mask T f0 g t)=cond (oS T t) (cond (Nat.beq t d) v (g t)) (f0 t)
 cases e:Nat.beq t d with
 |true=>
  obtain rfl:=Nat.eq_of_beq_eq_true e
  rw[hd];rfl
 |false=>rfl
theorem Bx {T:List Nat}:mask T f0 f0=f0:=by
 funext t
 unfold mask
 cases oS T t<;>rfl
theorem yW {A:List Nat} {L1:Array Bool} {T:List Nat} {k:Nat} (I:Array Bool→(Nat→Value)→World→Prop)
  (hstep:∀i,A.contains i=true→∀L g w,i<L.size→I L g w→∃oi d,ops[i]? =some oi∧fW ops (mask T f0 g) oi=true∧oi.dst=some d∧jM n (some d)=true∧oS T d=true∧
   Yd P oi (mask T f0 g) w λv w'=>(S w'∨mg ops L i=true)∧I (L.setIfInBounds i true) (upd g d v) w')
  (hfin:∀g w,I L1 g w→WT P n ops Q S k L1 (mask T f0 g) w):
  ∀(m:Nat) (Ls:List (Array Bool)),HT ops A L1 m Ls=true→∀L,L∈Ls→∀g w,I L g w→WT P n ops Q S (k+m) L (mask T f0 g) w
 |0,Ls,h,L,hL,g,w,hI=>by
  have e:L=L1:=by
   have:=aaj.1 h L hL
   exact eq_of_beq this
  subst e
  exact hfin g w hI
 |m+1,Ls,h,L,hL,g,w,hI=>by
  rw[HT,we]at h
  have h1:=aaj.1 h.1 L hL
  rw[we]at h1
  refine⟨λhsz hcl a ha=>⟨λh0=>(by rw[h0]at h1;exact absurd h1.1 (by decide)),λj hj=> ?_⟩⟩
  have hA:=aaj.1 h1.2 j hj
  have hjlt:j<L.size:=by
   obtain⟨_,oj,hoj,_⟩:=mem_ready.1 hj
   rw[hsz];exact(abC.1 hoj).1
  obtain⟨oi,d,hi,hw,hd,hok,hT,hY⟩:=hstep j hA L g w hjlt hI
  refine Ey (K:=λf' w'=>(S w'∨mg ops L j=true)∧WT P n ops Q S (k+m) (L.setIfInBounds j true) f' w') hi hw hd hok ha
   (λf' a' w' hr' hk=>⟨hk.1,hk.2.out (by simpa using hsz) (hcl.add hj) a' hr'⟩) (hY.mono λv w' hv=>⟨hv.1,?_⟩)
  rw[Ew hT]
  refine yW I hstep hfin m _ h.2 _ ?_ _ _ hv.2
  unfold MT
  rw[List.mem_eraseDups]
  exact abY.2 ⟨L,hL,aag.2 ⟨j,hj,rfl⟩⟩
theorem UW {A:List Nat} {L0 L1:Array Bool} {T:List Nat} {k m:Nat} {w:World} (I:Array Bool→(Nat→Value)→World→Prop) (hc:HT ops A L1 m [L0]=true) (h0:I L0 f0 w)
  (hstep:∀i,A.contains i=true→∀L g w,i<L.size→I L g w→∃oi d,ops[i]? =some oi∧fW ops (mask T f0 g) oi=true∧oi.dst=some d∧jM n (some d)=true∧oS T d=true∧
   Yd P oi (mask T f0 g) w λv w'=>(S w'∨mg ops L i=true)∧I (L.setIfInBounds i true) (upd g d v) w')
  (hfin:∀g w,I L1 g w→WT P n ops Q S k L1 (mask T f0 g) w):WT P n ops Q S (k+m) L0 f0 w:=by
 have:=yW (f0:=f0) (T:=T) I hstep hfin m [L0] hc L0 (Z8.2 rfl) f0 w h0
 rwa [Bx]at this
theorem D0 {f f':Nat→Value} {w:World} {k:Nat} {L:Array Bool} (e:f=f') (h:WT P n ops Q S k L f' w):WT P n ops Q S k L f w:=by rw[e];exact h
theorem Bq {T:List Nat} {g:Nat→Value} (l:List (Nat×Value)) (h:qY (mask T f0 g) l):mask T f0 g=updL l (mask T f0 (mask T f0 g)):=xu (dB.mask T f0 g) l h
theorem Uf {L:Array Bool} {i j:Nat} (h:(L.setIfInBounds i true).getD j false=true):j=i∨L.getD j false=true:=by
 rcases rq.1 h with ⟨e,_⟩|h
 ·exact .inl e
 ·exact .inr h
theorem dR {L:Array Bool} {i j:Nat} (hne:j≠i) (h:(L.setIfInBounds i true).getD j false=true):L.getD j false=true:=(Uf h).resolve_left hne
end
end
section
open Go Go.RowKit
theorem Jo:dT Tryz.prog 133=some (.agg #[.nilFunc, .bool false, .nilFunc, .bool false, .nilFunc, .bool false, .nilFunc, .bool false]):=by kernel_rfl
theorem CY:dT Tryz.prog 132=some (.agg #[.nilFunc, .bool false]):=by kernel_rfl
theorem O4:(Tryz.prog.info? 4).map (·.size)=some 1:=by kernel_rfl
theorem HV:(Tryz.prog.info? 130).map (·.size)=some 1:=by kernel_rfl
theorem kv {f:Nat→Value} {w:World} {d:Option Nat} {ty:TypeId} {ps:String} {af:Array Edge} {g:Option (Nat×Bool)} {x0 x1:Operand} {c0_0 c1_0:Value} (h0:dg f x0=c0_0) (k0:c0_0.cells= #[c0_0]) (h1:dg f x1=c1_0) (k1:c1_0.cells= #[c1_0]):
    (execOp (dg f) ⟨d, .build 132 #[(0,x0),(1,x1)],ty,ps,af,g⟩).run Tryz.prog w= .ok (.value (.agg #[c0_0,c1_0])) w:=by
  obtain⟨i0,hi0,hz0⟩:=Do.1 (show (Tryz.prog.info? 132).bind (·.zero)=_ from CY)
  obtain⟨j4,hj4,hs4⟩:=go.1 O4
  obtain⟨j130,hj130,hs130⟩:=go.1 HV
  simp[execOp,h0,k0,h1,k1,Instr.build,zeroValue,typeInfo,sizeOf,hi0,hz0,run_underlying Tryz.underlying132,Instr.fill,dX,hj4,hs4,hj130,hs130]
theorem GU:(Tryz.prog.info? 132).map (·.size)=some 2:=by kernel_rfl
theorem sv {f:Nat→Value} {w:World} {d:Option Nat} {ty:TypeId} {ps:String} {af:Array Edge} {g:Option (Nat×Bool)} {x0 x1 x2 x3:Operand} {c0_0 c0_1 c1_0 c1_1 c2_0 c2_1 c3_0 c3_1:Value} (h0:dg f x0= .agg #[c0_0,c0_1]) (h1:dg f x1= .agg #[c1_0,c1_1]) (h2:dg f x2= .agg #[c2_0,c2_1]) (h3:dg f x3= .agg #[c3_0,c3_1]):
    (execOp (dg f) ⟨d, .build 133 #[(0,x0),(1,x1),(2,x2),(3,x3)],ty,ps,af,g⟩).run Tryz.prog w= .ok (.value (.agg #[c0_0,c0_1,c1_0,c1_1,c2_0,c2_1,c3_0,c3_1])) w:=by
  obtain⟨i0,hi0,hz0⟩:=Do.1 (show (Tryz.prog.info? 133).bind (·.zero)=_ from Jo)
  obtain⟨j132,hj132,hs132⟩:=go.1 GU
  simp[execOp,h0,h1,h2,h3,Instr.build,zeroValue,typeInfo,sizeOf,hi0,hz0,run_underlying Tryz.underlying133,Instr.fill,dX,hj132,hs132]
theorem DX:j8 Tryz.prog 133=some 8:=by kernel_rfl
theorem C0:dT Tryz.prog 59=some (.agg #[.int .i64 0, .slice none 0 0, .slice none 0 0]):=by kernel_rfl
theorem AO:(Tryz.prog.info? 57).map (·.size)=some 1:=by kernel_rfl
theorem wn {f:Nat→Value} {w:World} {d:Option Nat} {ty:TypeId} {ps:String} {af:Array Edge} {g:Option (Nat×Bool)}:
    (execOp (dg f) ⟨d, .build 59 #[],ty,ps,af,g⟩).run Tryz.prog w= .ok (.value (.agg #[.int .i64 0, .slice none 0 0, .slice none 0 0])) w:=by
  obtain⟨i0,hi0,hz0⟩:=Do.1 (show (Tryz.prog.info? 59).bind (·.zero)=_ from C0)
  obtain⟨j3,hj3,hs3⟩:=go.1 fH
  obtain⟨j57,hj57,hs57⟩:=go.1 AO
  simp[execOp,Instr.build,zeroValue,typeInfo,sizeOf,hi0,hz0,run_underlying Tryz.underlying59,Instr.fill,dX,hj3,hs3,hj57,hs57]
theorem Mx:cX Tryz.prog 81=true:=by kernel_rfl
theorem FO:j8 Tryz.prog 132=some 2:=by kernel_rfl
theorem Cj {f:Nat→Value} {w:World} {d:Option Nat} {ty:TypeId} {ps:String} {af:Array Edge} {g:Option (Nat×Bool)} {x0:Operand} {c0_0:Value} (h0:dg f x0=c0_0) (k0:c0_0.cells= #[c0_0]):
    (execOp (dg f) ⟨d, .build 59 #[(0,x0)],ty,ps,af,g⟩).run Tryz.prog w= .ok (.value (.agg #[c0_0, .slice none 0 0, .slice none 0 0])) w:=by
  obtain⟨i0,hi0,hz0⟩:=Do.1 (show (Tryz.prog.info? 59).bind (·.zero)=_ from C0)
  obtain⟨j3,hj3,hs3⟩:=go.1 fH
  obtain⟨j57,hj57,hs57⟩:=go.1 AO
  simp[execOp,h0,k0,Instr.build,zeroValue,typeInfo,sizeOf,hi0,hz0,run_underlying Tryz.underlying59,Instr.fill,dX,hj3,hs3,hj57,hs57]
theorem G0:cX Tryz.prog 82=true:=by kernel_rfl
theorem G4:dS Tryz.prog 132 1=some 1:=by kernel_rfl
theorem M7 {f:Nat→Value} {w:World} {d:Option Nat} {ty t2:TypeId} {ps:String} {af:Array Edge} {g:Option (Nat×Bool)} {x y:Operand} {a0 a1 a2 a3 b0 b1 b2 b3:Int} (hx:dg f x= .agg #[.int .u64 a0, .int .u64 a1, .int .u64 a2, .int .u64 a3]) (hy:dg f y= .agg #[.int .u64 b0, .int .u64 b1, .int .u64 b2, .int .u64 b3]):
    (execOp (dg f) ⟨d, .binOp .neq 40 x y t2,ty,ps,af,g⟩).run Tryz.prog w= .ok (.value (.bool (decide (¬(a0=b0∧a1=b1∧a2=b2∧a3=b3))))) w:=by
  have hg:Tryz.prog.eqGuardType Tryz.prog.depth 40=false:=by kernel_rfl
  have ha:=mK (P:=Tryz.prog) w 9999 4 40 38 #[.int .u64 a0, .int .u64 a1, .int .u64 a2, .int .u64 a3] #[.int .u64 b0, .int .u64 b1, .int .u64 b2, .int .u64 b3]
    (λi=> .int .u64 ([a0,a1,a2,a3].getD i 0)) (λi=> .int .u64 ([b0,b1,b2,b3].getD i 0)) (λi=>[a0,a1,a2,a3].getD i 0==[b0,b1,b2,b3].getD i 0) Tryz.underlying40 jW (by simp[isAgg,run_underlying Tryz.underlying38])
    (λi hi=>by
      have:i=0∨i=1∨i=2∨i=3:=by omega
      rcases this with rfl|rfl|rfl|rfl<;>rfl)
    (λi hi=>by
      have:i=0∨i=1∨i=2∨i=3:=by omega
      rcases this with rfl|rfl|rfl|rfl<;>rfl)
    (λi hi=>run_equalIn_int w 9998 38 .u64 .u64 _ _ Tryz.underlying38)
  simp only[execOp,hx,hy,Sem.run_bind,run_eqGuard_agg _ _ _ _ _ _ _ hg,Result.andThen_ok,run_neq_struct,ha]
  simp[List.range,List.range.loop]
  by_cases q0:a0=b0<;>by_cases q1:a1=b1<;>by_cases q2:a2=b2<;>by_cases q3:a3=b3<;>simp[q0,q1,q2,q3]
theorem Gw:dS Tryz.prog 132 0=some 0:=by kernel_rfl
theorem NG:eE Tryz.prog 130=true:=by kernel_rfl
theorem pY:(dT Tryz.prog 40).map (λz=>z.cells.size)=some 4:=by kernel_rfl
theorem u6 (a b c e:Nat) (w:World):
    Fn Tryz.prog 128 #[eb a,eb b,eb c,eb e] w λv w'=>v=eb (andNot a c):=by
 refine cH (n:=12) Tryz.func128 rfl rfl rfl λhB=> ?_
 refine Zr<|Zy (dt (c:= #[_,_,_,_]) rfl rfl λx W3 y h d=> ?_)
 replace hB:=Ze hB h
 refine Zy (dt (c:= #[_,_,_,_]) rfl rfl λz W6 A i B=> ?_)
 obtain⟨hB,d⟩:=i.k2 hB d
 refine Zy (dt (c:= #[_,_,_,_]) rfl rfl λC W9 D j g=> ?_)
 obtain⟨hB,d⟩:=j.k2 hB d
 refine Zy (dt (c:= #[_,_,_,_]) rfl rfl λE F G k H=> ?_)
 obtain⟨hB,d,g⟩:=k.k3 hB d g
 refine Zy (cI ee rfl λl m o p f=> ?_)
 have q:=ZO o hB
 obtain⟨hB,d,g⟩:=p.k3 hB d g
 replace f:At m l #[wv 0 0,wv 0 1,wv 0 2,wv 0 3] 40:=f
 refine ct<|Zr<|Zv (cy rfl cA rfl d)<|Zv (cy rfl cA rfl g)<|ZC (vs:=[.agg #[_,_,_,_], .agg #[_,_,_,_]]) sc (l7 _ _ _) rfl λI J r s=> ?_
 obtain⟨hB,f⟩:=r.k2 hB f
 obtain rfl:=s
 refine Zy (cz rfl rfl cA rfl f rfl rfl λK t u=> ?_)
 replace hB:=Zg hB t q
 replace f:=u
 refine ct<|Zt<|jr rfl cA f rfl ⟨hB,?_⟩
 rfl
theorem uM (a b c e:Nat) (w:World):
    Fn Tryz.prog 129 #[eb a,eb b,eb c,eb e] w λv w'=>v=eb b:=by
 refine cH (n:=10) Tryz.func129 rfl rfl rfl λhB=> ?_
 refine Zr<|Zy (dt (c:= #[_,_,_,_]) rfl rfl λs W3 t g u=> ?_)
 replace hB:=Ze hB g
 refine Zy (dt (c:= #[_,_,_,_]) rfl rfl λx W6 y h d=> ?_)
 replace hB:=Ze hB h
 refine Zy (dt (c:= #[_,_,_,_]) rfl rfl λz W9 A i B=> ?_)
 obtain⟨hB,d⟩:=i.k2 hB d
 refine Zy (dt (c:= #[_,_,_,_]) rfl rfl λC D E j F=> ?_)
 obtain⟨hB,d⟩:=j.k2 hB d
 refine Zy (cI ee rfl λk l m o f=> ?_)
 have p:=ZO m hB
 obtain⟨hB,d⟩:=o.k2 hB d
 replace f:At l k #[wv 0 0,wv 0 1,wv 0 2,wv 0 3] 40:=f
 refine ct<|Zr<|Zv (cy rfl cA rfl d)<|Zy (cz rfl rfl cA rfl f rfl rfl λG q r=> ?_)
 replace hB:=Zg hB q p
 replace f:=r
 refine ct<|Zt<|jr rfl cA f rfl ⟨hB,?_⟩
 rfl
theorem vi (a b c e:Nat) (w:World):
    Fn Tryz.prog 130 #[eb a,eb b,eb c,eb e] w λv w'=>v=eb (b ||| e):=by
 refine cH (n:=12) Tryz.func130 rfl rfl rfl λhB=> ?_
 refine Zr<|Zy (dt (c:= #[_,_,_,_]) rfl rfl λx W3 y h z=> ?_)
 replace hB:=Ze hB h
 refine Zy (dt (c:= #[_,_,_,_]) rfl rfl λA W6 B i d=> ?_)
 replace hB:=Ze hB i
 refine Zy (dt (c:= #[_,_,_,_]) rfl rfl λC W9 D j E=> ?_)
 obtain⟨hB,d⟩:=j.k2 hB d
 refine Zy (dt (c:= #[_,_,_,_]) rfl rfl λF G H k g=> ?_)
 obtain⟨hB,d⟩:=k.k2 hB d
 refine Zy (cI ee rfl λl m o p f=> ?_)
 have q:=ZO o hB
 obtain⟨hB,d,g⟩:=p.k3 hB d g
 replace f:At m l #[wv 0 0,wv 0 1,wv 0 2,wv 0 3] 40:=f
 refine ct<|Zr<|Zv (cy rfl cA rfl d)<|Zv (cy rfl cA rfl g)<|ZC (vs:=[.agg #[_,_,_,_], .agg #[_,_,_,_]]) pS (pj _ _ _) rfl λI J r s=> ?_
 obtain⟨hB,f⟩:=r.k2 hB f
 obtain rfl:=s
 refine Zy (cz rfl rfl cA rfl f rfl rfl λK t u=> ?_)
 replace hB:=Zg hB t q
 replace f:=u
 refine ct<|Zt<|jr rfl cA f rfl ⟨hB,?_⟩
 rfl
theorem YY (k:Int) (all ones nz fr:Nat) (w:World):Fn Tryz.prog (Q0 129 130 128 k) #[eb all,eb ones,eb nz,eb fr] w λv w'=>v=eb (Qh k all ones nz fr):=by
  unfold Q0 Qh
  by_cases h0:k=0
  · rw[if_pos h0,if_pos h0];exact uM all ones nz fr w
  · rw[if_neg h0,if_neg h0]
    by_cases h1:k=1
    · rw[if_pos h1,if_pos h1];exact vi all ones nz fr w
    · rw[if_neg h1,if_neg h1];exact u6 all ones nz fr w
theorem MV (k:Int):cX Tryz.prog (Q0 129 130 128 k)=true:=by
  unfold Q0
  by_cases h0:k=0
  · rw[if_pos h0];kernel_rfl
  · rw[if_neg h0]
    by_cases h1:k=1
    · rw[if_pos h1];kernel_rfl
    · rw[if_neg h1];kernel_rfl
theorem qm (w:World):
    Fn Tryz.prog 81 #[] w λv w'=>v= .agg #[.func (.func 129) #[] #[], .bool false, .func (.func 130) #[] #[], .bool false, .func (.func 128) #[] #[], .bool true, .func (.func 128) #[] #[], .bool true]:=by
 refine cH (n:=9) Tryz.func81 rfl rfl rfl λhB=> ?_
 refine Zr<|Zy (cI Jo rfl λg W3 b c a=> ?_)
 have d:=ZO b hB
 replace hB:=Ze hB c
 refine ct<|Zr<|Zw (.func (.func 128) #[] #[]) rfl<|ct<|Zr<|Zv (kv (h0:=rfl) (k0:=rfl) (h1:=rfl) (k1:=rfl) (c0_0:= .func (.func 129) #[] #[]) (c1_0:= .bool false))<|Zv (kv (h0:=rfl) (k0:=rfl) (h1:=rfl) (k1:=rfl) (c0_0:= .func (.func 130) #[] #[]) (c1_0:= .bool false))<|Zw (.func (.func 128) #[] #[]) rfl<|Zv (kv (h0:=rfl) (k0:=rfl) (h1:=rfl) (k1:=rfl) (c0_0:= .func (.func 128) #[] #[]) (c1_0:= .bool true))<|Zw (.func (.func 128) #[] #[]) rfl<|Zv (kv (h0:=rfl) (k0:=rfl) (h1:=rfl) (k1:=rfl) (c0_0:= .func (.func 128) #[] #[]) (c1_0:= .bool true))<|Zv (sv (h0:=rfl) (h1:=rfl) (h2:=rfl) (h3:=rfl))<|Zy (cz rfl rfl DX rfl a rfl rfl λh e f=> ?_)
 replace hB:=Zg hB e d
 replace a:=f
 refine ct<|Zt<|jr rfl DX a rfl ⟨hB,?_⟩
 rfl
theorem oR (T:Tb) (lv:Value) (vs:List uI) (o:Nat) (m:Int) (w:World) (hlv:dh iH 3 w lv vs) (hls:jX w vs T.ls) (hmb:∀i,i<T.ls.length→(T.ls.getD i eV).c.m<256∧(T.ls.getD i eV).c.v<256) (hr:fc T=true) (ho:(o:Int)<T.no):
    Fn Tryz.prog 82 #[.agg #[.int .i64 T.kind, .int .i64 T.ni, .int .i64 T.no,lv], .int .i64 (o:Int), .int .i64 m] w λv w'=>v=eb (pq T o m):=by
 refine cH (n:=39) Tryz.func82 rfl rfl rfl λhB=> ?_
 have hle:=hls.len
 obtain⟨hk0,hk3,hi0,hi8,hno1,hno4,hl64⟩:=iu hr
 refine Zr<|Zy (dt (c:= #[_,_,_,_]) rfl rfl λB W3 ac C d=> ?_)
 replace hB:=Ze hB C
 refine Zy (cI ee rfl λr W6 D E a=> ?_)
 have F:=ZO D hB
 obtain⟨hB,d⟩:=E.k2 hB d
 replace a:At W6 r #[wv 0 0,wv 0 1,wv 0 2,wv 0 3] 40:=a
 refine ct<|Zr<|Zy (cI ee rfl λs G t H b=> ?_)
 have I:=ZO t hB
 have u:=Zn t a.lt
 obtain⟨hB,d,a⟩:=H.k3 hB d a
 replace b:At G s #[wv 0 0,wv 0 1,wv 0 2,wv 0 3] 40:=b
 refine ct<|Zq<|Zr<|Zf rfl eq<|ZL lv rfl fF d rfl<|Zv (cT (v:=lv) rfl (Below.slT hB hlv) ff)<|ZZ rfl<|cx ?_
 refine cS (σ:=(Nat)) [9,11,15,37] (λk=>[(15, .int .i64 (k:Int))]) (λk W=>(Below w.heap.size w W)∧(At W B _ 24)∧(At W r _ 40)∧(At W s #[wv (tK T o m k) 0,wv (tK T o m k) 1,wv (tK T o m k) 2,wv (tK T o m k) 3] 40)∧(k≤T.ls.length)∧(True)) (λk=>T.ls.length-k) (0) ⟨rfl,trivial⟩ ⟨hB,d,a,b,(my _),trivial⟩ ?_
 rintro k ad ae ⟨hB,d,a,b,hk,_⟩ af x
 refine Zr<|Zv (dk rfl rfl)<|ct<|Zq<|ZQ rfl (λJ=> ?_) λJ=> ?_
 refine cu<|Zq<|cx ?_
 have hck:=hls.c k (by omega)
 have hln:=mw hr (show k<T.ls.length by omega)
 obtain⟨hr1,hr2,hr3⟩:=lj.1 hln
 have hbk:=hmb k (by omega)
 have y:(vs.getD k fL).c.m<256∧(vs.getD k fL).c.v<256:=by rw[hck];exact hbk
 have hrb:dC (vs.getD k fL).c.m (vs.getD k fL).c.v T.ni=true:=by rw[hck];exact hr1
 refine Zr<|Zv (df (v:=lv) rfl (Below.slT hB hlv) rfl ff Om (by omega))<|Zv (gH rfl gp (dh.cell (Below.slT hB hlv) ex fL Om (by omega) 0 rfl) (dh.cell (Below.slT hB hlv) ex fL Om (by omega) 1 rfl) (dh.cell (Below.slT hB hlv) ex fL Om (by omega) 2 rfl)) ?_
 have j:dh dJ 1 w ((vs.getD k fL).o) ((T.ls.getD k eV).os):=hls.o k (by omega)
 refine Zy (cI l8 rfl λag ah K L e=> ?_)
 have M:=ZO K hB
 obtain⟨hB,d,a,b⟩:=L.k4 hB d a b
 refine Zy (cz rfl rfl gp rfl e rfl (by exact mN (dh.one j)) λai g N=> ?_)
 replace hB:=Zg hB g M
 replace d:=At.grownAt d e g Dd
 replace a:=At.grownAt a e g Dd
 replace b:=At.grownAt b e g Dd
 replace e:=N
 refine ct<|Zr<|Zf rfl d8<|ZL ((vs.getD k fL).o) rfl dV e rfl<|Zi rfl<|Zv (df (v:=(vs.getD k fL).o) rfl (Below.slT hB j) rfl cM Om (by omega))<|Zv (cB (v:= .int .i64 _) rfl cK (dh.cell (Below.slT hB j) dI 0 Om (by omega) 0 rfl))<|Zi rfl<|Zv (dW rfl rfl)<|ct<|ZQ rfl (λl=> ?_) λl=> ?_
 refine Zr<|Zf rfl jf<|Zv (fD rfl cZ (At.cell e rfl) (At.cell e rfl))<|Zf rfl fx<|Zl rfl cK d rfl<|ZC (vs:=[.agg #[_,_], .int .i64 _]) vO (ju (vs.getD k fL).c.m (vs.getD k fL).c.v _ _ y.1 y.2) rfl λaj ak O z=> ?_
 obtain⟨hB,d,a,b⟩:=O.k4 hB d a b
 rw[if_pos hrb]at z
 obtain rfl:=z
 refine Zw (.tuple #[.agg #[_,_,_,_], .int .i64 0]) rfl<|Zv (c7 rfl)<|Zv (da rfl)<|Zy (cI ee rfl λP Q p R f=> ?_)
 have S:=ZO p hB
 have U:=Zn p a.lt
 have V:=Zn p b.lt
 obtain⟨hB,d,a,b⟩:=R.k4 hB d a b
 replace f:At Q P #[wv 0 0,wv 0 1,wv 0 2,wv 0 3] 40:=f
 refine Zy (cz rfl rfl cA rfl f rfl rfl λal h X=> ?_)
 replace hB:=Zg hB h S
 replace d:=At.grownAt d f h Dd
 replace a:=At.grownNe a U h
 replace b:=At.grownNe b V h
 replace f:=X
 refine ZZ rfl<|cN<|Zv (cy rfl cA rfl b)<|Zv (cy rfl cA rfl f)<|ZC (vs:=[.agg #[_,_,_,_], .agg #[_,_,_,_]]) pS (pj _ _ _) rfl λao ap Y Z=> ?_
 obtain⟨hB,d,a,b⟩:=Y.k4 hB d a b
 obtain rfl:=Z
 refine Zy (cz rfl rfl cA rfl b rfl rfl λaq q aa=> ?_)
 replace hB:=Zg hB q I
 replace d:=At.grownAt d b q Dd
 replace a:=At.grownNe a u q
 replace b:=aa
 refine ct<|ZT rfl rfl rfl ?_
 exact x _ _ (k+1) Za ⟨rfl,trivial⟩ ⟨hB,d,a,(by (rw[←Vi (o:=o) (k:=k) l,←hck];exact b)),Om,trivial⟩ Zo
 refine cu<|ZT rfl rfl rfl ?_
 exact x _ _ (k+1) Za ⟨rfl,trivial⟩ ⟨hB,d,a,(by (rw[←VC (o:=o) (k:=k) l];exact b)),Om,trivial⟩ Zo
 refine cR<|Zr<|Zv (cy rfl cA rfl b)<|Zy (cz rfl rfl cA rfl a rfl rfl λar A ab=> ?_)
 replace hB:=Zg hB A F
 replace b:=At.grownNe b (Ne.symm u) A
 replace a:=ab
 refine ct<|Zt<|jr rfl cA a rfl ⟨hB,?_⟩
 obtain rfl:k=T.ls.length:=by omega
 rfl
set_option maxHeartbeats 4000000 in
theorem K4 (T:Tb) (lv:Value) (vs:List uI) (w:World) (hlv:dh iH 3 w lv vs) (hls:jX w vs T.ls) (hmb:∀i,i<T.ls.length→(T.ls.getD i eV).c.m<256∧(T.ls.getD i eV).c.v<256):
    Fn Tryz.prog 25 #[.agg #[.int .i64 T.kind, .int .i64 T.ni, .int .i64 T.no,lv]] w λv w'=>(zB T=0∧∃onV mayV,v= .tuple #[.agg #[.int .i64 T.ni,onV,mayV], .int .i64 0]∧cD fT 4 40 w' w.heap.size onV (su T T.no.toNat)∧cD fT 4 40 w' w.heap.size mayV (mP T T.no.toNat))∨(zB T≠0∧v= .tuple #[.agg #[.int .i64 0, .slice none 0 0, .slice none 0 0], .int .i64 (zB T)]):=by
 refine cH (n:=73) Tryz.func25 rfl rfl rfl λhB=> ?_
 have hle:=hls.len
 refine Zr<|Zy (dt (c:= #[_,_,_,_]) rfl rfl λaP W3 bM aQ f=> ?_)
 replace hB:=Ze hB aQ
 refine Zy (cI C0 rfl λaR W6 aS aT e=> ?_)
 have Z:=ZO aS hB
 obtain⟨hB,f⟩:=aT.k2 hB f
 refine ZZ rfl<|Zq<|Zr<|Zv (cy rfl eA rfl f)<|ZC (vs:=[.agg #[_,_,_,_]]) LP (wO _ _ _ _ (Below.slT hB hlv) (jX.below hB hls) m5) rfl λbN bO aU aV=> ?_
 obtain⟨hB,f,e⟩:=aU.k3 hB f e
 obtain rfl:=aV
 refine Zv (eR rfl)<|ct<|ZQ rfl (λaa=> ?_) λaa=> ?_
 refine Zr<|Zv (wn)<|Zy (cz rfl rfl el rfl e rfl rfl λbP aW aX=> ?_)
 replace hB:=Zg hB aW Z
 replace e:=aX
 refine ZZ rfl<|Zt<|eI rfl el e rfl (v1:= .int .i64 1) rfl ⟨hB,?_⟩
 (rw[Wy (by simpa using aa)];exact .inr ⟨by decide,rfl⟩)
 refine cu ?_
 have hr:fc T=true:=by simpa using aa
 obtain⟨hk0,hk3,hi0,hi8,hno1,hno4,hl64⟩:=iu hr
 have hn8:=I4 hr
 obtain⟨no,hno⟩:=aau (show 0≤T.no by omega)
 refine Zr<|Zf rfl fx<|Zl rfl cK f rfl<|ZC vY (nn _ _) rfl λbQ bR aY ay=> ?_
 obtain⟨hB,f,e⟩:=aY.k3 hB f e
 rw[if_pos ⟨hi0,hi8⟩]at ay
 obtain rfl:=ay
 refine Zw (.tuple #[.agg #[_,_,_,_], .int .i64 0]) rfl<|Zv (c7 rfl)<|Zv (da rfl)<|Zy (cI ee rfl λaz aZ a0 a1 j=> ?_)
 have a2:=ZO a0 hB
 obtain⟨hB,f,e⟩:=a1.k3 hB f e
 replace j:At aZ az #[wv 0 0,wv 0 1,wv 0 2,wv 0 3] 40:=j
 refine Zy (cz rfl rfl cA rfl j rfl rfl λbS ab a3=> ?_)
 replace hB:=Zg hB ab a2
 replace f:=At.grownAt f j ab Dd
 replace e:=At.grownAt e j ab Dd
 replace j:=a3
 refine ZZ rfl ?_
 refine rN (σ:=(Nat)) [6,6,22,25] (λD=>[(6, .pointer (some ⟨D,0,none⟩))]) (λW=>(Below w.heap.size w W)∧(At W aP _ 24)∧(At W aR _ 59)∧(At W az _ 40)∧(True)) ⟨hB,f,e,j,trivial⟩ (λD W=>(At W D #[.func (.func (Q0 129 130 128 T.kind)) #[] #[], .bool (decide (2≤T.kind))] 132)∧(w.heap.size≤D)∧(True)) (λbT aA=> ?_) ?_
 refine fe dz fQ (λa4 a5=> ?_)
 obtain⟨hB,f,e,j⟩:=a5.k4 hB f e j
 have hS:=dz.refl a4
 refine Tf 1 rfl rfl jg hS<|Tk 2 rfl (λ_ hq=>cB (v:= .int .i64 _) rfl cK (At.cell (hq.at f) rfl)) hS ?_
 refine tw 0 4 jW rfl rfl rfl rfl rfl rfl rfl rfl (Yd.call (Qu Mx) (qm _) (λa6 bU ac ad=>⟨.inl (hS.trans ac),?_⟩)) (cI CY rfl (λD bV a7 ae l=>⟨.inl (hS.trans ae),?_⟩))
 obtain⟨hB,f,e,j⟩:=ac.k4 hB f e j
 replace hS:=hS.trans ac
 obtain rfl:=ad
 refine Tk 3 rfl (λ_ _=>Bg rfl rfl Tryz.underlying133 Tryz.underlying132 jW hk0 hk3) hS<|To 4 rfl (cI CY rfl λD bW a8 aB l=>⟨.inl (hS.trans aB),?_⟩)
 have M:=ZO a8 hB
 obtain⟨hB,f,e,j⟩:=aB.k4 hB f e j
 refine To 5 rfl (cz rfl rfl FO rfl l rfl rfl λbX R a9=>⟨.inr jW,?_⟩)
 replace hB:=Zg hB R M
 replace f:=At.grownAt f l R Dd
 replace e:=At.grownAt e l R Dd
 replace j:=At.grownAt j l R Dd
 replace l:=a9
 refine Td ?_
 exact aA _ _ (D) Za ⟨rfl,trivial⟩ ⟨hB,f,e,j,trivial⟩ (by exact⟨(by exact l),M,trivial⟩)
 have M:=ZO a7 hB
 obtain⟨hB,f,e,j⟩:=ae.k4 hB f e j
 replace hS:=hS.trans ae
 refine To 0 rfl (TC Mx (qm _) rfl λa6 bY af ad=>⟨.inl (hS.trans af),?_⟩)
 obtain⟨hB,f,e,j,l⟩:=af.k5 hB f e j l
 replace hS:=hS.trans af
 obtain rfl:=ad
 refine Tk 3 rfl (λ_ _=>Bg rfl rfl Tryz.underlying133 Tryz.underlying132 jW hk0 hk3) hS<|To 5 rfl (cz rfl rfl FO rfl l rfl rfl λbZ S ba=>⟨.inr jW,?_⟩)
 replace hB:=Zg hB S M
 replace f:=At.grownAt f l S Dd
 replace e:=At.grownAt e l S Dd
 replace j:=At.grownAt j l S Dd
 replace l:=ba
 refine Td ?_
 exact aA _ _ (D) Za ⟨rfl,trivial⟩ ⟨hB,f,e,j,trivial⟩ (by exact⟨(by exact l),M,trivial⟩)
 rintro D b0 r ⟨hB,f,e,j,_⟩ ⟨l,M,_⟩
 have ag:=Below.slT hB hlv
 have ah:=jX.below hB hls
 have U:=hB
 replace hB:=Below.refl r.heap.size r
 refine Zr<|Zf rfl fx<|Zl rfl cK (On hB f) rfl<|Zv (Cj (h0:=rfl) (k0:=rfl) (c0_0:= .int .i64 _))<|Zy (cI C0 rfl λai b1 bb bc d=> ?_)
 have aj:=ZO bb hB
 replace hB:=Ze hB bc
 refine Zy (cz rfl rfl el rfl d rfl rfl λb2 bd bf=> ?_)
 replace hB:=Zg hB bd aj
 replace d:=bf
 refine ct<|Zq<|Zr<|Zf rfl f6<|Zl rfl cK (On hB f) rfl<|ZZ rfl<|cx ?_
 refine cS (σ:=(Nat)×(Value)×(Value)) [3,3,8,11,31,71] (λ(o,onv,mayv)=>[(31, .int .i64 (o:Int))]) (λsg W=>match sg with|(o,onv,mayv)=>(Below r.heap.size r W)∧(At W ai #[.int .i64 T.ni,onv,mayv] 59)∧(cD fT 4 40 W r.heap.size onv (su T o))∧(cD fT 4 40 W r.heap.size mayv (mP T o))∧(fl onv mayv)∧((o:Int)≤T.no)∧(∀q,q<o→nV T q=false)∧(True)) (λ(o,onv,mayv)=>T.no.toNat-o) ((0, .slice none 0 0, .slice none 0 0)) ⟨rfl,trivial⟩ ⟨hB,d,cD.nil,cD.nil,acs,Om,ef,trivial⟩ ?_
 rintro⟨o,onv,mayv⟩ b3 b4 ⟨hB,d,hon,hmay,hap,ho,hq,_⟩ b5 bg
 refine Zr<|Zv (dk rfl rfl)<|ct<|Zq<|ZQ rfl (λbh=> ?_) λbh=> ?_
 refine cu<|Zq<|cx<|Zr<|Zi rfl<|ZZ rfl<|Zd dz λaC bi=> ?_
 obtain⟨hB,d,hon,hmay⟩:=bi.k4 hB d hon hmay
 have hS:=dz.refl aC
 refine Tk 0 rfl (λ_ hq=>cy rfl eA rfl (hq.at (On hB f))) hS<|Ti 1 rfl rfl hS<|Tk 3 rfl (λ_ hq=>cy rfl eA rfl (hq.at (On hB f))) hS<|Ti 4 rfl rfl hS<|Tk 6 rfl (λ_ hq=>cy rfl eA rfl (hq.at (On hB f))) hS<|Ti 7 rfl rfl hS ?_
 refine UW (m:=6) (A:=[2,5,8,9,10,11]) (L1:= #[true,true,true,true,true,true,true,true,true,true,true,true,false,false,false]) (T:=[9,11,36,36,39,39,42,42]) (λL g W=>∃t y z:Nat,(dz aC W)∧(Below r.heap.size r W)∧(At W ai _ 59)∧(cD fT 4 40 W r.heap.size onv _)∧(cD fT 4 40 W r.heap.size mayv _)∧((L.getD 2 false=true→g 36=eb (pq T o 1)))∧((L.getD 5 false=true→g 39=eb (pq T o 0)))∧((L.getD 8 false=true→g 42=eb (pq T o 2)))∧((L.getD 9 false=true→g 9= .pointer (some ⟨t,0,none⟩)∧At W t #[wv 0 0,wv 0 1,wv 0 2,wv 0 3] 40∧r.heap.size≤t∧Value.ownBlock onv≠some t∧Value.ownBlock mayv≠some t))∧((L.getD 10 false=true→g 10= .pointer (some ⟨y,0,none⟩)∧At W y #[wv 0 0,wv 0 1,wv 0 2,wv 0 3] 40∧r.heap.size≤y∧Value.ownBlock onv≠some y∧Value.ownBlock mayv≠some y))∧((L.getD 11 false=true→g 11= .pointer (some ⟨z,0,none⟩)∧At W z #[wv 0 0,wv 0 1,wv 0 2,wv 0 3] 40∧r.heap.size≤z∧Value.ownBlock onv≠some z∧Value.ownBlock mayv≠some z))∧((L.getD 9 false=true→L.getD 10 false=true→t≠y))∧((L.getD 9 false=true→L.getD 11 false=true→t≠z))∧((L.getD 10 false=true→L.getD 11 false=true→y≠z))∧(True)) jW ⟨0,0,0,hS,hB,d,hon,hmay,(λh=>Bool.noConfusion (show false=true from h)),(λh=>Bool.noConfusion (show false=true from h)),(λh=>Bool.noConfusion (show false=true from h)),(λh=>Bool.noConfusion (show false=true from h)),(λh=>Bool.noConfusion (show false=true from h)),(λh=>Bool.noConfusion (show false=true from h)),(λh=>Bool.noConfusion (show false=true from h)),(λh=>Bool.noConfusion (show false=true from h)),(λh=>Bool.noConfusion (show false=true from h)),trivial⟩ ?_ ?_
 rintro i hi L g b6 hlt ⟨t,y,z,hS,hB,d,hon,hmay,I,J,K,E,F,G,hn9_10,hn9_11,hn10_11,_⟩
 have hi2:i=2∨i=5∨i=8∨i=9∨i=10∨i=11:=by simpa using hi
 rcases hi2 with rfl|rfl|rfl|rfl|rfl|rfl
 refine⟨_,36,rfl,rfl,rfl,rfl,rfl,?_⟩
 refine Yd.call (BT G0 (v0:= .agg #[_,_,_,_]) rfl (v1:= .int .i64 _) rfl (v2:= .int .i64 1) rfl) (oR T _ vs o 1 _ (Below.slT hB ag) (jX.below hB ah) hmb hr Om) (λv W' hE hP=>⟨.inl (hS.trans hE),?_⟩)
 obtain rfl:=hP
 exact⟨t,y,z,hS.trans hE,cW hB hE (am _),hE.at d,hE.ow hon,hE.ow hmay,(λ_=>rfl),(λh=>J (dR Dd h)),(λh=>K (dR Dd h)),(λh=>let q:=E (dR Dd h);⟨q.1,hE.at q.2.1,q.2.2⟩),(λh=>let q:=F (dR Dd h);⟨q.1,hE.at q.2.1,q.2.2⟩),(λh=>let q:=G (dR Dd h);⟨q.1,hE.at q.2.1,q.2.2⟩),(λh k=>hn9_10 (dR Dd h) (dR Dd k)),(λh k=>hn9_11 (dR Dd h) (dR Dd k)),(λh k=>hn10_11 (dR Dd h) (dR Dd k)),trivial⟩
 refine⟨_,39,rfl,rfl,rfl,rfl,rfl,?_⟩
 refine Yd.call (BT G0 (v0:= .agg #[_,_,_,_]) rfl (v1:= .int .i64 _) rfl (v2:= .int .i64 0) rfl) (oR T _ vs o 0 _ (Below.slT hB ag) (jX.below hB ah) hmb hr Om) (λv W' hE hP=>⟨.inl (hS.trans hE),?_⟩)
 obtain rfl:=hP
 exact⟨t,y,z,hS.trans hE,cW hB hE (am _),hE.at d,hE.ow hon,hE.ow hmay,(λh=>I (dR Dd h)),(λ_=>rfl),(λh=>K (dR Dd h)),(λh=>let q:=E (dR Dd h);⟨q.1,hE.at q.2.1,q.2.2⟩),(λh=>let q:=F (dR Dd h);⟨q.1,hE.at q.2.1,q.2.2⟩),(λh=>let q:=G (dR Dd h);⟨q.1,hE.at q.2.1,q.2.2⟩),(λh k=>hn9_10 (dR Dd h) (dR Dd k)),(λh k=>hn9_11 (dR Dd h) (dR Dd k)),(λh k=>hn10_11 (dR Dd h) (dR Dd k)),trivial⟩
 refine⟨_,42,rfl,rfl,rfl,rfl,rfl,?_⟩
 refine Yd.call (BT G0 (v0:= .agg #[_,_,_,_]) rfl (v1:= .int .i64 _) rfl (v2:= .int .i64 2) rfl) (oR T _ vs o 2 _ (Below.slT hB ag) (jX.below hB ah) hmb hr Om) (λv W' hE hP=>⟨.inl (hS.trans hE),?_⟩)
 obtain rfl:=hP
 exact⟨t,y,z,hS.trans hE,cW hB hE (am _),hE.at d,hE.ow hon,hE.ow hmay,(λh=>I (dR Dd h)),(λh=>J (dR Dd h)),(λ_=>rfl),(λh=>let q:=E (dR Dd h);⟨q.1,hE.at q.2.1,q.2.2⟩),(λh=>let q:=F (dR Dd h);⟨q.1,hE.at q.2.1,q.2.2⟩),(λh=>let q:=G (dR Dd h);⟨q.1,hE.at q.2.1,q.2.2⟩),(λh k=>hn9_10 (dR Dd h) (dR Dd k)),(λh k=>hn9_11 (dR Dd h) (dR Dd k)),(λh k=>hn10_11 (dR Dd h) (dR Dd k)),trivial⟩
 refine⟨_,9,rfl,rfl,rfl,rfl,rfl,?_⟩
 refine cI ee rfl (λb W' hb hE hm=>⟨.inl (hS.trans hE),?_⟩)
 exact⟨b,y,z,hS.trans hE,cW hB hE (am _),hE.at d,hE.ow hon,hE.ow hmay,(λh=>I (dR Dd h)),(λh=>J (dR Dd h)),(λh=>K (dR Dd h)),(λ_=>⟨rfl,hm,hb▸(Below.size hB),aaQ hon (aae hb.symm),aaQ hmay (aae hb.symm)⟩),(λh=>let q:=F (dR Dd h);⟨q.1,hE.at q.2.1,q.2.2⟩),(λh=>let q:=G (dR Dd h);⟨q.1,hE.at q.2.1,q.2.2⟩),(λ_ k=>Nat.ne_of_gt (hb▸(F (dR Dd k)).2.1.lt)),(λ_ k=>Nat.ne_of_gt (hb▸(G (dR Dd k)).2.1.lt)),(λh k=>hn10_11 (dR Dd h) (dR Dd k)),trivial⟩
 refine⟨_,10,rfl,rfl,rfl,rfl,rfl,?_⟩
 refine cI ee rfl (λb W' hb hE hm=>⟨.inl (hS.trans hE),?_⟩)
 exact⟨t,b,z,hS.trans hE,cW hB hE (am _),hE.at d,hE.ow hon,hE.ow hmay,(λh=>I (dR Dd h)),(λh=>J (dR Dd h)),(λh=>K (dR Dd h)),(λh=>let q:=E (dR Dd h);⟨q.1,hE.at q.2.1,q.2.2⟩),(λ_=>⟨rfl,hm,hb▸(Below.size hB),aaQ hon (aae hb.symm),aaQ hmay (aae hb.symm)⟩),(λh=>let q:=G (dR Dd h);⟨q.1,hE.at q.2.1,q.2.2⟩),(λh _=>Nat.ne_of_lt (hb▸(E (dR Dd h)).2.1.lt)),(λh k=>hn9_11 (dR Dd h) (dR Dd k)),(λ_ k=>Nat.ne_of_gt (hb▸(G (dR Dd k)).2.1.lt)),trivial⟩
 refine⟨_,11,rfl,rfl,rfl,rfl,rfl,?_⟩
 refine cI ee rfl (λb W' hb hE hm=>⟨.inl (hS.trans hE),?_⟩)
 exact⟨t,y,b,hS.trans hE,cW hB hE (am _),hE.at d,hE.ow hon,hE.ow hmay,(λh=>I (dR Dd h)),(λh=>J (dR Dd h)),(λh=>K (dR Dd h)),(λh=>let q:=E (dR Dd h);⟨q.1,hE.at q.2.1,q.2.2⟩),(λh=>let q:=F (dR Dd h);⟨q.1,hE.at q.2.1,q.2.2⟩),(λ_=>⟨rfl,hm,hb▸(Below.size hB),aaQ hon (aae hb.symm),aaQ hmay (aae hb.symm)⟩),(λh k=>hn9_10 (dR Dd h) (dR Dd k)),(λh _=>Nat.ne_of_lt (hb▸(E (dR Dd h)).2.1.lt)),(λh _=>Nat.ne_of_lt (hb▸(F (dR Dd h)).2.1.lt)),trivial⟩
 rintro b7 b8 ⟨t,y,z,hS,hB,d,hon,hmay,I,J,K,E,F,G,hn9_10,hn9_11,hn10_11,_⟩
 have bj:=I rfl
 have bk:=J rfl
 have bl:=K rfl
 obtain⟨q9,p,bm,ak,al⟩:=E rfl
 obtain⟨bn,s,bo,aD,aE⟩:=F rfl
 obtain⟨bp,B,bq,aF,aG⟩:=G rfl
 have aH:=hn9_10 rfl rfl
 have aI:=hn9_11 rfl rfl
 have aJ:=hn10_11 rfl rfl
 refine D0 (Bq [(36,eb (pq T o 1)),(39,eb (pq T o 0)),(42,eb (pq T o 2)),(9, .pointer (some ⟨t,0,none⟩)),(10, .pointer (some ⟨y,0,none⟩)),(11, .pointer (some ⟨z,0,none⟩))] ⟨bj,bk,bl,q9,bn,bp,trivial⟩) ?_
 refine To 12 rfl (cz rfl rfl cA rfl p rfl rfl λb9 N br=>⟨.inr jW,?_⟩)
 replace hB:=Zg hB N bm
 replace d:=At.grownAt d p N Dd
 replace hon:=aat hon ak N
 replace hmay:=aat hmay al N
 replace s:=At.grownNe s (Ne.symm aH) N
 replace B:=At.grownNe B (Ne.symm aI) N
 replace p:=br
 refine To 13 rfl (cz rfl rfl cA rfl s rfl rfl λca O bs=>⟨.inr jW,?_⟩)
 replace hB:=Zg hB O bo
 replace d:=At.grownAt d s O Dd
 replace hon:=aat hon aD O
 replace hmay:=aat hmay aE O
 replace p:=At.grownNe p aH O
 replace B:=At.grownNe B (Ne.symm aJ) O
 replace s:=bs
 refine To 14 rfl (cz rfl rfl cA rfl B rfl rfl λcb P bt=>⟨.inr jW,?_⟩)
 replace hB:=Zg hB P bq
 replace d:=At.grownAt d B P Dd
 replace hon:=aat hon aF P
 replace hmay:=aat hmay aG P
 replace p:=At.grownNe p aI P
 replace s:=At.grownNe s aJ P
 replace B:=bt
 refine Td ?_
 refine rN (σ:=(Unit)) [3,3,43,52] (λu_=>[]) (λW=>(Below r.heap.size r W)∧(At W ai _ 59)∧(cD fT 4 40 W r.heap.size onv _)∧(cD fT 4 40 W r.heap.size mayv _)∧(fl onv mayv)∧(At W t _ 40)∧(At W y _ 40)∧(At W z _ 40)∧(True)) ⟨hB,d,hon,hmay,hap,p,s,B,trivial⟩ (λu_ W=>(nV T o=false)∧(True)) (λcc aK=> ?_) ?_
 refine Zr<|Zf rfl G4<|ZL (.bool _) rfl Hg (On hB l) rfl<|ZX rfl (λao=> ?_) λao=> ?_
 refine Zv (cy rfl cA rfl p)<|Zv (cy rfl cA rfl s)<|ZC (vs:=[.agg #[_,_,_,_], .agg #[_,_,_,_]]) tz (pp _ _ _) rfl λcd ce bu bv=> ?_
 obtain⟨hB,d,hon,hmay,p,s,B⟩:=bu.k7 hB d hon hmay p s B
 obtain rfl:=bv
 refine Zv (v:=eb 0) (gg)<|Zv (M7 rfl rfl)<|Zb rfl<|ct<|ZQ rfl (λap=> ?_) λap=> ?_
 replace e:=On hB e
 have hzs:=an (am _) (Below.size U)
 replace hB:=Below.trans U (Below.mono hB hzs)
 refine Zr<|Zv (wn)<|Zy (cz rfl rfl el rfl e rfl rfl λcf bw bx=> ?_)
 replace hB:=Zg hB bw Z
 replace e:=bx
 refine ZZ rfl<|Zt<|eI rfl el e rfl (v1:= .int .i64 4) rfl ⟨hB,?_⟩
 (rw[Ya (o:=o) hr (by omega) (Rn ao hn8 ap)];exact .inr ⟨by decide,rfl⟩)
 refine cu ?_
 refine aK _ _ (()) ?_ ?_ ?_ ?_
 · repeat (first|exact dB.mask _ _ _|exact dB.refl _ _|refine abG ?_ rfl _|refine aby ?_ _ rfl|refine abk rfl ?_)
 · exact trivial
 · exact⟨hB,d,hon,hmay,hap,p,s,B,trivial⟩
 · exact⟨(R9 hn8 ap),trivial⟩
 refine Zs<|Zs<|Zs<|Zs<|Zs<|Zb rfl<|ct<|dA rfl<|cu ?_
 refine aK _ _ (()) ?_ ?_ ?_ ?_
 · repeat (first|exact dB.mask _ _ _|exact dB.refl _ _|refine abG ?_ rfl _|refine aby ?_ _ rfl|refine abk rfl ?_)
 · exact trivial
 · exact⟨hB,d,hon,hmay,hap,p,s,B,trivial⟩
 · exact⟨(SQ ao),trivial⟩
 rintro u_ cg ch ⟨hB,d,hon,hmay,hap,p,s,B,_⟩ ⟨hcf,_⟩
 refine fe (λa b=>wY onv.ownBlock mayv.ownBlock a b) fQ (λaL bz=> ?_)
 obtain⟨hB,d,hon,hmay,p,s,B⟩:=bz.k7 hB d hon hmay p s B
 have V:=hon
 have X:=hmay
 have hS:wY onv.ownBlock mayv.ownBlock aL aL:=wY.refl
 refine Tf 0 rfl rfl iG hS<|Tk 1 rfl (λ_ hq=>cB (v:=onv) rfl ft (At.cell (acl d hq (pA V d Dd) (pA X d Dd)) rfl)) hS<|Tk 2 rfl (λ_ hq=>cy rfl cA rfl (acl p hq (Ne.symm ak) (Ne.symm al))) hS<|Tf 5 rfl rfl gS hS<|Tk 6 rfl (λ_ hq=>cB (v:=mayv) rfl ft (At.cell (acl d hq (pA V d Dd) (pA X d Dd)) rfl)) hS<|Tf 7 rfl rfl Gw hS<|Tk 8 rfl (λ_ hq=>cB (v:= .func (.func (Q0 129 130 128 T.kind)) #[] #[]) rfl NG (At.cell (On (BG hB hq (am _) (cD.lt V) (cD.lt X)) l) rfl)) hS<|Tk 9 rfl (λ_ hq=>cy rfl cA rfl (On (BG hB hq (am _) (cD.lt V) (cD.lt X)) j)) hS<|Tk 10 rfl (λ_ hq=>cy rfl cA rfl (acl p hq (Ne.symm ak) (Ne.symm al))) hS<|Tk 11 rfl (λ_ hq=>cy rfl cA rfl (acl s hq (Ne.symm aD) (Ne.symm aE))) hS<|Tk 12 rfl (λ_ hq=>cy rfl cA rfl (acl B hq (Ne.symm aF) (Ne.symm aG))) hS<|To 3 rfl (eK (u:= .agg #[_,_,_,_]) rfl eN pY rfl Dd Dd λbA ci cj aq bB=>⟨.inl (wY.ext hS aq),?_⟩)
 obtain⟨hB,d,hon,hmay⟩:=aq.k4 hB d hon hmay
 replace hS:=wY.ext hS aq
 refine To 4 rfl (i6 (v:=onv) (v2:= .slice (some ⟨bA,0,none⟩) 1 1) rfl rfl eN pY Dd hon (eT bB rfl) rfl (n4 hB) SH SH λaM ck Q C bC=>⟨.inl (wY.one hS Q),?_⟩)
 replace hS:=wY.one hS Q
 have aN:=fl.app hap bC hmay
 replace C:=cD.snoc (enc:=fT) (x:=(pq T o 1)) rfl rfl rfl rfl C
 replace hB:=ZG hB Q hon
 replace d:=At.grownOw d hon Q Dd
 replace hmay:=cD.grownAp hmay hap Q
 refine Tf 16 rfl rfl iG hS<|To 13 rfl (Yd.call (ij (q:=(Q0 129 130 128 T.kind)) (first:= #[]) (cap:= #[]) (vs:= #[.agg #[_,_,_,_], .agg #[_,_,_,_], .agg #[_,_,_,_], .agg #[_,_,_,_]]) rfl (MV T.kind) Gb) (YY T.kind _ _ _ _ _) λcl cm ar bD=>⟨.inl (wY.ext hS ar),?_⟩)
 obtain⟨hB,d,hmay,C⟩:=ar.k4 hB d hmay C
 replace hS:=wY.ext hS ar
 obtain rfl:=bD
 refine To 14 rfl (eK (u:= .agg #[_,_,_,_]) rfl eN pY rfl Dd Dd λbE cn co au bF=>⟨.inl (wY.ext hS au),?_⟩)
 obtain⟨hB,d,hmay,C⟩:=au.k4 hB d hmay C
 replace hS:=wY.ext hS au
 refine To 15 rfl (i6 (v:=mayv) (v2:= .slice (some ⟨bE,0,none⟩) 1 1) rfl rfl eN pY Dd hmay (eT bF rfl) rfl (n4 hB) SH SH λaO cp Y H bG=>⟨.inl (wY.two hS Y),?_⟩)
 have bH:=fl.app (fl.symm aN) bG C
 replace H:=cD.snoc (enc:=fT) (x:=(Ee T o)) rfl rfl rfl rfl H
 replace hB:=ZG hB Y hmay
 replace d:=At.grownOw d hmay Y Dd
 replace C:=cD.grownAp C (fl.symm aN) Y
 refine To 17 rfl (dm (v:=aM) rfl rfl ft (dh.one C.sl) d gj λcq av bI=>⟨.inr jW,?_⟩)
 replace hB:=Zg hB av aj
 replace C:=cD.grownAt C d av Dd
 replace H:=cD.grownAt H d av Dd
 replace d:=bI
 replace d:At _ _ #[_,_,_] _:=d
 refine jK (dd:=some 70) 18 jW rfl rfl rfl rfl (Yd.val (qU rfl gS) ⟨.inr jW,?_⟩)
 refine To 19 rfl (dm (v:=aO) rfl rfl ft (dh.one H.sl) d gj λcr aw bJ=>⟨.inr jW,?_⟩)
 replace hB:=Zg hB aw aj
 replace C:=cD.grownAt C d aw Dd
 replace H:=cD.grownAt H d aw Dd
 replace d:=bJ
 replace d:At _ _ #[_,_,_] _:=d
 refine Td<|ZT rfl rfl rfl ?_
 exact bg _ _ ((o+1,aM,aO)) Za ⟨rfl,trivial⟩ ⟨hB,(by exact d),(by rw[KR];exact C),(by rw[HW];exact H),(fl.symm bH),Om,(dG hq hcf),trivial⟩ (by show T.no.toNat-(o+1)<T.no.toNat-o;omega)
 refine cR ?_
 replace e:=On hB e
 have hzs:=an (am _) (Below.size U)
 replace hon:=cD.mono hon hzs
 replace hmay:=cD.mono hmay hzs
 replace hB:=Below.trans U (Below.mono hB hzs)
 refine Zr<|Zv (cy rfl el rfl d)<|Zy (cz rfl rfl el rfl e rfl (by exact G2 (dh.one (cD.sl hon)) (dh.one (cD.sl hmay))) λcs ax bK=> ?_)
 replace hB:=Zg hB ax Z
 replace hon:=cD.grownAt hon e ax Dd
 replace hmay:=cD.grownAt hmay e ax Dd
 replace e:=bK
 refine ZZ rfl<|Zt<|eI rfl el e rfl (v1:= .int .i64 0) rfl ⟨hB,?_⟩
 (have bL:o=T.no.toNat:=(by omega);subst bL;exact .inl ⟨TW hr hq,onv,mayv,rfl,hon,hmay⟩)
end
section
open Go Go.RowKit
section
variable {l:List Rw} {n out:Int} {k:Nat}
end
end
section
open Go Go.RowKit
section
variable {a b:List Nat} {S U:Sp} {k:Nat}
end
section
variable {T:Tb} {o k p:Nat} {m:Int}
variable (hr:fc T=true) (hp:p<2^T.ni.toNat)
end
end
section
open Go Go.RowKit
theorem Uv:cX Tryz.prog 21=true:=by kernel_rfl
theorem T3:cX Tryz.prog 12=true:=by kernel_rfl
end
section
open Go Go.RowKit Go.ChangeShapes Go.WideShapes Go.ChangeAt Go.Joins Go.Deep
section
variable {H:Type} {encH:TypeId×Value→H} {P:Program} {w:World} {base:Nat} {held:Bool} {r:Reach} {b0:Nat} {t e:TypeId}
instance:Inhabited Rw:=⟨⟨⟨0,0⟩,0⟩⟩
instance:Inhabited Cb:=⟨⟨0,0⟩⟩
end
end
section
open Go Go.RowKit
section
variable {P:Program} {f:Nat→Value} {w w':World} {d:Option Nat} {ty:TypeId} {ps:String} {af:Array Edge} {g:Option (Nat×Bool)} {x y:Operand}
variable {t:TypeId} {v u:Value} {T e:TypeId} {K:Value→World→Prop} {sz by_ N:Nat}
variable {α:Type} {enc:α→List Value} {l:List α}
theorem Lw (he:∀a,(enc a).length=sz) {a dd:α} {k r:Nat} (hk:k<l.length) (hr:r<sz) (hu:enc a=(enc (l.getD k dd)).set r u):
  (l.set k a).flatMap enc=(l.flatMap enc).take (k*sz+r)++[u]++(l.flatMap enc).drop (k*sz+r+1):=by
 have hle:k*sz+sz≤l.length*sz:=by rw[←Nat.succ_mul];exact aay _ hk
 have hfl:=kn he l
 have e0:l.set k (l.getD k dd)=l:=by
  rw[me,th hk]
  simp
 have e1:=uW he (l.getD k dd) l k hk
 rw[e0]at e1
 rw[uW he a l k hk,hu]
 have hq:(l.flatMap enc).take (k*sz+r)++[u]++(l.flatMap enc).drop (k*sz+r+1)=(l.flatMap enc).set (k*sz+r) u:=by
  rw[List.set_eq_take_append_cons_drop,if_pos (by omega),aav];rfl
 rw[hq]
 have hA:((l.flatMap enc).take (k*sz)).length=k*sz:=by rw[aal];omega
 have hB:(enc (l.getD k dd)).length=sz:=he _
 generalize hA':(l.flatMap enc).take (k*sz)=A at*
 generalize hC':(l.flatMap enc).drop (k*sz+sz)=C at*
 rw[e1,aav,aav,List.set_append,if_neg (by omega),hA,show k*sz+r-k*sz=r by omega,List.set_append,if_pos (by omega)]
theorem Ok {a dd:α} {j:Int} {r:Nat} (hx:dg f x= .pointer (some ⟨uc v,D6 v+j.toNat*sz+r,none⟩)) (hy:dg f y=u) (hT:eE P t=true) (he:∀a,(enc a).length=sz)
  (h1:u.oneCell'=true) (hr:r<sz) (hu:enc a=(enc (l.getD j.toNat dd)).set r u) (ho:cD enc sz e w N v l) (h0:0≤j) (hj:j<l.length)
  (hK:∀w',w.grownBy w' v.ownBlock→cD enc sz e w' N v (l.set j.toNat a)→K undef w'):Yd P ⟨d, .store t x y,ty,ps,af,g⟩ f w K:=by
 obtain⟨hl,hor⟩:=ho
 rcases hor with ⟨_,h⟩|⟨q,cap,cur,rfl,hg,hh,hnc,hcm,hcs,ht⟩
 ·omega
 have hle:l.length*sz≤cap*sz:=aay _ hnc
 have hjs:j.toNat*sz+sz≤l.length*sz:=by rw[←Nat.succ_mul];exact aay _ (by omega)
 have hst:=run_storeCells_at P q (j.toNat*sz+r) e [u] 0 cur w hh iq (λv h=>by simp at h;subst h;exact h1)
 rw[abl]at hst
 have hw:=AM (N:=N) (e:=e) (o:=j.toNat*sz+r) (new:=[u]) hl hg hh hnc hcm hcs ht iq
 have hgr:∀r,w.grownBy (w.setRow q r) (some q):=λr=>⟨rfl,rfl,rfl,by simp,λk _ hk=>setRow_other w q k r (λe=>hk vu)⟩
 refine .skip (w':=w.setRow q (cur.toList.take (j.toNat*sz+r)++[u]++cur.toList.drop (j.toNat*sz+r+1)).toArray) ?_ (hK _ (hgr _) ?_)
 ·have h2:=congrFun (m4 hT).2 w
  have hcs1:u.cells= #[u]:=by cases u<;>first|rfl|simp[Value.oneCell']at h1
  have hcs2:(storeVar t ⟨q,j.toNat*sz+r,none⟩ u).run P w= .ok () (w.setRow q (cur.toList.take (j.toNat*sz+r)++[u]++cur.toList.drop (j.toNat*sz+r+1)).toArray):=by
   simp only[aaC]at hst
   simp[storeVar,h2,hcs1,hst]
  have hx':dg f x= .pointer (some ⟨q,j.toNat*sz+r,none⟩):=by rw[hx];simp[uc,D6]
  simp[execOp,hx',hy,Instr.storeAt,Instr.sureAddr,hcs2]
 ·unfold cD
  rw[List.length_set,Lw he (by omega) hr hu]
  simpa using hw
theorem Hl {w0:World} {n:Nat} {xs:List Value} {i:Int} {ki:IntKind} {xi:Operand} (hx:dg f x=v) (hs:Sl w0 sz v n xs) (hT:fj P t=some (e,sz,by_)) (hi:dg f xi= .int ki i) (h0:0≤i) (h1:i≤n):
  (execOp (dg f) ⟨d, .slice t x (some xi) none none,ty,ps,af,g⟩).run P w= .ok (.value (fP sz v i.toNat n (iZ v))) w:=by
 obtain⟨hv,hn,_,_⟩:=hs.eqv
 unfold fj at hT
 cases hu:P.underlying t with
 |none=>simp[hu]at hT
 |some desc=>
  cases desc<;>simp[hu]at hT
  obtain⟨i',hi',rfl,rfl,rfl⟩:=hT
  unfold fP
  rw[hv]at hx
  generalize CL v=A at*
  generalize iZ v=C at*
  simp[execOp,hx,hi,Instr.sliceAt,Instr.slice,run_underlying hu,Instr.sliceBounds,Instr.sliceBound,asIntOf,sizeOf,typeInfo,hi',h0,h1]
theorem GG {w0:World} {n:Nat} {xs:List Value} {j:Int} {kj:IntKind} {xj:Operand} (hx:dg f x=v) (hs:Sl w0 sz v n xs) (hT:fj P t=some (e,sz,by_)) (hj:dg f xj= .int kj j) (h0:0≤j) (h1:j≤iZ v):
  (execOp (dg f) ⟨d, .slice t x none (some xj) none,ty,ps,af,g⟩).run P w= .ok (.value (fP sz v 0 j.toNat (iZ v))) w:=by
 obtain⟨hv,hn,_,_⟩:=hs.eqv
 unfold fj at hT
 cases hu:P.underlying t with
 |none=>simp[hu]at hT
 |some desc=>
  cases desc<;>simp[hu]at hT
  obtain⟨i',hi',rfl,rfl,rfl⟩:=hT
  unfold fP
  rw[hv]at hx
  generalize CL v=A at*
  generalize iZ v=C at*
  have hC:j≤(C:Int):=h1
  simp[execOp,hx,hj,Instr.sliceAt,Instr.slice,run_underlying hu,Instr.sliceBounds,Instr.sliceBound,asIntOf,sizeOf,typeInfo,hi',h0,hC]
theorem Ho {i j:Nat} (he:∀a,(enc a).length=sz) (hone:(l.flatMap enc).all Value.oneCell'=true) (hx:dg f x=fP sz v 0 i (iZ v)) (hy:dg f y=fP sz v j l.length (iZ v)) (hT:fj P t=some (e,sz,by_))
  (ho:cD enc sz e w N v l) (hij:i≤j) (hj:j≤l.length) (hi:i<l.length)
  (hK:∀v' w',w.grownBy w' v.ownBlock→cD enc sz e w' N v' (l.take i++l.drop j)→v'.ownBlock=v.ownBlock→K v' w'):Yd P ⟨d, .call ⟨.builtin .append,#[x,y],#[t,t]⟩,ty,ps,af,g⟩ f w K:=by
 unfold fj at hT
 cases hun:P.underlying t with
 |none=>simp[hun]at hT
 |some desc=>
  cases desc<;>simp[hun]at hT
  rename_i e'
  obtain⟨i',hi',rfl,h1,rfl⟩:=hT
  subst h1
  have ho0:=ho
  obtain⟨hl,hor⟩:=ho
  rcases hor with ⟨_,h⟩|⟨q,cap,cur,rfl,hg,hh,hnc,hcm,hcs,ht⟩
  ·omega
  have hle:l.length*i'.size≤cap*i'.size:=aay _ hnc
  have hfl:=kn he (l.drop j)
  have hft:=kn he (l.take i)
  have hll:=kn he l
  have hxe:dg f x= .slice (some ⟨q,0,none⟩) i cap:=by
   rw[hx]
   have hc0:¬cap=0:=by omega
   simp[fP,CL,iZ,hc0,Addr.add]
  obtain⟨a,hye,hac⟩:∃a:Addr,dg f y= .slice (some a) (l.length-j) (cap-j)∧(j<l.length→a=⟨q,j*i'.size,none⟩):=by
   rw[hy]
   by_cases e:cap=j
   ·exact⟨⟨q,0,none⟩,by simp[fP,CL,iZ,e],λh=>by omega⟩
   ·exact⟨⟨q,j*i'.size,none⟩,by
     show Value.slice (if cap=j then some ⟨q,0,none⟩else (some (⟨q,0,none⟩:Addr)).map (·.add (j*i'.size))) (l.length-j) (cap-j)=_
     rw[if_neg e,Option.map_some,hU,aa1],λ_=>rfl⟩
  have hnews:∀k u,((l.drop j).flatMap enc)[k]? =some u→w.cell? (a.add k)=some u:=λk u hu=>by
   have hlt:k<((l.drop j).flatMap enc).length:=(aaV.1 hu).1
   have hjl:j<l.length:=Classical.byContradiction λhn=>by
    rw[List.drop_eq_nil_of_le (by omega)]at hlt
    simp at hlt
   rw[hac hjl,hU]
   have hs:=ho0.sl
   have hc:=Sl.cell hs (j*i'.size+k) u (by rw[←List.getElem?_drop,←sj he];exact hu)
   simpa [uc,D6] using hc
  have hone2:∀u∈(l.drop j).flatMap enc,u.oneCell'=true:=λu hu=>by
   rw[sj he]at hu
   exact aaj.1 hone u (List.mem_of_mem_drop hu)
  have hmul:(i+(l.length-j))*i'.size≤l.length*i'.size:=aay _ (by omega)
  rw[aaR]at hmul
  have hdl:((l.drop j).flatMap enc).length=(l.length-j)*i'.size:=by rw[hfl,aa5]
  have hr:=run_append_room (P:=P) w t ty e' i' hun hi' q i cap cur hh a (l.length-j) (cap-j) ((l.drop j).flatMap enc) hdl hnews hone2 (by omega) (by rw[hdl,hcs];omega)
  refine .val (v:= .slice (some ⟨q,0,none⟩) (i+(l.length-j)) cap) (w':=w.setRow q (cur.toList.take (i*i'.size)++(l.drop j).flatMap enc++cur.toList.drop (i*i'.size+((l.drop j).flatMap enc).length)).toArray) ?_
   (hK _ _ ⟨rfl,rfl,rfl,by simp,λk _ hk=>setRow_other w q k _ (λe=>hk (by rw[e];rfl))⟩ ?_ rfl)
  ·simp[execOp,resolve,invoke,builtin,hxe,hye,hr]
  ·have hlen2:(l.take i++l.drop j).length=i+(l.length-j):=by rw[An,aal,aa5];omega
   unfold cD
   rw[hlen2]
   refine⟨by rw[kn he,hlen2], .inr ⟨q,cap,_,rfl,hg,setRow_heap w q cur _ e' (0,0) hh,by omega,hcm,by simp only[List.size_toArray,An,aal,aa5,abW,hdl];omega,?_⟩⟩
   rw[List.flatMap_append,rO he,←ht,List.take_take]
   have e1:min (i*i'.size) (l.length*i'.size)=i*i'.size:=abw (by omega)
   have e2:(cur.toList.take (i*i'.size)).length=i*i'.size:=by rw[aal,abW];omega
   rw[e1]
   have e3:(i+(l.length-j))*i'.size=(cur.toList.take (i*i'.size)++(l.drop j).flatMap enc).length:=by rw[An,e2,hdl,aaR]
   rw[e3]
   exact List.take_left
end
end
section
open Go Go.RowKit Go.ChangeShapes Go.WideShapes Go.ChangeAt Go.Joins Go.Deep
def encV (v:Value):List Value:=[v]
theorem fS (v:Value):(encV v).length=1:=rfl
structure LL (w:World) (vs:List Value) (L:List (List Int)):Prop where
 len:vs.length=L.length
 get:∀k,k<L.length→dh dJ 1 w (vs.getD k undef) (L.getD k [])
theorem LL.nil (w:World):LL w [] []:=⟨rfl,λk hk=>by cases hk⟩
theorem LL.below {w W:World} {vs:List Value} {L:List (List Int)} (h:Below w.heap.size w W) (k:LL w vs L):LL W vs L:=⟨k.len,λi hi=>Below.slT h (k.get i hi)⟩
theorem LL.ext {w W:World} {vs:List Value} {L:List (List Int)} (h:dz w W) (k:LL w vs L):LL W vs L:=⟨k.len,λi hi=>dz.slT h (k.get i hi)⟩
section
variable {H:Type} {encH:TypeId×Value→H} {P:Program} {w:World} {base:Nat} {held:Bool} {r:Reach} {b0:Nat} {t e:TypeId}
end
end
section
open Go Go.RowKit
def oU (cols:Int) (l:List Int):Bool:=(List.range l.length).all λk=>decide (0≤l.getD k 0)&&(decide (l.getD k 0<cols)&&decide (0<k→l.getD (k-1) 0<l.getD k 0))
theorem jv {cols:Int} {l:List Int}:oU cols l=true↔∀k,k<l.length→0≤l.getD k 0∧l.getD k 0<cols∧(0<k→l.getD (k-1) 0<l.getD k 0):=by
 unfold oU
 rw[aaj]
 constructor
 ·intro h k hk
  have:=h k (aam.2 hk)
  simp only[we,decide_eq_true_eq]at this
  exact⟨this.1,this.2.1,this.2.2⟩
 ·intro h k hk
  obtain⟨h1,h2,h3⟩:=h k (aam.1 hk)
  simp only[we,decide_eq_true_eq]
  exact⟨h1,h2,h3⟩
def dN (cols:Int) (L:List (List Int)):Bool:=decide (0≤cols)&&(decide (cols≤4000)&&L.all (oU cols))
theorem fm {cols:Int} {L:List (List Int)}:dN cols L=true↔0≤cols∧cols≤4000∧∀i,i<L.length→oU cols (L.getD i [])=true:=by
 unfold dN
 rw[we,we,decide_eq_true_eq,decide_eq_true_eq,aaj]
 constructor
 ·rintro⟨h1,h2,h3⟩;exact⟨h1,h2,λi hi=>h3 _ (dy hi)⟩
 ·rintro⟨h1,h2,h3⟩
  refine⟨h1,h2,λx hx=> ?_⟩
  obtain⟨k,hk,rfl⟩:=eZ (d:=[]) hx
  exact h3 k hk
def yZ (l:List Int):Nat→Int
 |0=> -1
 |k+1=>l.getD k 0
theorem wC (l:List Int):yZ l 0= -1:=rfl
theorem wm (l:List Int) (k:Nat):yZ l (k+1)=l.getD k 0:=rfl
theorem TO {cols:Int} {L:List (List Int)} {i k:Nat} (hi:i<L.length) (hk:k<(L.getD i []).length) (hb:∀q,q<k→0≤(L.getD i []).getD q 0) (h:(L.getD i []).getD k 0≤yZ (L.getD i []) k∨cols≤(L.getD i []).getD k 0):Value.bool false= .bool (dN cols L):=w7 λhr=>by
 obtain⟨h1,h2,h3⟩:=jv.1 ((fm.1 hr).2.2 i hi) k hk
 rcases h with h|h
 ·cases k with
  |zero=>rw[wC]at h;omega
  |succ k=>
   have:=h3 (by omega)
   rw[wm]at h
   simp only[aa9]at this
   omega
 ·omega
theorem PY {cols:Int} {l:List Int} {k:Nat} (h:∀q,q<k→0≤l.getD q 0∧l.getD q 0<cols∧(0<q→l.getD (q-1) 0<l.getD q 0)) (h1:¬l.getD k 0≤yZ l k) (h2:¬cols≤l.getD k 0):
  ∀q,q<k+1→0≤l.getD q 0∧l.getD q 0<cols∧(0<q→l.getD (q-1) 0<l.getD q 0):=dG h (by
 cases k with
 |zero=>rw[wC]at h1;exact⟨by omega,by omega,λh=>by omega⟩
 |succ k=>
  have:=h k (by omega)
  rw[wm]at h1
  exact⟨by omega,by omega,λ_=>by simp only[aa9];omega⟩)
theorem Zj {cols:Int} {L:List (List Int)} (h0:0≤cols) (h:∀i,i<L.length→oU cols (L.getD i [])=true):Value.bool (decide (cols≤4000))= .bool (dN cols L):=congrArg Value.bool (by
 rw[aaA,fm,decide_eq_true_eq]
 exact⟨λhc=>⟨h0,hc,h⟩,λhc=>hc.2.1⟩)
theorem Y2 {cols:Int} {L:List (List Int)} (h0:¬0≤cols):Value.bool false= .bool (dN cols L):=w7 λh=>h0 (fm.1 h).1
def pW (L:List (List Int)) (cols:List Int):Bool:=L.all λl=>l.any λc=>decide (c∈cols)
theorem Eu {L:List (List Int)} {cols:List Int}:pW L cols=true↔∀i,i<L.length→∃c,c∈L.getD i []∧c∈cols:=by
 unfold pW
 rw[aaj]
 constructor
 ·intro h i hi
  have:=h _ (dy (d:=[]) hi)
  rw[aaO]at this
  obtain⟨c,h1,h2⟩:=this
  exact⟨c,h1,of_decide_eq_true h2⟩
 ·intro h l hl
  obtain⟨k,hk,rfl⟩:=eZ (d:=[]) hl
  obtain⟨c,h1,h2⟩:=h k hk
  rw[aaO]
  exact⟨c,h1,decide_eq_true h2⟩
end
end Go.Proofs.YtedeonkjellcpaaGreatDoor
