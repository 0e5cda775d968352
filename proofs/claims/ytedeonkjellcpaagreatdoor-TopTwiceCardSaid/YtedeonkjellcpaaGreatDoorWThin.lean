/- Words and walks of the row. No condition. -/
import Derived.Test.YtedeonkjellcpaaGreatDoorWZdd5
namespace Go.Proofs.YtedeonkjellcpaaGreatDoor
open Go Go.RowKit
set_option autoImplicit true
set_option relaxedAutoImplicit true
set_option linter.unusedVariables false
set_option linter.unusedSimpArgs false
section
theorem kM:eb Tryz.prog 285 1=some 1:=by kernel_rfl
theorem fe:eN Tryz.prog 27=true:=by kernel_rfl
theorem jT:eb Tryz.prog 285 0=some 0:=by kernel_rfl
theorem JR:cY Tryz.prog 225=true:=by kernel_rfl
theorem oL:cY Tryz.prog 222=true:=by kernel_rfl
theorem J4:cY Tryz.prog 224=true:=by kernel_rfl
theorem yR:d4 Tryz.prog 315=some (.agg #[.int .u64 0, .int .u64 0, .int .u64 0, .int .u64 0, .int .u64 0, .int .u64 0, .int .u64 0, .int .u64 0]):=by kernel_rfl
theorem DU:cY Tryz.prog 155=true:=by kernel_rfl
theorem QT:cY Tryz.prog 252=true:=by kernel_rfl
theorem ii:La Tryz.prog 315=some (2,4):=by kernel_rfl
theorem DQ:cY Tryz.prog 221=true:=by kernel_rfl
theorem PT:kn Tryz.prog 315=some 8:=by kernel_rfl
theorem KT:cY Tryz.prog 223=true:=by kernel_rfl
theorem TL:cY Tryz.prog 253=true:=by kernel_rfl
theorem Bn (s i:Nat) (w:World) (hi:i<8):
    Fn Tryz.prog 252 #[el s, .int .i64 (i:Int)] w λv w'=>v=el (kP (ej s) s i (ej s).length):=by
 refine cK (n:=24) Tryz.func252 rfl rfl rfl λhB=> ?_
 refine Zr<|Zy (du (c:= #[_,_,_,_]) rfl rfl λz W3 R A b=> ?_)
 replace hB:=Ze hB A
 refine Zy (cM ep rfl λo W6 B C a=> ?_)
 have D:=ZO B hB
 obtain⟨hB,b⟩:=C.k2 hB b
 replace a:At W6 o #[wv 0 0,wv 0 1,wv 0 2,wv 0 3] 40:=a
 refine ct<|Zr<|Zv (cz rfl cC rfl b)<|Zy (cM ep rfl λq E g F d=> ?_)
 have r:=ZO g hB
 have t:=Zn g b.lt
 have h:=Zn g a.lt
 obtain⟨hB,b,a⟩:=F.k3 hB b a
 replace d:At E q #[wv 0 0,wv 0 1,wv 0 2,wv 0 3] 40:=d
 refine Zy (cA rfl rfl cC rfl d rfl rfl λS j G=> ?_)
 replace hB:=Zg hB j r
 replace b:=At.grownNe b t j
 replace a:=At.grownNe a h j
 replace d:=G
 refine ct<|Zq<|Zr<|Zv (cz rfl cC rfl b)<|ZC (vs:=[.agg #[_,_,_,_]]) uP (n4 _ _) rfl λl T H e=> ?_
 have I:=(Below.size hB)
 obtain⟨hB,b,a,d⟩:=H.k4 hB b a d
 replace e:=cH.mono e I
 refine Zv (db (v:=l) rfl e.sl cV)<|ZZ rfl<|cy ?_
 refine cW (σ:=(Nat)) [7,7,12,22] (λk=>[(12, .int .i64 (k:Int))]) (λk W=>(Below w.heap.size w W)∧(At W z _ 40)∧(At W o _ 40)∧(cH dX 1 3 W w.heap.size l _)∧(At W q #[wv (kP (ej s) s i k) 0,wv (kP (ej s) s i k) 1,wv (kP (ej s) s i k) 2,wv (kP (ej s) s i k) 3] 40)∧(k≤(ej s).length)∧(True)) (λk=>(ej s).length-k) (0) ⟨rfl,trivial⟩ ⟨hB,b,a,e,d,(me _),trivial⟩ ?_
 rintro k U V ⟨hB,b,a,e,d,hk,_⟩ X J
 have hll:=mv s
 refine Zr<|Zv (dq rfl rfl)<|ct<|Zq<|ZQ rfl (λK=> ?_) λK=> ?_
 refine cx<|Zq<|cy ?_
 obtain⟨p,Y,Z,u⟩:=mq (s:=s) (i:=k) (by omega)
 have h7:=Eb (show i<8 by omega)
 refine Zr<|Zv (dp (v:=l) rfl e.sl rfl cV Om (by omega))<|Zv (cD (v:= .int .i64 _) rfl cR (dr.cell e.sl eD 0 Om (by omega) 0 rfl))<|ZZ rfl ?_
 have L:(ej s).getD (k:Int).toNat 0=(p:Int):=u
 rw[L]
 refine eR dA fx (λM N=> ?_)
 obtain⟨hB,b,a,e,d⟩:=N.k5 hB b a e d
 have hS:=dA.refl M
 refine Tk 0 rfl (λ_ hq=>cz rfl cC rfl (hq.at d)) hS<|Ti 1 rfl rfl hS<|Ti 2 rfl rfl hS<|Tk 3 rfl (λ_ _=>jK (m:=1) rfl rfl Om (by simp only[IntKind.bits];omega) Wp) hS<|Tk 4 rfl (λ_ _=>P4 (n:=_) rfl rfl rfl pX Wp) hS<|To 5 rfl (TC (vs:=[.agg #[_,_,_,_], .int .i64 _]) yY (oq _ _ _) rfl λaa ab x O=>⟨.inl (hS.trans x),?_⟩)
 obtain⟨hB,b,a,e,d⟩:=x.k5 hB b a e d
 obtain rfl:=O
 refine To 6 rfl (cA rfl rfl cC rfl d rfl rfl λac f P=>⟨.inr jW,?_⟩)
 replace hB:=Zg hB f r
 replace b:=At.grownNe b t f
 replace a:=At.grownNe a h f
 replace e:=cH.grownAt e d f Dd
 replace d:=P
 refine Td<|ZT rfl rfl rfl ?_
 exact J _ _ (k+1) Za ⟨rfl,trivial⟩ ⟨hB,b,a,e,(by rw[xh Om,u,my,←abJ (2^i)];exact d),Om,trivial⟩ (by show (ej s).length-(k+1)<(ej s).length-k;omega)
 refine cT<|Zr<|Zv (cz rfl cC rfl d)<|Zy (cA rfl rfl cC rfl a rfl rfl λad y Q=> ?_)
 replace hB:=Zg hB y D
 replace d:=At.grownNe d (Ne.symm h) y
 replace a:=Q
 refine ct<|Zt<|jp rfl cC a rfl ⟨hB,?_⟩
 obtain rfl:k=(ej s).length:=by omega
 rfl
theorem eY (N bc bz:Nat) (e:Int) (id:Nat) (er:Int) (w:World) (hN0:N≤w.heap.size) (hc:At w bc #[.pointer (some ⟨bz,0,none⟩), .int .i64 e] 285) (loc:N≤bc):
    lk Tryz.prog 222 #[.pointer (some ⟨bc,0,none⟩), .int .i64 (id:Int), .int .i64 er] w λv w'=>w.grownBy w' (some bc)∧At w' bc #[.pointer (some ⟨bz,0,none⟩), .int .i64 (iX e er)] 285∧v= .int .i64 ((ko e er id:Nat):Int):=by
 refine dL (n:=22) (N:=N) Tryz.func222 rfl rfl rfl λhB=> ?_
 have c:w.grownBy w (some bc):=World.grownBy.refl w (some bc)
 refine Zr<|ZZ rfl<|Zq<|Zr<|Zp rfl<|Zc rfl<|Zf rfl kM<|Zl rfl fe hc rfl<|Zv (dO rfl rfl)<|ct<|ZQ rfl (λa=> ?_) λa=> ?_
 refine cI<|Zp rfl<|Zi rfl<|Zc rfl<|Zf rfl kM<|Zy (de (v:= .int .i64 _) rfl rfl fe rfl hc fF λW7 d f=> ?_)
 replace c:=cB c d
 replace hc:=f
 replace hc:At _ _ #[_,_] _:=hc
 refine ct<|Zq<|Zr<|Zp rfl<|Zc rfl<|Zf rfl kM<|Zl rfl fe hc rfl<|Zv (eV rfl rfl)<|ct<|ZQ rfl (λb=> ?_) λb=> ?_
 refine Zr<|ZZ rfl<|Zt<|cZ (v:= .int .i64 0) rfl ?_
 have hde:iX e er=er:=if_pos a
 rw[hde]
 exact⟨c,hc,by unfold ko;rw[hde,if_neg b];rfl⟩
 refine cx<|Zr<|Zi rfl<|ZZ rfl<|Zt<|cZ (v:= .int .i64 _) rfl ?_
 have hde:iX e er=er:=if_pos a
 rw[hde]
 exact⟨c,hc,by unfold ko;rw[hde,if_pos (aaS b)]⟩
 refine cx<|Zq<|Zr<|Zp rfl<|Zc rfl<|Zf rfl kM<|Zl rfl fe hc rfl<|Zv (eV rfl rfl)<|ct<|ZQ rfl (λb=> ?_) λb=> ?_
 refine Zr<|ZZ rfl<|Zt<|cZ (v:= .int .i64 0) rfl ?_
 have hde:iX e er=e:=if_neg a
 rw[hde]
 exact⟨c,hc,by unfold ko;rw[hde,if_neg a];rfl⟩
 refine cx<|Zr<|Zi rfl<|ZZ rfl<|Zt<|cZ (v:= .int .i64 _) rfl ?_
 exact absurd (aaS b) a
set_option maxRecDepth 10000 in
theorem qC (N ba bm bz bc R:Nat) (ns:List Nd) (e:Int) (f i:Nat) (w:World) (hN0:N≤w.heap.size) (hz:At w bz #[.pointer (some ⟨ba,0,none⟩)] 282) (hD:fM 222 228 N ba bm R w ns) (hc:At w bc #[.pointer (some ⟨bz,0,none⟩), .int .i64 e] 285) (loc:N≤bc) (hf:f<ns.length+2) (hi:i<24):
    lk Tryz.prog 253 #[.pointer (some ⟨bc,0,none⟩), .int .i64 (f:Int), .int .i64 (i:Int)] w λv w'=>∃(ns':List Nd) (e':Int) (id:Nat),v= .int .i64 (id:Int)∧Dc 228 285 N bc bz ba bm w w'∧At w' bz #[.pointer (some ⟨ba,0,none⟩)] 282∧fM 222 228 N ba bm R w' ns'∧At w' bc #[.pointer (some ⟨bz,0,none⟩), .int .i64 e'] 285∧Vw ns ns' R e e' f i id:=by
 refine dL (n:=29) (N:=N) Tryz.func253 rfl rfl rfl λhB=> ?_
 have hX:Dc 228 285 N bc bz ba bm w w:=Dc.refl
 have hwf:=hD.wf
 have hroom:=hD.room
 have htop:=hD.top
 have hpl:2^i≤8388608:=by have:=aaV (show 0<2 by decide) (show i≤23 by omega);simpa using this
 refine Zr<|ZZ rfl<|Zd (λa b=>Dc 228 285 N bc bz ba bm a b) λW5 h=> ?_
 obtain⟨hz,hc⟩:=h.k2 hz hc
 replace hD:=fM.ext h hD
 replace hX:=Dc.trans hX (Dc.ext h)
 replace hB:=cX hB h hN0
 have hwk0:Wc 285 bc bz W5:=⟨_,hc⟩
 have hS:Dc 228 285 N bc bz ba bm W5 W5:=Dc.refl
 refine Tq 0 rfl rfl hS<|Tq 1 rfl rfl hS<|Tc 2 rfl rfl hS<|Tf 3 rfl rfl jT hS<|Tk 4 rfl (λ_ hq=>cD (v:= .pointer (some ⟨bz,0,none⟩)) rfl iS (adR (Dc.wk hq hwk0))) hS<|Ti 5 rfl rfl hS<|Tq 6 rfl rfl hS<|Tq 7 rfl rfl hS<|Tc 8 rfl rfl hS<|Tf 9 rfl rfl jT hS<|Tk 10 rfl (λ_ hq=>cD (v:= .pointer (some ⟨bz,0,none⟩)) rfl iS (adR (Dc.wk hq hwk0))) hS<|Ti 11 rfl rfl hS<|Tk 12 rfl (λ_ _=>jK (m:=1) rfl rfl Om (by simp only[IntKind.bits];omega) yW) hS<|To 13 rfl (ez (u:= .int .i64 _) rfl cV eP rfl Dd Dd λy W7 z c A=>⟨.inl (Dc.trans hS (Dc.ext c)),?_⟩)
 have B:N≤y:=z▸(go hN0 (Below.size hB))
 obtain⟨hz,hc⟩:=c.k2 hz hc
 replace hD:=fM.ext c hD
 replace hX:=Dc.trans hX (Dc.ext c)
 replace hB:=cX hB c hN0
 replace hS:=Dc.trans hS (Dc.ext c)
 have C:=jf (enc:=dX) (a:=((1*2^i:Nat):Int)) A rfl rfl B
 refine To 14 rfl (TG JR (qU N ba bm bz R ns _ [((1*2^i:Nat):Int)] _ (go hN0 (Below.size hB)) hz hD C.sl (show 1≤1000000 by decide)) rfl λJ K p=>⟨.inl (Dc.trans hS (ade hD (PE.dx p) (by decide) (by decide))),?_⟩)
 replace hS:=Dc.trans hS (ade hD (PE.dx p) Dd Dd)
 obtain⟨s,D,E,rfl,k,F,G⟩:=p
 replace hz:=At.dx hD k hz Dd Dd
 replace hc:=At.dx hD k hc Dd Dd
 replace hX:=Dc.trans hX (ade hD k Dd Dd)
 replace hB:=Below.dx hB (am _) hN0 k
 replace hD:=F
 have hgA:=UH G (by rw[abJ];exact V9 hi)
 have hvA:=hgA.valid
 have hf1:f<s.length+2:=by have:=gt hgA.pre;omega
 have hw1:=hD.wf
 refine Tk 15 rfl (λ_ _=>c7 rfl) hS<|Tk 16 rfl (λ_ _=>da rfl) hS<|To 17 rfl (TG oL (eY N bc bz _ _ _ _ (go hN0 (Below.size hB)) hc loc) rfl λL M d=>⟨.inl (Dc.trans hS (Dc.did d.1 loc d.2.1)),?_⟩)
 replace hS:=Dc.trans hS (Dc.did d.1 loc d.2.1)
 obtain⟨l,t,rfl⟩:=d
 replace hX:=Dc.trans hX (Dc.did l loc t)
 replace hz:=At.grownAt hz hc l Dd
 replace hD:=fM.grownAt hD hc l Dd Dd
 replace hB:=dg hB l hN0 (λj hj=>by cases hj;exact loc)
 replace hc:=t
 refine To 18 rfl (TG J4 (oZ N ba bm bz R s f (ko e E D) _ (go hN0 (Below.size hB)) hz hD hf1 (qh hvA)) rfl λO P q=>⟨.inl (Dc.trans hS (ade hD (PO.dx q) (by decide) (by decide))),?_⟩)
 replace hS:=Dc.trans hS (ade hD (PO.dx q) Dd Dd)
 obtain⟨Q,S,T,rfl,o,H,I⟩:=q
 replace hz:=At.dx hD o hz Dd Dd
 replace hc:=At.dx hD o hc Dd Dd
 replace hB:=Below.dx hB (am _) hN0 o
 replace hX:=Dc.trans hX (ade hD o Dd Dd)
 replace hD:=H
 refine Tk 19 rfl (λ_ _=>c7 rfl) hS<|Tk 20 rfl (λ_ _=>da rfl) hS<|To 21 rfl (TG oL (eY N bc bz _ _ _ _ (go hN0 (Below.size hB)) hc loc) rfl λU V g=>⟨.inl (Dc.trans hS (Dc.did g.1 loc g.2.1)),?_⟩)
 replace hS:=Dc.trans hS (Dc.did g.1 loc g.2.1)
 obtain⟨r,x,rfl⟩:=g
 replace hX:=Dc.trans hX (Dc.did r loc x)
 replace hz:=At.grownAt hz hc r Dd
 replace hD:=fM.grownAt hD hc r Dd Dd
 replace hc:=x
 refine Ti 22 rfl rfl hS<|Td<|Zt<|cZ (v:= .int .i64 _) rfl ?_
 exact⟨_,_,_,rfl,hX,hz,hD,hc,YZ hw1 hgA I hf hi⟩
def aaz (fu:Nat):Prop:=∀(N ba bm bz bc R:Nat) (ns:List Nd) (e:Int) (s n i:Nat) (w:World),(N≤w.heap.size)→(At w bz #[.pointer (some ⟨ba,0,none⟩)] 282)→(fM 222 228 N ba bm R w ns)→(At w bc #[.pointer (some ⟨bz,0,none⟩), .int .i64 e] 285)→(N≤bc)→(n≤8)→(xG n s i)→n+1-i≤fu→
  lk Tryz.prog 221 #[.pointer (some ⟨bc,0,none⟩),el s,el (fk n), .int .i64 (n:Int), .int .i64 (i:Int)] w λv w'=>∃(ns':List Nd) (e':Int) (id:Nat),v= .int .i64 (id:Int)∧Dc 228 285 N bc bz ba bm w w'∧At w' bz #[.pointer (some ⟨ba,0,none⟩)] 282∧fM 222 228 N ba bm R w' ns'∧At w' bc #[.pointer (some ⟨bz,0,none⟩), .int .i64 e'] 285∧PS ns ns' R e e' n i s id
theorem S4 (w:World):(sizeOf 40).run Tryz.prog w= .ok 4 w:=by
  obtain⟨j0,hj0,hs0⟩:=an.1 (show (Tryz.prog.info? 40).map (·.size)=some 4 by kernel_rfl)
  simp[sizeOf,typeInfo,hj0,hs0]
theorem R0 (hk:k<2) (w:World):(part 40 (oo (cS s i false) (cS s i true)) (k*4)).run Tryz.prog w= .ok (el (QY s i k)) w:=by
  obtain⟨j0,hj0,hs0⟩:=an.1 (show (Tryz.prog.info? 40).map (·.size)=some 4 by kernel_rfl)
  have:k=0∨k=1:=by omega
  rcases this with rfl|rfl<;>simp[part,isAgg,sizeOf,typeInfo,hj0,hs0,run_underlying Tryz.underlying40,oo,QY]<;>rfl
set_option maxRecDepth 20000 in
theorem M0 (q:Nat) (N ba bm bz bc R:Nat) (ns:List Nd) (e:Int) (s n i:Nat) (w:World) (ih:aaz q) (hN0:N≤w.heap.size) (hz:At w bz #[.pointer (some ⟨ba,0,none⟩)] 282) (hD:fM 222 228 N ba bm R w ns) (hc:At w bc #[.pointer (some ⟨bz,0,none⟩), .int .i64 e] 285) (loc:N≤bc) (h8:n≤8) (hfr:xG n s i) (hn:n+1-i≤q+1):
    lk Tryz.prog 221 #[.pointer (some ⟨bc,0,none⟩),el s,el (fk n), .int .i64 (n:Int), .int .i64 (i:Int)] w λv w'=>∃(ns':List Nd) (e':Int) (id:Nat),v= .int .i64 (id:Int)∧Dc 228 285 N bc bz ba bm w w'∧At w' bz #[.pointer (some ⟨ba,0,none⟩)] 282∧fM 222 228 N ba bm R w' ns'∧At w' bc #[.pointer (some ⟨bz,0,none⟩), .int .i64 e'] 285∧PS ns ns' R e e' n i s id:=by
 refine dL (n:=99) (N:=N) Tryz.func221 rfl rfl rfl λhB=> ?_
 have hX:Dc 228 285 N bc bz ba bm w w:=Dc.refl
 have hwf:=hD.wf
 have hroom:=hD.room
 have htop:=hD.top
 refine Zr<|Zy (du (c:= #[_,_,_,_]) rfl rfl λai W3 a3 M f=> ?_)
 obtain⟨hz,hc⟩:=M.k2 hz hc
 replace hD:=fM.ext M hD
 replace hX:=Dc.trans hX (Dc.ext M)
 replace hB:=cX hB M hN0
 refine Zy (du (c:= #[_,_,_,_]) rfl rfl λaj W6 av y g=> ?_)
 have a4:=Zn av f.lt
 obtain⟨hz,hc⟩:=y.k2 hz hc
 replace hD:=fM.ext y hD
 replace hX:=Dc.trans hX (Dc.ext y)
 replace hB:=cX hB y hN0
 replace f:=y.at f
 refine ZZ rfl<|Zq<|cy<|Zr<|Zp rfl<|Zc rfl<|Zf rfl kM<|Zl rfl fe hc rfl<|Zv (eV rfl rfl)<|ZX rfl (λz=> ?_) λz=> ?_
 refine Zs<|Zs<|Zs<|Zb rfl<|Zb rfl<|ct<|cN rfl<|Zr<|ZZ rfl<|Zt<|cZ (v:= .int .i64 0) rfl ?_
 exact⟨ns,e,0,rfl,hX,hz,hD,hc,XP z⟩
 refine Zv (cz rfl cC rfl f)<|Zv (v:=el 0) (gq)<|Zv (uW rfl rfl)<|Zb rfl<|Zb rfl<|ct<|ZQ rfl (λQ=> ?_) λQ=> ?_
 refine Zr<|ZZ rfl<|Zt<|cZ (v:= .int .i64 0) rfl ?_
 exact⟨ns,e,0,rfl,hX,hz,hD,hc,abk (aaS z) h8 (yJ Q)⟩
 refine Zr<|Zv (cz rfl cC rfl f)<|Zv (cz rfl cC rfl g)<|Zv (uW rfl rfl)<|Zb rfl<|ct<|ZQ rfl (λS=> ?_) λS=> ?_
 refine Zr<|ZZ rfl<|Zt<|cZ (v:= .int .i64 1) rfl ?_
 exact⟨ns,e,1,rfl,hX,hz,hD,hc,abq (aaS z) h8 (yJ S)⟩
 refine cx ?_
 have he:e=0:=aaS z
 subst he
 have h0:¬Bc s 0=true:=λh=>Q (uV h)
 have h1:¬Bc s (fk n)=true:=λh=>S (uV h)
 have hi:i<n:=hfr.lt h8 h0 h1
 have hi8:i<8:=by omega
 refine Zr<|Zy (cM yR rfl λO a5 ak A d=> ?_)
 have al:N≤O:=ak▸(go hN0 (Below.size hB))
 have aw:w.heap.size≤O:=ak▸hX.dx.size
 obtain⟨hz,hc⟩:=A.k2 hz hc
 replace hD:=fM.ext A hD
 replace hX:=Dc.trans hX (Dc.ext A)
 replace hB:=cX hB A hN0
 obtain⟨f,g⟩:=A.k2 f g
 refine ct<|Zq ?_
 replace d:=wQ (s:=s) (i:=i) d
 refine Zr<|ZZ rfl<|cy ?_
 refine cW (σ:=(Nat)) [12,12,33,45] (λk=>[(33, .int .i64 (k:Int))]) (λk W=>(At W bz _ 282)∧(At W bc _ 285)∧(fM 222 228 N ba bm R W ns)∧(Dc 228 285 N bc bz ba bm w W)∧(Below N w W)∧(At W ai _ 40)∧(At W aj _ 40)∧(At W O (pj s i k) 315)∧(k≤2)∧(True)) (λk=>2-k) (0) ⟨rfl,trivial⟩ ⟨hz,hc,hD,hX,hB,f,g,d,(me _),trivial⟩ ?_
 rintro k a6 a7 ⟨hz,hc,hD,hX,hB,f,g,d,hk,_⟩ a8 ax
 refine Zr<|Zv (dq rfl rfl)<|ct<|Zq<|ZQ rfl (λay=> ?_) λay=> ?_
 refine cx<|Zq<|cy<|Zr<|Zi rfl<|ZZ rfl<|cI<|Zi rfl<|Zv (cz rfl cC rfl f)<|Zi rfl<|Zi rfl<|Zv (dO rfl rfl) ?_
 refine ZC (vs:=[.agg #[_,_,_,_], .int .i64 _, .bool _]) DU (Aa _ _ _ _) rfl λa9 bb B az=> ?_
 obtain⟨hz,hc⟩:=B.k2 hz hc
 replace hD:=fM.ext B hD
 replace hX:=Dc.trans hX (Dc.ext B)
 replace hB:=cX hB B hN0
 obtain⟨f,g,d⟩:=B.k3 f g d
 obtain rfl:=az
 rw[if_pos (show 0≤(i:Int)∧(i:Int)<8 by omega)]
 simp only[my]
 refine Zi rfl<|ZC (vs:=[.agg #[_,_,_,_], .int .i64 _]) QT (Bn (qX s i (decide ((k:Int)=1))) i _ Om) rfl λaA bd C T=> ?_
 obtain⟨hz,hc⟩:=C.k2 hz hc
 replace hD:=fM.ext C hD
 replace hX:=Dc.trans hX (Dc.ext C)
 replace hB:=cX hB C hN0
 obtain⟨f,g,d⟩:=C.k3 f g d
 replace T:aA=el (cS s i (decide ((k:Int)=1))):=T
 obtain rfl:=T
 refine Zv (ff rfl rfl ii Om Om)<|Zy (iT rfl rfl cC rfl d (by rw[sC];omega) rfl λbf o aB=> ?_)
 replace hz:=At.grownAt hz d o Dd
 replace hc:=At.grownAt hc d o Dd
 replace hD:=fM.grownAt hD d o Dd Dd
 replace hX:=Dc.new hX aw al o d Dd
 replace hB:=dg hB o hN0 (λj hj=>by cases hj;exact al)
 replace f:=At.grownAt f d o Dd
 replace g:=At.grownAt g d o Dd
 replace d:=aB
 try simp only[my]at d
 rw[ue (by omega)]at d
 refine ct<|ZT rfl rfl rfl ?_
 exact ax _ _ (k+1) Za ⟨rfl,trivial⟩ ⟨hz,hc,hD,hX,hB,f,g,(by exact d),Om,trivial⟩ Zo
 refine cT ?_
 obtain rfl:k=2:=by omega
 replace d:At _ _ (oo (cS s i false) (cS s i true)) _:=d
 refine Zd (λa b=>Dc 228 285 N bc bz ba bm a b) λU D=> ?_
 obtain⟨hz,hc⟩:=D.k2 hz hc
 replace hD:=fM.ext D hD
 replace hX:=Dc.trans hX (Dc.ext D)
 replace hB:=cX hB D hN0
 obtain⟨f,g,d⟩:=D.k3 f g d
 have hwk0:Wc 285 bc bz U:=⟨_,hc⟩
 have hS:Dc 228 285 N bc bz ba bm U U:=Dc.refl
 refine Tq 0 rfl rfl hS<|Tk 1 rfl (λ_ _=>ff rfl rfl ii Om Om) hS<|Tk 2 rfl (λ_ hq=>eI rfl cC (At.cell (acH hD hc hq d Dd Dd Dd) rfl) (At.cell (acH hD hc hq d Dd Dd Dd) rfl) (At.cell (acH hD hc hq d Dd Dd Dd) rfl) (At.cell (acH hD hc hq d Dd Dd Dd) rfl)) hS<|Tk 3 rfl (λ_ _=>ff rfl rfl ii Om Om) hS<|Tk 4 rfl (λ_ hq=>eI rfl cC (At.cell (acH hD hc hq d Dd Dd Dd) rfl) (At.cell (acH hD hc hq d Dd Dd Dd) rfl) (At.cell (acH hD hc hq d Dd Dd Dd) rfl) (At.cell (acH hD hc hq d Dd Dd Dd) rfl)) hS<|Tk 6 rfl (λ_ hq=>cz rfl cC rfl (acH hD hc hq g Dd Dd Dd)) hS<|Ti 7 rfl rfl hS<|Ti 8 rfl rfl hS<|Tk 9 rfl (λ_ _=>d5 rfl rfl Om Om) hS<|To 5 rfl (TC (vs:=[.agg #[_,_,_,_], .agg #[_,_,_,_]]) ud (pH _ _ _) rfl λbg bh x aC=>⟨.inl (Dc.trans hS (Dc.ext x)),?_⟩)
 obtain⟨hz,hc⟩:=x.k2 hz hc
 replace hD:=fM.ext x hD
 replace hX:=Dc.trans hX (Dc.ext x)
 replace hB:=cX hB x hN0
 obtain⟨f,g,d,hS⟩:=x.k4 f g d hS
 obtain rfl:=aC
 refine To 10 rfl (TG (vs:=[.pointer (some ⟨bc,0,none⟩), .agg #[_,_,_,_], .agg #[_,_,_,_], .int .i64 _, .int .i64 _]) DQ (ih N ba bm bz bc R ns 0 (Dt s i) n (i+1) _ (go hN0 (Below.size hB)) hz hD hc loc h8 (Jd h8 hfr hi) Om) rfl λbi bj V=>⟨.inl (Dc.trans hS ((by obtain⟨_,_,_,_,h,_⟩:=V;exact h))),?_⟩)
 replace hS:=Dc.trans hS ((by obtain⟨_,_,_,_,h,_⟩:=V;exact h))
 obtain⟨aD,e11_10,X,rfl,E,aE,hD11_10,aF,aG⟩:=V
 replace hX:=Dc.trans hX E
 replace hB:=Below.dx hB (am _) hN0 E.dx
 replace f:=acH hD hc E f Dd Dd Dd
 replace g:=acH hD hc E g Dd Dd Dd
 replace d:=acH hD hc E d Dd Dd Dd
 replace hz:=aE
 replace hD:=hD11_10
 replace hc:=aF
 refine Ti 11 rfl rfl hS<|Td<|Zr<|Zi rfl<|ZZ rfl<|Zq<|Zr<|Zv (cz rfl PT rfl d)<|ZZ rfl<|cy ?_
 refine cW (σ:=(Nat)×(Nat)×(List Nd)×(Int)) [14,17,59,97] (λ(k,oid,nsc,ec)=>[(59, .int .i64 (k:Int)),(14, .int .i64 (oid:Int))]) (λsg W=>match sg with|(k,oid,nsc,ec)=>(At W bz _ 282)∧(Dc 228 285 N bc bz ba bm w W)∧(Below N w W)∧(At W ai _ 40)∧(At W aj _ 40)∧(At W O _ 315)∧(fM 222 228 N ba bm R W nsc)∧(At W bc #[.pointer (some ⟨bz,0,none⟩), .int .i64 ec] 285)∧(k≤2)∧(LpW ns nsc R n i s k ec X oid)∧(True)) (λ(k,oid,nsc,ec)=>2-k) ((0,X,aD,e11_10)) ⟨rfl,rfl,trivial⟩ ⟨hz,hX,hB,f,g,d,hD,hc,(me _),(Po aG),trivial⟩ ?_
 rintro⟨k,oid,nsc,ec⟩ bk bl ⟨hz,hX,hB,f,g,d,hD,hc,hk,hlp,_⟩ bn aH
 refine Zr<|Zv (dq rfl rfl)<|ct<|Zq<|ZQ rfl (λaI=> ?_) λaI=> ?_
 refine cx<|Zq<|cy<|Zr<|Zi rfl<|Zv (v:=el (QY s i k)) (EU rfl rfl Tryz.underlying315 Om (S4 _) (R0 Om _))<|Zy (cM ep rfl λY aJ P F l=> ?_)
 have ao:N≤Y:=P▸(go hN0 (Below.size hB))
 have aK:=Zn P f.lt
 have aL:=Zn P g.lt
 have aM:w.heap.size≤Y:=P▸hX.dx.size
 obtain⟨hz,hX⟩:=F.k2 hz hX
 replace hB:=cX hB F hN0
 obtain⟨f,g,d⟩:=F.k3 f g d
 replace hD:=fM.ext F hD
 replace hc:=F.at hc
 replace l:At aJ Y #[wv 0 0,wv 0 1,wv 0 2,wv 0 3] 40:=l
 refine Zi rfl<|Zy (cA rfl rfl cC rfl l rfl rfl λbo m aN=> ?_)
 replace hz:=At.grownAt hz l m Dd
 replace hX:=Dc.new hX aM ao m l Dd
 replace hB:=dg hB m hN0 (λj hj=>by cases hj;exact ao)
 replace f:=At.grownNe f aK m
 replace g:=At.grownNe g aL m
 replace d:=At.grownAt d l m Dd
 replace hD:=fM.grownAt hD l m Dd Dd
 replace hc:=At.grownAt hc l m Dd
 replace l:=aN
 refine ct ?_
 have hvc:=hlp.vc
 have hvo:=hlp.vo
 refine Zd (λa b=>Dc 228 285 N bc bz ba bm a b) λZ G=> ?_
 obtain⟨hz,hX⟩:=G.k2 hz hX
 replace hB:=cX hB G hN0
 obtain⟨f,g,d⟩:=G.k3 f g d
 replace hD:=fM.ext G hD
 obtain⟨hc,l⟩:=G.k2 hc l
 have hwk0:Wc 285 bc bz Z:=⟨_,hc⟩
 have hS:Dc 228 285 N bc bz ba bm Z Z:=Dc.refl
 refine Tq 0 rfl rfl hS<|Tq 1 rfl rfl hS<|Tc 2 rfl rfl hS<|Tf 3 rfl rfl jT hS<|Tk 4 rfl (λ_ hq=>cD (v:= .pointer (some ⟨bz,0,none⟩)) rfl iS (adR (Dc.wk hq hwk0))) hS<|Tq 5 rfl rfl hS<|Tk 6 rfl (λ_ hq=>cz rfl cC rfl (acH hD hc hq l Dd Dd Dd)) hS<|Tk 7 rfl (λ_ hq=>cz rfl cC rfl (acH hD hc hq g Dd Dd Dd)) hS<|Ti 8 rfl rfl hS<|Ti 9 rfl rfl hS<|Tk 10 rfl (λ_ _=>d5 rfl rfl Om Om) hS<|Ti 12 rfl rfl hS<|To 11 rfl (TG (vs:=[.pointer (some ⟨bc,0,none⟩), .agg #[_,_,_,_], .agg #[_,_,_,_], .int .i64 _, .int .i64 _]) DQ (ih N ba bm bz bc R nsc ec (QY s i k) n (i+1) _ (go hN0 (Below.size hB)) hz hD hc loc h8 (II h8 hfr hi k) Om) rfl λbp bq aa=>⟨.inl (Dc.trans hS ((by obtain⟨_,_,_,_,h,_⟩:=aa;exact h))),?_⟩)
 replace hS:=Dc.trans hS ((by obtain⟨_,_,_,_,h,_⟩:=aa;exact h))
 obtain⟨aO,e16_11,aP,rfl,H,aQ,hD16_11,aR,ab⟩:=aa
 replace hX:=Dc.trans hX H
 replace hB:=Below.dx hB (am _) hN0 H.dx
 replace f:=acH hD hc H f Dd Dd Dd
 replace g:=acH hD hc H g Dd Dd Dd
 replace d:=acH hD hc H d Dd Dd Dd
 replace hz:=aQ
 replace hD:=hD16_11
 replace hc:=aR
 have hwa:=hD.wf
 have hla:=gt ab.pre
 refine To 13 rfl (TG KT (oU N ba bm bz R aO aP X _ (go hN0 (Below.size hB)) hz hD ab.v Om) rfl λbr bs ac=>⟨.inl (Dc.trans hS (ade hD (PO.dx ac) (by decide) (by decide))),?_⟩)
 replace hS:=Dc.trans hS (ade hD (PO.dx ac) Dd Dd)
 obtain⟨aS,aT,ap,rfl,p,aU,ad⟩:=ac
 replace hz:=At.dx hD p hz Dd Dd
 replace hX:=Dc.trans hX (ade hD p Dd Dd)
 replace hB:=Below.dx hB (am _) hN0 p
 replace f:=At.dx hD p f Dd Dd
 replace g:=At.dx hD p g Dd Dd
 replace d:=At.dx hD p d Dd Dd
 replace hc:=At.dx hD p hc Dd Dd
 replace hD:=aU
 have hwb:=hD.wf
 have hlb:=gt ad.pre
 refine Tk 14 rfl (λ_ _=>c7 rfl) hS<|Tk 15 rfl (λ_ _=>da rfl) hS<|To 16 rfl (TG oL (eY N bc bz _ _ _ _ (go hN0 (Below.size hB)) hc loc) rfl λbt bu I=>⟨.inl (Dc.trans hS (Dc.did I.1 loc I.2.1)),?_⟩)
 replace hS:=Dc.trans hS (Dc.did I.1 loc I.2.1)
 obtain⟨r,aq,rfl⟩:=I
 replace hX:=Dc.trans hX (Dc.did r loc aq)
 replace hz:=At.grownAt hz hc r Dd
 replace hB:=dg hB r hN0 (λj hj=>by cases hj;exact loc)
 replace f:=At.grownAt f hc r Dd
 replace g:=At.grownAt g hc r Dd
 replace d:=At.grownAt d hc r Dd
 replace hD:=fM.grownAt hD hc r Dd Dd
 replace hc:=aq
 refine Ti 17 rfl rfl hS<|Td ?_
 refine eR (λa b=>Dc 228 285 N bc bz ba bm a b) fx (λae J=> ?_)
 replace hz:=J.at hz
 replace hB:=cX hB J hN0
 obtain⟨f,g,d⟩:=J.k3 f g d
 replace hD:=fM.ext J hD
 obtain⟨hc,hX⟩:=J.k2 hc hX
 have hwk0:Wc 285 bc bz ae:=⟨_,hc⟩
 have hS:Dc 228 285 N bc bz ba bm ae ae:=Dc.refl
 refine Tq 0 rfl rfl hS<|Tq 1 rfl rfl hS<|Tc 2 rfl rfl hS<|Tf 3 rfl rfl jT hS<|Tk 4 rfl (λ_ hq=>cD (v:= .pointer (some ⟨bz,0,none⟩)) rfl iS (adR (Dc.wk hq hwk0))) hS<|Ti 5 rfl rfl hS<|Tq 6 rfl rfl hS<|Ti 7 rfl rfl hS<|Ti 8 rfl rfl hS<|Tk 9 rfl (λ_ _=>PV rfl rfl Om Om) hS<|Ti 10 rfl rfl hS<|Tk 11 rfl (λ_ _=>d5 rfl rfl Om Om) hS<|To 12 rfl (TG TL (qC N ba bm bz bc R aS (iX e16_11 ap) (ko e16_11 ap aT) (2*i+k) _ (go hN0 (Below.size hB)) hz hD hc loc (qh ad.valid) Om) rfl λbv bw af=>⟨.inl (Dc.trans hS ((by obtain⟨_,_,_,_,h,_⟩:=af;exact h))),?_⟩)
 replace hS:=Dc.trans hS ((by obtain⟨_,_,_,_,h,_⟩:=af;exact h))
 obtain⟨aV,e17_12,aW,rfl,K,aX,hD17_12,aY,ag⟩:=af
 replace hB:=Below.dx hB (am _) hN0 K.dx
 replace f:=acH hD hc K f Dd Dd Dd
 replace g:=acH hD hc K g Dd Dd Dd
 replace d:=acH hD hc K d Dd Dd Dd
 replace hX:=Dc.trans hX K
 replace hz:=aX
 replace hD:=hD17_12
 replace hc:=aY
 have hwc:=hD.wf
 have hlc:=gt ag.pre
 refine To 13 rfl (TG Dq (kS N ba bm bz R aV oid aW _ (go hN0 (Below.size hB)) hz hD Om ag.v) rfl λbx bA ah=>⟨.inl (Dc.trans hS (ade hD (PO.dx ah) (by decide) (by decide))),?_⟩)
 replace hS:=Dc.trans hS (ade hD (PO.dx ah) Dd Dd)
 obtain⟨aZ,a0,ar,rfl,t,a1,a2⟩:=ah
 replace hz:=At.dx hD t hz Dd Dd
 replace hB:=Below.dx hB (am _) hN0 t
 replace f:=At.dx hD t f Dd Dd
 replace g:=At.dx hD t g Dd Dd
 replace d:=At.dx hD t d Dd Dd
 replace hc:=At.dx hD t hc Dd Dd
 replace hX:=Dc.trans hX (ade hD t Dd Dd)
 replace hD:=a1
 have hwd:=hD.wf
 refine Tk 14 rfl (λ_ _=>c7 rfl) hS<|Tk 15 rfl (λ_ _=>da rfl) hS<|To 16 rfl (TG oL (eY N bc bz _ _ _ _ (go hN0 (Below.size hB)) hc loc) rfl λbB bC L=>⟨.inl (Dc.trans hS (Dc.did L.1 loc L.2.1)),?_⟩)
 replace hS:=Dc.trans hS (Dc.did L.1 loc L.2.1)
 obtain⟨u,au,rfl⟩:=L
 replace hX:=Dc.trans hX (Dc.did u loc au)
 replace hz:=At.grownAt hz hc u Dd
 replace hB:=dg hB u hN0 (λj hj=>by cases hj;exact loc)
 replace f:=At.grownAt f hc u Dd
 replace g:=At.grownAt g hc u Dd
 replace d:=At.grownAt d hc u Dd
 replace hD:=fM.grownAt hD hc u Dd Dd
 replace hc:=au
 refine Ti 17 rfl rfl hS<|Td<|ZT rfl rfl rfl ?_
 exact aH _ _ ((k+1,ko e17_12 ar a0,aZ,iX e17_12 ar)) Za ⟨rfl,rfl,trivial⟩ ⟨hz,hX,hB,f,g,d,hD,(by exact hc),Om,(Rs h8 hfr hi Om hlp hwa hwb hwc hwd ab ad ag a2),trivial⟩ (by show 2-(k+1)<2-k;omega)
 refine cT<|Zr<|Zi rfl<|ZZ rfl<|Zt<|cZ (v:= .int .i64 _) rfl ?_
 obtain rfl:k=2:=by omega
 exact⟨_,_,_,rfl,hX,hz,hD,hc,Xg h8 hfr hi hlp⟩
end
section
theorem U2:∀q,aaz q
 |0=>λN ba bm bz bc R ns e s n i w _ _ _ _ _ _ hfr hn=>by
  have:=hfr.le
  omega
 |q+1=>λN ba bm bz bc R ns e s n i w=>M0 q N ba bm bz bc R ns e s n i w (U2 q)
end
section
theorem jy:eN Tryz.prog 283=true:=by kernel_rfl
theorem SI:d4 Tryz.prog 285=some (.agg #[.pointer none, .int .i64 0]):=by kernel_rfl
theorem nO:(Tryz.prog.info? 27).map (·.size)=some 1:=by kernel_rfl
theorem BD (h0:dm f x0=c0_0) (k0:c0_0.cells= #[c0_0]):
    (execOp (dm f) ⟨d, .build 285 #[(0,x0)],ty,ps,af,g⟩).run Tryz.prog w= .ok (.value (.agg #[c0_0, .int .i64 0])) w:=by
  obtain⟨i0,hi0,hz0⟩:=we.1 (show (Tryz.prog.info? 285).bind (·.zero)=_ from SI)
  obtain⟨j27,hj27,hs27⟩:=an.1 nO
  obtain⟨j238,hj238,hs238⟩:=an.1 AL
  simp[execOp,h0,k0,Instr.build,zeroValue,typeInfo,sizeOf,hi0,hz0,run_underlying Tryz.underlying285,Instr.fill,d7,hj27,hs27,hj238,hs238]
theorem RT:d4 Tryz.prog 283=some (.pointer none):=by kernel_rfl
theorem Kw:cY Tryz.prog 220=true:=by kernel_rfl
set_option maxRecDepth 10000 in
theorem sE (w0:World) (ba bm bz bc R:Nat) (ns:List Nd) (e:Int) (S:Sp) (onV mayV:Value) (o ball bs bp:Nat) (w:World) (hB:Below w0.heap.size w0 w) (hz:At w bz #[.pointer (some ⟨ba,0,none⟩)] 282) (hD:fM 222 228 w0.heap.size ba bm R w ns) (hc:At w bc #[.pointer (some ⟨bz,0,none⟩), .int .i64 e] 285) (loc:w0.heap.size≤bc) (hr:dt S=true) (hon:dr eX 4 w0 onV S.on) (hmay:dr eX 4 w0 mayV S.may) (hal:At w ball #[wv (fk (nN S)) 0,wv (fk (nN S)) 1,wv (fk (nN S)) 2,wv (fk (nN S)) 3] 40) (hsp:At w bs #[.int .i64 ((nN S:Nat):Int),onV,mayV] 59) (hbp:At w bp #[.pointer (some ⟨bc,0,none⟩)] 283) (ho:o<16):
    lk Tryz.prog 220 #[.int .i64 (o:Int), .pointer (some ⟨ball,0,none⟩), .pointer (some ⟨bs,0,none⟩), .pointer (some ⟨bp,0,none⟩)] w λv w'=>∃(ns':List Nd) (e':Int) (id:Nat),v= .int .i64 (id:Int)∧Dc 228 285 w0.heap.size bc bz ba bm w w'∧At w' bz #[.pointer (some ⟨ba,0,none⟩)] 282∧fM 222 228 w0.heap.size ba bm R w' ns'∧At w' bc #[.pointer (some ⟨bz,0,none⟩), .int .i64 e'] 285∧PS ns ns' R e e' (nN S) 0 (ia S o) id:=by
 refine sT (n:=33) Tryz.func220 rfl rfl (adz rfl) ?_
 have hX:Dc 228 285 w0.heap.size bc bz ba bm w w:=Dc.refl
 have hwf:=hD.wf
 have hroom:=hD.room
 have htop:=hD.top
 obtain⟨h8,hSn,y⟩:=sB hr
 have N:=P0 y
 refine Zr<|ZZ rfl<|Zr<|Zv (cz rfl cC rfl hal)<|Zy (cM ep rfl λi W5 j l a=> ?_)
 have g:=ZO j hB
 have r:=Zn j hal.lt
 have s:w.heap.size≤i:=j▸hX.dx.size
 obtain⟨hz,hc⟩:=l.k2 hz hc
 replace hD:=fM.ext l hD
 obtain⟨hX,hal,hsp,hbp,hB⟩:=l.k5 hX hal hsp hbp hB
 replace a:At W5 i #[wv 0 0,wv 0 1,wv 0 2,wv 0 3] 40:=a
 refine Zy (cA rfl rfl cC rfl a rfl rfl λW8 d z=> ?_)
 replace hz:=At.grownAt hz a d Dd
 replace hc:=At.grownAt hc a d Dd
 replace hD:=fM.grownAt hD a d Dd Dd
 replace hX:=Dc.new hX s g d a Dd
 replace hal:=At.grownNe hal r d
 replace hsp:=At.grownAt hsp a d Dd
 replace hbp:=At.grownAt hbp a d Dd
 replace hB:=Zg hB d g
 replace a:=z
 refine ct<|Zq<|Zr<|Zf rfl fE<|ZL mayV rfl eh hsp rfl<|Zv (db (v:=mayV) rfl (Below.slT hB hmay) dQ)<|ZZ rfl<|cy ?_
 refine cW (σ:=(Nat)) [7,8,13,26] (λk=>[(13, .int .i64 (k:Int))]) (λk W=>(At W bz _ 282)∧(At W bc _ 285)∧(fM 222 228 w0.heap.size ba bm R W ns)∧(Dc 228 285 w0.heap.size bc bz ba bm w W)∧(At W ball _ 40)∧(At W bs _ 59)∧(At W bp _ 283)∧(Below w0.heap.size w0 W)∧(At W i #[wv (mb S o k) 0,wv (mb S o k) 1,wv (mb S o k) 2,wv (mb S o k) 3] 40)∧(k≤S.may.length)∧(True)) (λk=>S.may.length-k) (0) ⟨rfl,trivial⟩ ⟨hz,hc,hD,hX,hal,hsp,hbp,hB,a,(me _),trivial⟩ ?_
 rintro k O P ⟨hz,hc,hD,hX,hal,hsp,hbp,hB,a,hk,_⟩ Q t
 refine Zr<|Zv (dq rfl rfl)<|ct<|Zq<|ZQ rfl (λA=> ?_) λA=> ?_
 refine cx<|Zq<|cy<|Zr<|Zi rfl<|Zv (dp (v:=mayV) rfl (Below.slT hB hmay) rfl dQ Om (by omega))<|Zv (eI rfl cC (dr.cell (Below.slT hB hmay) dk 0 Om (by omega) 0 rfl) (dr.cell (Below.slT hB hmay) dk 0 Om (by omega) 1 rfl) (dr.cell (Below.slT hB hmay) dk 0 Om (by omega) 2 rfl) (dr.cell (Below.slT hB hmay) dk 0 Om (by omega) 3 rfl))<|Zy (cM ep rfl λu B h m b=> ?_)
 have x:=ZO h hB
 have C:=Zn h hal.lt
 have D:=Zn h a.lt
 have E:w.heap.size≤u:=h▸hX.dx.size
 obtain⟨hz,hc⟩:=m.k2 hz hc
 replace hD:=fM.ext m hD
 obtain⟨hX,hal,hsp,hbp,hB,a⟩:=m.k6 hX hal hsp hbp hB a
 replace b:At B u #[wv 0 0,wv 0 1,wv 0 2,wv 0 3] 40:=b
 refine Zi rfl<|Zy (cA rfl rfl cC rfl b rfl rfl λT c F=> ?_)
 replace hz:=At.grownAt hz b c Dd
 replace hc:=At.grownAt hc b c Dd
 replace hD:=fM.grownAt hD b c Dd Dd
 replace hX:=Dc.new hX E x c b Dd
 replace hal:=At.grownNe hal C c
 replace hsp:=At.grownAt hsp b c Dd
 replace hbp:=At.grownAt hbp b c Dd
 replace hB:=Zg hB c x
 replace a:=At.grownNe a D c
 replace b:=F
 refine ct<|Zr<|Zi rfl<|Zi rfl<|Zv (ra rfl rfl Om (by simp only[IntKind.bits];omega))<|Zv (nh (n:=1) rfl rfl rfl (by simp only[ig];have:=acz o (2^((k:Nat):Int).toNat);omega) Dd)<|Zv (dO rfl rfl)<|ct<|ZQ rfl (λp=> ?_) λp=> ?_
 refine cI<|Zv (cz rfl cC rfl a)<|Zv (cz rfl cC rfl b)<|ZC (vs:=[.agg #[_,_,_,_], .agg #[_,_,_,_]]) ud (pH _ _ _) rfl λU V q G=> ?_
 obtain⟨hz,hc⟩:=q.k2 hz hc
 replace hD:=fM.ext q hD
 obtain⟨hX,hal,hsp,hbp,hB,a⟩:=q.k6 hX hal hsp hbp hB a
 obtain rfl:=G
 refine Zy (cA rfl rfl cC rfl a rfl rfl λX f H=> ?_)
 replace hz:=At.grownAt hz a f Dd
 replace hc:=At.grownAt hc a f Dd
 replace hD:=fM.grownAt hD a f Dd Dd
 replace hX:=Dc.new hX s g f a Dd
 replace hal:=At.grownNe hal r f
 replace hsp:=At.grownAt hsp a f Dd
 replace hbp:=At.grownAt hbp a f Dd
 replace hB:=Zg hB f g
 replace a:=H
 refine ct<|ZT rfl rfl rfl ?_
 exact t _ _ (k+1) Za ⟨rfl,trivial⟩ ⟨hz,hc,hD,hX,hal,hsp,hbp,hB,(by (rw[←U4 (KL p)];exact a)),Om,trivial⟩ Zo
 refine cx<|ZT rfl rfl rfl ?_
 exact t _ _ (k+1) Za ⟨rfl,trivial⟩ ⟨hz,hc,hD,hX,hal,hsp,hbp,hB,(by (rw[←Vd (Js p)];exact a)),Om,trivial⟩ Zo
 refine cT ?_
 obtain rfl:k=S.may.length:=by omega
 refine Zr<|ZL (.pointer (some ⟨bc,0,none⟩)) rfl jy hbp rfl<|Zv (cz rfl cC rfl a)<|Zv (cz rfl cC rfl hal)<|Zf rfl gn<|Zl rfl cR hsp rfl<|ZH (vs:=[.pointer (some ⟨bc,0,none⟩), .agg #[_,_,_,_], .agg #[_,_,_,_], .int .i64 _, .int .i64 0]) DQ (U2 (nN S+1) w0.heap.size ba bm bz bc R ns e (ia S o) (nN S) 0 _ (Below.size hB) hz hD hc loc h8 (MR hr o) Om) rfl λY Z I=> ?_
 obtain⟨aa,e8_5,ab,rfl,J,K,hD8_5,L,M⟩:=I
 replace hX:=Dc.trans hX J
 replace hz:=K
 replace hD:=hD8_5
 replace hc:=L
 refine ZZ rfl<|Zt<|cZ (v:= .int .i64 _) rfl ?_
 exact⟨_,_,_,rfl,hX,hz,hD,hc,M⟩
set_option maxRecDepth 20000 in
theorem DC (w0:World) (ba bm bz R:Nat) (ns:List Nd) (S:Sp) (onV mayV:Value) (w:World) (hB:Below w0.heap.size w0 w) (hz:At w bz #[.pointer (some ⟨ba,0,none⟩)] 282) (hD:fM 222 228 w0.heap.size ba bm R w ns) (hr:dt S=true) (hon:dr eX 4 w0 onV S.on) (hmay:dr eX 4 w0 mayV S.may):
    lk Tryz.prog 175 #[.pointer (some ⟨bz,0,none⟩), .agg #[.int .i64 S.n,onV,mayV]] w λv w'=>PW 222 228 w0.heap.size ba bm R w ns (X0 R ns S) v w':=by
 refine sT (n:=114) Tryz.func175 rfl rfl (adz rfl) ?_
 have hX:Dx 228 w0.heap.size [ba,bm] w w:=Dx.refl
 have hwf:=hD.wf
 have hroom:=hD.room
 have htop:=hD.top
 obtain⟨h8,hSn,aE⟩:=sB hr
 have bo:=P0 aE
 have bp:=ace S.may.length
 refine Zr<|Zy (du (c:= #[_,_,_]) rfl rfl λs W3 bq Q g=> ?_)
 replace hz:=Q.at hz
 replace hD:=fM.ext Q hD
 obtain⟨hX,hB⟩:=Q.k2 hX hB
 refine Zi rfl<|ZZ rfl<|Zq<|Zr<|Zp rfl<|Zv (rA rfl rfl Tryz.underlying238)<|Zb rfl<|Zv (cz rfl d9 rfl g)<|ZC (vs:=[.agg #[_,_,_]]) oN (iQ S _ _ _ (Below.slT hB hon) (Below.slT hB hmay)) rfl λbr bs T aF=> ?_
 replace hz:=T.at hz
 replace hD:=fM.ext T hD
 obtain⟨hX,hB,g⟩:=T.k3 hX hB g
 obtain rfl:=aF
 refine Zv (eK rfl)<|Zb rfl<|ct<|ZQ rfl (λav=> ?_) λav=> ?_
 exact absurd (NX av) (by rw[hr];decide)
 refine cx<|Zr<|Zp rfl<|Zv (BD (h0:=rfl) (k0:=rfl) (c0_0:= .pointer (some ⟨bz,0,none⟩)))<|Zy (du (c:= #[_,_]) rfl rfl λk bt aw U d=> ?_)
 have l:=ZO aw hB
 have F:w.heap.size≤k:=aw▸hX.size
 replace hz:=U.at hz
 replace hD:=fM.ext U hD
 obtain⟨hX,hB,g⟩:=U.k3 hX hB g
 refine Zy (cM RT rfl λr bu ax V e=> ?_)
 have ay:=ZO ax hB
 have aG:w.heap.size≤r:=ax▸hX.size
 replace hz:=V.at hz
 replace hD:=fM.ext V hD
 obtain⟨hX,hB,g,d⟩:=V.k4 hX hB g d
 refine Zy (de (v:= .pointer (some ⟨k,0,none⟩)) rfl rfl jy rfl e Lp λbv G aH=> ?_)
 replace hz:=At.grownAt hz e G Dd
 replace hD:=fM.grownAt hD e G Dd Dd
 replace hX:=adJ hX aG (Dx.grown G (aaZ ..) ay)
 replace hB:=Zg hB G ay
 replace g:=At.grownAt g e G Dd
 replace d:=At.grownAt d e G Dd
 replace e:=aH
 replace e:At _ _ #[_] _:=e
 refine ct ?_
 rw[hSn]at g
 refine Zr<|Zf rfl gn<|Zl rfl cR g rfl<|ZC wO (nQ ((nN S:Nat):Int) _) rfl λbw bx X aI=> ?_
 replace hz:=X.at hz
 replace hD:=fM.ext X hD
 obtain⟨hX,hB,g,d,e⟩:=X.k5 hX hB g d e
 obtain rfl:=Ui h8 aI
 refine Zw (.tuple #[.agg #[_,_,_,_], .int .i64 0]) rfl<|Zv (c7 rfl)<|Zv (da rfl)<|Zy (cM ep rfl λp aJ az Y i=> ?_)
 have aA:=ZO az hB
 have aK:w.heap.size≤p:=az▸hX.size
 replace hz:=Y.at hz
 replace hD:=fM.ext Y hD
 obtain⟨hX,hB,g,d,e⟩:=Y.k5 hX hB g d e
 replace i:At aJ p #[wv 0 0,wv 0 1,wv 0 2,wv 0 3] 40:=i
 refine Zy (cA rfl rfl cC rfl i rfl rfl λbA t aL=> ?_)
 replace hz:=At.grownAt hz i t Dd
 replace hD:=fM.grownAt hD i t Dd Dd
 replace hX:=adJ hX aK (Dx.grown t (aaZ ..) aA)
 replace hB:=Zg hB t aA
 replace g:=At.grownAt g i t Dd
 replace d:=At.grownAt d i t Dd
 replace e:=At.grownAt e i t Dd
 replace i:=aL
 refine ZZ rfl<|Zr<|ZZ rfl<|Zr<|Zv (eU (vs:= #[.pointer (some ⟨p,0,none⟩), .pointer (some ⟨s,0,none⟩), .pointer (some ⟨r,0,none⟩)]) Bi)<|Zw (.func (.func 220) #[] #[.pointer (some ⟨p,0,none⟩), .pointer (some ⟨s,0,none⟩), .pointer (some ⟨r,0,none⟩)]) rfl<|ct<|Zq<|Zr<|ZZ rfl<|cy ?_
 refine cW (σ:=(Nat)×(Nat)×(List Nd)×(Int)) [9,9,11,14,32,103] (λ(o,out,nsc,ec)=>[(11, .int .i64 (o:Int)),(9, .int .i64 (out:Int))]) (λsg W=>match sg with|(o,out,nsc,ec)=>(At W bz _ 282)∧(Dx 228 w0.heap.size [ba,bm] w W)∧(Below w0.heap.size w0 W)∧(At W s _ 59)∧(At W r _ 283)∧(At W p _ 40)∧(fM 222 228 w0.heap.size ba bm R W nsc)∧(At W k #[.pointer (some ⟨bz,0,none⟩), .int .i64 ec] 285)∧(1≤o∧o≤2^S.may.length)∧(Xn ns nsc R S o ec out)∧(True)) (λ(o,out,nsc,ec)=>2^S.may.length-o) ((1,0,ns,0)) ⟨rfl,rfl,trivial⟩ ⟨hz,hX,hB,g,e,i,hD,d,Om,Qz,trivial⟩ ?_
 rintro⟨o,out,nsc,ec⟩ bB bC ⟨hz,hX,hB,g,e,i,hD,d,hoo,halw,_⟩ bD aM
 refine Zq<|Zr<|Zi rfl<|Zf rfl fE<|ZL mayV rfl eh g rfl<|Zv (db (v:=mayV) rfl (Below.slT hB hmay) dQ)<|Zv (jK (m:=1) rfl rfl Om (by simp only[IntKind.bits];omega) ux)<|Zv (dq rfl rfl)<|ct<|ZQ rfl (λH=> ?_) λH=> ?_
 refine cx<|Zq<|cy ?_
 have hol:o<16:=by simp only[abJ,my]at H;omega
 have hom:o<2^S.may.length:=by simp only[abJ,my]at H;omega
 have hwo:=halw.v
 refine Zr<|Zw (.func (.func 220) #[] #[.pointer (some ⟨p,0,none⟩), .pointer (some ⟨s,0,none⟩), .pointer (some ⟨r,0,none⟩)]) rfl<|Zi rfl ?_
 refine mZ (dd:=some 42) rfl rfl rfl (iu (q:=220) (first:= #[]) (cap:= #[.pointer (some ⟨p,0,none⟩), .pointer (some ⟨s,0,none⟩), .pointer (some ⟨r,0,none⟩)]) (vs:= #[.int .i64 _, .pointer (some ⟨p,0,none⟩), .pointer (some ⟨s,0,none⟩), .pointer (some ⟨r,0,none⟩)]) rfl Kw Hh) (sE w0 ba bm bz k R nsc ec S onV mayV o _ _ _ _ hB hz hD d l hr hon hmay i g e Om) (λbE bF aN=> ?_)
 obtain⟨aO,e10_2,aP,rfl,I,aQ,hD10_2,aR,aS⟩:=aN
 replace hX:=adJ hX F I.dx
 replace hB:=Below.dx hB (am _) (am _) I.dx
 replace g:=acH hD d I g Dd Dd Dd
 replace e:=acH hD d I e Dd Dd Dd
 replace i:=acH hD d I i Dd Dd Dd
 replace hz:=aQ
 replace hD:=hD10_2
 replace d:=aR
 refine ZZ rfl<|Zq<|Zr<|Zi rfl<|Zv (d5 rfl rfl Om Om)<|ZZ rfl<|cy ?_
 refine cW (σ:=(Nat)×(Nat)×(List Nd)×(Int)) [12,13,45,70] (λ(j,f,nsi,ei)=>[(13, .int .i64 (j:Int)),(12, .int .i64 (f:Int))]) (λsg W=>match sg with|(j,f,nsi,ei)=>(At W bz _ 282)∧(Dx 228 w0.heap.size [ba,bm] w W)∧(Below w0.heap.size w0 W)∧(At W s _ 59)∧(At W r _ 283)∧(At W p _ 40)∧(fM 222 228 w0.heap.size ba bm R W nsi)∧(At W k #[.pointer (some ⟨bz,0,none⟩), .int .i64 ei] 285)∧(o<j∧j≤2^S.may.length)∧(WF nsc nsi R S o j ec ei f)∧(True)) (λ(j,f,nsi,ei)=>2^S.may.length-j) ((o+1,aP,aO,e10_2)) ⟨rfl,rfl,trivial⟩ ⟨hz,hX,hB,g,e,i,hD,d,(by simp only[abJ,my]at H;omega),(Ns aS),trivial⟩ ?_
 rintro⟨j,f,nsi,ei⟩ bG bH ⟨hz,hX,hB,g,e,i,hD,d,hjj,hfw,_⟩ bI aB
 refine Zq<|Zr<|Zi rfl<|Zf rfl fE<|ZL mayV rfl eh g rfl<|Zv (db (v:=mayV) rfl (Below.slT hB hmay) dQ)<|Zv (jK (m:=1) rfl rfl Om (by simp only[IntKind.bits];omega) ux)<|Zv (dq rfl rfl)<|ct<|ZQ rfl (λZ=> ?_) λZ=> ?_
 refine cx<|Zq<|cy ?_
 have hjp:j<2^S.may.length:=by simp only[abJ,my]at Z;omega
 refine Zr<|Zi rfl<|Zi rfl<|Zv (nh (n:=_) rfl rfl rfl vl vl)<|Zi rfl<|Zv (dO rfl rfl)<|ct<|ZQ rfl (λaa=> ?_) λaa=> ?_
 refine eR (λa b=>Dc 228 285 w0.heap.size k bz ba bm a b) fx (λab ac=> ?_)
 obtain⟨hz,hX,hB,g,e,i⟩:=ac.k6 hz hX hB g e i
 replace hD:=fM.ext ac hD
 replace d:=ac.at d
 have hwk0:Wc 285 k bz ab:=⟨_,d⟩
 have hS:Dc 228 285 w0.heap.size k bz ba bm ab ab:=Dc.refl
 refine Tk 0 rfl (λ_ hq=>cD (v:= .pointer (some ⟨k,0,none⟩)) rfl jy (At.cell (acH hD d hq e Dd Dd Dd) rfl)) hS<|Tk 1 rfl (λ_ hq=>cD (v:= .pointer (some ⟨k,0,none⟩)) rfl jy (At.cell (acH hD d hq e Dd Dd Dd) rfl)) hS<|Tc 2 rfl rfl hS<|Tf 3 rfl rfl jT hS<|Tk 4 rfl (λ_ hq=>cD (v:= .pointer (some ⟨bz,0,none⟩)) rfl iS (adR (Dc.wk hq hwk0))) hS<|Ti 5 rfl rfl hS<|Tw 6 (.func (.func 220) #[] #[.pointer (some ⟨p,0,none⟩), .pointer (some ⟨s,0,none⟩), .pointer (some ⟨r,0,none⟩)]) rfl rfl hS<|Ti 7 rfl rfl hS<|To 8 rfl (adV (iu (q:=220) (first:= #[]) (cap:= #[.pointer (some ⟨p,0,none⟩), .pointer (some ⟨s,0,none⟩), .pointer (some ⟨r,0,none⟩)]) (vs:= #[.int .i64 _, .pointer (some ⟨p,0,none⟩), .pointer (some ⟨s,0,none⟩), .pointer (some ⟨r,0,none⟩)]) rfl Kw Hh) (sE w0 ba bm bz k R nsi ei S onV mayV j _ _ _ _ hB hz hD d l hr hon hmay i g e Om) λbJ bK ad=>⟨.inl (Dc.trans hS ((by obtain⟨_,_,_,_,h,_⟩:=ad;exact h))),?_⟩)
 replace hS:=Dc.trans hS ((by obtain⟨_,_,_,_,h,_⟩:=ad;exact h))
 obtain⟨aT,e15_8,aU,rfl,J,aV,hD15_8,aW,ae⟩:=ad
 replace hX:=adJ hX F J.dx
 replace hB:=Below.dx hB (am _) (am _) J.dx
 replace g:=acH hD d J g Dd Dd Dd
 replace e:=acH hD d J e Dd Dd Dd
 replace i:=acH hD d J i Dd Dd Dd
 replace hz:=aV
 replace hD:=hD15_8
 replace d:=aW
 have hwa:=hD.wf
 have hla:=gt ae.pre
 have hwi:=hfw.v
 refine To 9 rfl (TG KT (oU w0.heap.size ba bm bz R aT f aU _ (Below.size hB) hz hD Om ae.v) rfl λbL bM af=>⟨.inl (Dc.trans hS (ade hD (PO.dx af) (by decide) (by decide))),?_⟩)
 replace hS:=Dc.trans hS (ade hD (PO.dx af) Dd Dd)
 obtain⟨aX,aY,aC,rfl,x,aZ,a0⟩:=af
 replace hz:=At.dx hD x hz Dd Dd
 replace hX:=Dx.trans hX (x)
 replace hB:=Below.dx hB (am _) (am _) x
 replace g:=At.dx hD x g Dd Dd
 replace e:=At.dx hD x e Dd Dd
 replace i:=At.dx hD x i Dd Dd
 replace d:=At.dx hD x d Dd Dd
 replace hD:=aZ
 refine Tk 10 rfl (λ_ _=>c7 rfl) hS<|Tk 11 rfl (λ_ _=>da rfl) hS<|To 12 rfl (TG oL (eY w0.heap.size k bz _ _ _ _ (Below.size hB) d l) rfl λbN bO K=>⟨.inl (Dc.trans hS (Dc.did K.1 l K.2.1)),?_⟩)
 replace hS:=Dc.trans hS (Dc.did K.1 l K.2.1)
 obtain⟨y,a1,rfl⟩:=K
 replace hz:=At.grownAt hz d y Dd
 replace hX:=adJ hX F (Dx.grown y (aaZ ..) l)
 replace hB:=Zg hB y l
 replace g:=At.grownAt g d y Dd
 replace e:=At.grownAt e d y Dd
 replace i:=At.grownAt i d y Dd
 replace hD:=fM.grownAt hD d y Dd Dd
 replace d:=a1
 refine Ti 13 rfl rfl hS<|Td<|cI<|Zi rfl<|Zv (d5 rfl rfl Om Om)<|ZZ rfl ?_
 exact aB _ _ ((j+1,ko e15_8 aC aY,aX,iX e15_8 aC)) Za ⟨rfl,rfl,trivial⟩ ⟨hz,hX,hB,g,e,i,hD,(by exact d),Om,(SO hr hD.wf hfw hjj.1 (Pv aa) ae a0),trivial⟩ (by show 2^S.may.length-(j+1)<2^S.may.length-j;omega)
 refine cx<|cI<|Zi rfl<|Zv (d5 rfl rfl Om Om)<|ZZ rfl ?_
 exact aB _ _ ((j+1,f,nsi,ei)) Za ⟨rfl,rfl,trivial⟩ ⟨hz,hX,hB,g,e,i,hD,(by exact d),Om,(Ut hfw (λh=>aa (congrArg Int.ofNat h))),trivial⟩ (by show 2^S.may.length-(j+1)<2^S.may.length-j;omega)
 refine cT ?_
 obtain rfl:j=2^S.may.length:=by simp only[abJ,my]at Z;omega
 have hwi:=hfw.v
 have hwl:=gt hfw.pre
 refine Zd (λa b=>Dc 228 285 w0.heap.size k bz ba bm a b) λag ah=> ?_
 obtain⟨hz,hX,hB,g,e,i⟩:=ah.k6 hz hX hB g e i
 replace hD:=fM.ext ah hD
 replace d:=ah.at d
 have hwk0:Wc 285 k bz ag:=⟨_,d⟩
 have hS:Dc 228 285 w0.heap.size k bz ba bm ag ag:=Dc.refl
 refine Tk 0 rfl (λ_ hq=>cD (v:= .pointer (some ⟨k,0,none⟩)) rfl jy (At.cell (acH hD d hq e Dd Dd Dd) rfl)) hS<|Tk 1 rfl (λ_ hq=>cD (v:= .pointer (some ⟨k,0,none⟩)) rfl jy (At.cell (acH hD d hq e Dd Dd Dd) rfl)) hS<|Tc 2 rfl rfl hS<|Tf 3 rfl rfl jT hS<|Tk 4 rfl (λ_ hq=>cD (v:= .pointer (some ⟨bz,0,none⟩)) rfl iS (adR (Dc.wk hq hwk0))) hS<|Ti 5 rfl rfl hS<|Tk 6 rfl (λ_ hq=>cD (v:= .pointer (some ⟨k,0,none⟩)) rfl jy (At.cell (acH hD d hq e Dd Dd Dd) rfl)) hS<|Tk 7 rfl (λ_ hq=>cD (v:= .pointer (some ⟨k,0,none⟩)) rfl jy (At.cell (acH hD d hq e Dd Dd Dd) rfl)) hS<|Tc 8 rfl rfl hS<|Tf 9 rfl rfl jT hS<|Tk 10 rfl (λ_ hq=>cD (v:= .pointer (some ⟨bz,0,none⟩)) rfl iS (adR (Dc.wk hq hwk0))) hS<|Ti 11 rfl rfl hS<|Tk 12 rfl (λ_ _=>jK (m:=_) rfl rfl Om (by simp only[IntKind.bits];omega) (by show o*65536<_;simp only[ig];omega)) hS<|To 13 rfl (ez (u:= .int .i64 _) rfl cV eP rfl Dd Dd λbP bQ a2 O a3=>⟨.inl (Dc.trans hS (Dc.ext O)),?_⟩)
 have a4:=ZO a2 hB
 obtain⟨hz,hX,hB,g,e,i⟩:=O.k6 hz hX hB g e i
 replace hD:=fM.ext O hD
 obtain⟨d,hS⟩:=O.k2 d hS
 have a5:=jf (enc:=dX) (a:=((o*65536:Nat):Int)) a3 rfl rfl a4
 refine To 14 rfl (TG JR (qU w0.heap.size ba bm bz R nsi _ [((o*65536:Nat):Int)] _ (Below.size hB) hz hD a5.sl (show 1≤1000000 by decide)) rfl λbR bS ai=>⟨.inl (Dc.trans hS (ade hD (PE.dx ai) (by decide) (by decide))),?_⟩)
 replace hS:=Dc.trans hS (ade hD (PE.dx ai) Dd Dd)
 obtain⟨a6,a7,P,rfl,z,a8,a9⟩:=ai
 replace hz:=At.dx hD z hz Dd Dd
 replace hX:=Dx.trans hX (z)
 replace hB:=Below.dx hB (am _) (am _) z
 replace g:=At.dx hD z g Dd Dd
 replace e:=At.dx hD z e Dd Dd
 replace i:=At.dx hD z i Dd Dd
 replace d:=At.dx hD z d Dd Dd
 replace hD:=a8
 have hgA:=UH a9 (Xo hol)
 have hvA:=hgA.valid
 have hlA:=gt hgA.pre
 refine Tk 15 rfl (λ_ _=>c7 rfl) hS<|Tk 16 rfl (λ_ _=>da rfl) hS<|To 17 rfl (TG oL (eY w0.heap.size k bz _ _ _ _ (Below.size hB) d l) rfl λbT bU L=>⟨.inl (Dc.trans hS (Dc.did L.1 l L.2.1)),?_⟩)
 replace hS:=Dc.trans hS (Dc.did L.1 l L.2.1)
 obtain⟨A,bb,rfl⟩:=L
 replace hz:=At.grownAt hz d A Dd
 replace hX:=adJ hX F (Dx.grown A (aaZ ..) l)
 replace hB:=Zg hB A l
 replace g:=At.grownAt g d A Dd
 replace e:=At.grownAt e d A Dd
 replace i:=At.grownAt i d A Dd
 replace hD:=fM.grownAt hD d A Dd Dd
 replace d:=bb
 refine To 18 rfl (TG J4 (oZ w0.heap.size ba bm bz R a6 f (ko ei P a7) _ (Below.size hB) hz hD Om (qh hvA)) rfl λbV bW aj=>⟨.inl (Dc.trans hS (ade hD (PO.dx aj) (by decide) (by decide))),?_⟩)
 replace hS:=Dc.trans hS (ade hD (PO.dx aj) Dd Dd)
 obtain⟨bc,bd,ak,rfl,B,bf,al⟩:=aj
 replace hz:=At.dx hD B hz Dd Dd
 replace hX:=Dx.trans hX (B)
 replace hB:=Below.dx hB (am _) (am _) B
 replace g:=At.dx hD B g Dd Dd
 replace e:=At.dx hD B e Dd Dd
 replace i:=At.dx hD B i Dd Dd
 replace d:=At.dx hD B d Dd Dd
 replace hD:=bf
 have hvJ:=al.valid
 have hlJ:=gt al.pre
 refine Tk 19 rfl (λ_ _=>c7 rfl) hS<|Tk 20 rfl (λ_ _=>da rfl) hS<|To 21 rfl (TG oL (eY w0.heap.size k bz _ _ _ _ (Below.size hB) d l) rfl λbX bY M=>⟨.inl (Dc.trans hS (Dc.did M.1 l M.2.1)),?_⟩)
 replace hS:=Dc.trans hS (Dc.did M.1 l M.2.1)
 obtain⟨C,bg,rfl⟩:=M
 replace hz:=At.grownAt hz d C Dd
 replace hX:=adJ hX F (Dx.grown C (aaZ ..) l)
 replace hB:=Zg hB C l
 replace g:=At.grownAt g d C Dd
 replace e:=At.grownAt e d C Dd
 replace i:=At.grownAt i d C Dd
 replace hD:=fM.grownAt hD d C Dd Dd
 replace d:=bg
 refine Ti 22 rfl rfl hS<|Td ?_
 refine eR (λa b=>Dc 228 285 w0.heap.size k bz ba bm a b) fx (λao ap=> ?_)
 obtain⟨hz,hX,hB,g,e,i⟩:=ap.k6 hz hX hB g e i
 replace hD:=fM.ext ap hD
 replace d:=ap.at d
 have hwk0:Wc 285 k bz ao:=⟨_,d⟩
 have hS:Dc 228 285 w0.heap.size k bz ba bm ao ao:=Dc.refl
 refine Tk 0 rfl (λ_ hq=>cD (v:= .pointer (some ⟨k,0,none⟩)) rfl jy (At.cell (acH hD d hq e Dd Dd Dd) rfl)) hS<|Tk 1 rfl (λ_ hq=>cD (v:= .pointer (some ⟨k,0,none⟩)) rfl jy (At.cell (acH hD d hq e Dd Dd Dd) rfl)) hS<|Tc 2 rfl rfl hS<|Tf 3 rfl rfl jT hS<|Tk 4 rfl (λ_ hq=>cD (v:= .pointer (some ⟨bz,0,none⟩)) rfl iS (adR (Dc.wk hq hwk0))) hS<|Ti 5 rfl rfl hS<|Ti 6 rfl rfl hS<|To 7 rfl (TG Dq (kS w0.heap.size ba bm bz R bc out (ko (iX ei P) ak bd) _ (Below.size hB) hz hD Om (qh hvJ)) rfl λbZ b0 aq=>⟨.inl (Dc.trans hS (ade hD (PO.dx aq) (by decide) (by decide))),?_⟩)
 replace hS:=Dc.trans hS (ade hD (PO.dx aq) Dd Dd)
 obtain⟨bh,bi,aD,rfl,D,bj,bk⟩:=aq
 replace hz:=At.dx hD D hz Dd Dd
 replace hX:=Dx.trans hX (D)
 replace hB:=Below.dx hB (am _) (am _) D
 replace g:=At.dx hD D g Dd Dd
 replace e:=At.dx hD D e Dd Dd
 replace i:=At.dx hD D i Dd Dd
 replace d:=At.dx hD D d Dd Dd
 replace hD:=bj
 refine Tk 8 rfl (λ_ _=>c7 rfl) hS<|Tk 9 rfl (λ_ _=>da rfl) hS<|To 10 rfl (TG oL (eY w0.heap.size k bz _ _ _ _ (Below.size hB) d l) rfl λb1 b2 N=>⟨.inl (Dc.trans hS (Dc.did N.1 l N.2.1)),?_⟩)
 replace hS:=Dc.trans hS (Dc.did N.1 l N.2.1)
 obtain⟨E,bl,rfl⟩:=N
 replace hz:=At.grownAt hz d E Dd
 replace hX:=adJ hX F (Dx.grown E (aaZ ..) l)
 replace hB:=Zg hB E l
 replace g:=At.grownAt g d E Dd
 replace e:=At.grownAt e d E Dd
 replace i:=At.grownAt i d E Dd
 replace hD:=fM.grownAt hD d E Dd Dd
 replace d:=bl
 refine Ti 11 rfl rfl hS<|Td<|cI<|Zi rfl<|Zv (d5 rfl rfl Om Om)<|ZZ rfl ?_
 exact aM _ _ ((o+1,ko (iX (iX ei P) ak) aD bi,bh,iX (iX (iX ei P) ak) aD)) Za ⟨rfl,rfl,trivial⟩ ⟨hz,hX,hB,g,e,i,hD,(by exact d),Om,(Q7 hr hD.wf (QQ o) halw hoo.1 hol hom hfw hgA al bk),trivial⟩ (by show 2^S.may.length-(o+1)<2^S.may.length-o;omega)
 refine cT<|Zq ?_
 obtain rfl:o=2^S.may.length:=by simp only[abJ,my]at H;omega
 refine Zr<|ZL (.pointer (some ⟨k,0,none⟩)) rfl jy e rfl<|Zc rfl<|Zf rfl kM<|Zl rfl fe d rfl<|Zv (eV rfl rfl)<|ct<|ZQ rfl (λar=> ?_) λar=> ?_
 refine Zd dA λbn au=> ?_
 obtain⟨hX,e⟩:=au.k2 hX e
 replace hD:=fM.ext au hD
 replace d:=au.at d
 have hS:=dA.refl bn
 refine Tk 0 rfl (λ_ hq=>cD (v:= .pointer (some ⟨k,0,none⟩)) rfl jy (At.cell (hq.at e) rfl)) hS<|Tc 1 rfl rfl hS<|Tf 2 rfl rfl kM hS<|Tk 3 rfl (λ_ hq=>cD (v:= .int .i64 _) rfl fe (At.cell (hq.at d) rfl)) hS<|Ti 4 rfl rfl hS<|Ti 5 rfl rfl hS<|Td<|Zt<|dH (v:= .int .i64 0) rfl (v1:= .int .i64 _) rfl ?_
 exact⟨_,_,_,rfl,hX,hD,Sv halw ar⟩
 refine cx<|Zr<|Zi rfl<|Zi rfl<|ZZ rfl<|Zt<|dH (v:= .int .i64 _) rfl (v1:= .int .i64 0) rfl ?_
 exact⟨_,_,_,rfl,hX,hD,Y3 halw (aaS ar)⟩
end
section
theorem JF:cY Tryz.prog 151=true:=by kernel_rfl
theorem Rx:cY Tryz.prog 152=true:=by kernel_rfl
theorem A2 (xa:Value) (l:List Rw) (i k:Nat) (w:World) (hl:dr gz 3 w xa l) (hlb:l.length≤1000000) (hlr:iH l) (hi:i<l.length) (hk:k<8):
    Fn Tryz.prog 152 #[xa, .int .i64 (i:Int), .int .i64 (k:Int)] w λv w'=>cH gz 3 158 w' w.heap.size v (mW l i k):=by
 refine cK (n:=36) Tryz.func152 rfl rfl rfl λhB=> ?_
 have h7:=Eb hk
 refine Zr<|Zw (.slice none 0 0) rfl<|ct<|Zr<|Zy (DD dM λs W5 t x y=> ?_)
 have z:=ZO t hB
 replace hB:=Ze hB x
 have p:=u7 (enc:=gz) (sz:=3) y z
 refine Zw xa rfl<|Zy (dP (v:= .slice (some ⟨s,0,none⟩) 0 0) (v2:=xa) rfl rfl dM ij Dd p (Below.slT hB hl) (lC) (m3 hB) AJ AJ λe W8 A d=> ?_)
 replace d:=cH.app (enc:=gz) rfl rfl rfl rfl d
 replace hB:=ZG hB A p
 rw[aco]at d
 refine Zw e rfl<|ct<|Zq ?_
 obtain⟨H,I,J⟩:=hlr.get hi
 refine Zd (λa b=>a.grownBy b e.ownBlock) λB C=> ?_
 obtain⟨hB,d⟩:=C.k2 hB d
 have hS:=World.grownBy.refl B e.ownBlock
 refine Tw 0 e rfl rfl hS<|Ti 1 rfl rfl hS<|Ti 5 rfl rfl hS<|Tk 6 rfl (λ_ _=>jK (m:=1) rfl rfl Om (by simp only[IntKind.bits];omega) yW) hS ?_
 refine iZ (dd:=some 13) 2 jW rfl rfl rfl rfl (Yd.val (dp (v:=e) rfl d.sl rfl dM Om (by omega)) ⟨.inl hS,?_⟩)
 refine Tf 3 rfl rfl fG hS ?_
 refine iZ (dd:=some 15) 4 jW rfl rfl rfl rfl (Yd.val (cD (v:= .int .u8 _) rfl dN (dr.cell d.sl eC ⟨⟨0,0⟩,0⟩ Om (by omega) 2 rfl)) ⟨.inl hS,?_⟩)
 refine Tk 7 rfl (λ_ _=>rK (n:=_) rfl rfl rfl pr yW) hS ?_
 refine iZ (dd:=some 19) 8 jW rfl rfl rfl rfl (Yd.val (dp (v:=e) rfl d.sl rfl dM Om (by omega)) ⟨.inl hS,?_⟩)
 refine Tf 9 rfl rfl fG hS<|To 10 rfl (PU (v:=e) (u:= .int .u8 _) (a:=⟨(l.getD i ⟨⟨0,0⟩,0⟩).c,andNot (l.getD i ⟨⟨0,0⟩,0⟩).o (1*2^k)⟩) (dd:=⟨⟨0,0⟩,0⟩) (j:=_) (r:=2) rfl rfl dN eC rfl Dd (rfl) d Om (by omega) λK q D=>⟨.inl (cB hS q),?_⟩)
 replace hB:=ZG hB q d
 replace d:=D
 rw[my]at d
 refine Td ?_
 have hsl:(l.set i ⟨(l.getD i ⟨⟨0,0⟩,0⟩).c,andNot (l.getD i ⟨⟨0,0⟩,0⟩).o (1*2^k)⟩).length=l.length:=List.length_set
 have hC:(l.set i ⟨(l.getD i ⟨⟨0,0⟩,0⟩).c,andNot (l.getD i ⟨⟨0,0⟩,0⟩).o (1*2^k)⟩).length≤jn e:=(Sl.eqv d.sl).2.1
 refine Zr<|Zw e rfl<|Zi rfl<|Zv (dp (v:=e) rfl d.sl rfl dM Om (by omega))<|Zf rfl fG<|Zv (cD (v:= .int .u8 _) rfl dN (dr.cell d.sl eC ⟨⟨0,0⟩,0⟩ Om (by omega) 2 rfl))<|Zv (dO rfl rfl)<|ct<|ZQ rfl (λg=> ?_) λg=> ?_
 refine eR (λa b=>a.grownBy b e.ownBlock) fx (λE F=> ?_)
 obtain⟨hB,d⟩:=F.k2 hB d
 have hS:=World.grownBy.refl E e.ownBlock
 refine Tw 0 e rfl rfl hS<|Ti 1 rfl rfl hS<|Tk 2 rfl (λ_ _=>Hl (v:=e) rfl d.sl dM rfl Om Om) hS<|Tw 3 e rfl rfl hS<|Ti 4 rfl rfl hS<|Tk 5 rfl (λ_ _=>d5 rfl rfl Om Om) hS<|Tk 6 rfl (λ_ _=>H0 (v:=e) rfl d.sl dM rfl Om Om) hS<|To 7 rfl (IV (v:=e) (i:=i) (j:=(i+1)) eC lC rfl rfl dM d Om Om Om λf L h G M=>⟨.inl (cB hS h),?_⟩)
 replace hS:=cB hS h
 replace hB:=ZG hB h d
 refine Tw 8 f rfl rfl hS<|Td<|Zr<|Zw f rfl<|Zw f rfl<|ct<|Zt<|cZ (v:=f) rfl ⟨hB,?_⟩
 exact(XR hi g)▸G
 refine cx<|Zr<|Zw e rfl<|Zw e rfl<|ct<|Zt<|cZ (v:=e) rfl ⟨hB,?_⟩
 exact(Vz hi g)▸d
theorem Gh (S:Sp) (onV mayV:Value) (xa:Value) (l:List Rw) (w:World) (hon:dr eX 4 w onV S.on) (hmay:dr eX 4 w mayV S.may) (hl:dr gz 3 w xa l) (hlb:l.length≤1000000) (hlr:iH l) (h4:S.on.length≤20):
    Fn Tryz.prog 104 #[.agg #[.int .i64 S.n,onV,mayV],xa] w λv w'=>if gH S l=true then ∃x,v= .tuple #[x, .int .i64 0]∧cH gz 3 158 w' w.heap.size x (lp S l)else v= .tuple #[.slice none 0 0, .int .i64 1]:=by
 refine cK (n:=61) Tryz.func104 rfl rfl rfl λhB=> ?_
 refine Zr<|Zy (du (c:= #[_,_,_]) rfl rfl λq W3 M t a=> ?_)
 replace hB:=Ze hB t
 refine Zw (.slice none 0 0) rfl<|ZZ rfl<|Zq<|Zr<|Zv (cz rfl d9 rfl a)<|Zw xa rfl<|ZC (vs:=[.agg #[_,_,_],xa]) JF (tT S _ _ _ l _ (Below.slT hB hon) (Below.slT hB hmay) (Below.slT hB hl) Om hlr h4) rfl λN O u y=> ?_
 obtain⟨hB,a⟩:=u.k2 hB a
 obtain rfl:=y
 refine Zv (eK rfl)<|ct<|ZQ rfl (λm=> ?_) λm=> ?_
 refine Zr<|Zw (.slice none 0 0) rfl<|ZZ rfl<|Zt<|dH (v:= .slice none 0 0) rfl (v1:= .int .i64 1) rfl ⟨hB,?_⟩
 rw[if_neg (by rw[show gH S l=false from kh m];decide)]
 refine cx ?_
 have hc:gH S l=true:=lA m
 have hp:=zU hc
 obtain⟨hr0,hr8,hr1,hr4,hr5,_⟩:=dw.1 (eW.1 hc).1
 refine Zr<|Zy (DD dM λz P A B C=> ?_)
 have D:=ZO A hB
 obtain⟨hB,a⟩:=B.k2 hB a
 have o:=u7 (enc:=gz) (sz:=3) C D
 refine Zw xa rfl<|Zy (dP (v:= .slice (some ⟨z,0,none⟩) 0 0) (v2:=xa) rfl rfl dM ij Dd o (Below.slT hB hl) (lC) (m3 hB) AJ AJ λg Q r b=> ?_)
 replace b:=cH.app (enc:=gz) rfl rfl rfl rfl b
 replace hB:=ZG hB r o
 replace a:=At.grownOw a o r Dd
 rw[aco]at b
 refine Zw g rfl<|ct<|Zq<|Zr<|ZZ rfl<|cy ?_
 refine cW (σ:=(Nat)×(Value)) [6,10,18,59] (λ(j,v0)=>[(7, .int .i64 ((m0 S l j).length:Int)),(6,v0)]) (λsg W=>match sg with|(j,v0)=>(Below w.heap.size w W)∧(At W q _ 59)∧(cH gz 3 158 W w.heap.size g _)∧(cH gz 3 158 W w.heap.size v0 (m0 S l j++l.drop j))∧(j≤l.length)∧(True)) (λ(j,v0)=>l.length-j) ((0,g)) ⟨rfl,rfl,trivial⟩ ⟨hB,a,b,(by exact b),(me _),trivial⟩ ?_
 rintro⟨j,v0⟩ R T ⟨hB,a,b,ho,hj,_⟩ U s
 refine Zq ?_
 have hdl:=QP (S:=S) (l:=l) (j:=j)
 have hal:=Jj S l j
 refine Zr<|Zi rfl<|Zw v0 rfl<|Zv (db (v:=v0) rfl ho.sl dM)<|Zv (dq rfl rfl)<|ct<|ZQ rfl (λE=> ?_) λE=> ?_
 refine cx<|cy ?_
 have hjl:j<l.length:=by omega
 refine Zr<|Zw v0 rfl<|Zv (db (v:=v0) rfl ho.sl dM)<|ZZ rfl<|Zq<|Zr<|Zf rfl fw<|ZL onV rfl eh a rfl<|Zv (db (v:=onV) rfl (Below.slT hB hon) dQ)<|ZZ rfl<|cy ?_
 refine cW (σ:=(Nat)×(Value)) [6,6,9,10,27,53] (λ(k,v1)=>[(27, .int .i64 (k:Int)),(6,v1)]) (λsg W=>match sg with|(k,v1)=>(Below w.heap.size w W)∧(At W q _ 59)∧(cH gz 3 158 W w.heap.size g _)∧(cH gz 3 158 W w.heap.size v1 (xY S l j k))∧(k≤S.on.length)∧(True)) (λ(k,v1)=>S.on.length-k) ((0,v0)) ⟨rfl,rfl,trivial⟩ ⟨hB,a,b,(by rw[←Fc hp hjl];exact ho),(me _),trivial⟩ ?_
 rintro⟨k,v1⟩ V X ⟨hB,a,b,hoo,hk,_⟩ Y i
 refine Zr<|Zv (dq rfl rfl)<|ct<|Zq<|ZQ rfl (λF=> ?_) λF=> ?_
 refine cx<|Zq<|cy<|Zr<|Zi rfl<|ZZ rfl<|Zq ?_
 have htl:=Gt (S:=S) (l:=l) (j:=j) (k:=k)
 obtain⟨hk1,hk2,hk3⟩:=kpL (tR S l j k)
 have htb:=YD (S:=S) hlr hjl k
 have hget:(qS (tR S l j k)).length=1→(xY S l j k).getD (((m0 S l j).length:Nat):Int).toNat ⟨⟨0,0⟩,0⟩=tR S l j k:=λh=>by rw[my];exact SJ (hk2 h)
 refine Zr<|Zw v1 rfl<|Zv (db (v:=v1) rfl hoo.sl dM)<|Zi rfl<|Zv (dq rfl rfl)<|ZX rfl (λG=> ?_) λG=> ?_
 refine Zs<|Zs<|Zs<|Zs<|Zs<|Zs<|Zs<|Zs<|Zs<|Zb rfl<|ct<|cN rfl<|cT ?_
 refine ZT rfl rfl rfl ?_
 exact i _ _ ((k+1,v1)) Za ⟨rfl,rfl,trivial⟩ ⟨hB,a,b,(by (rw[←FI (.inl (Oy (hk3 Om)))];exact hoo)),Om,trivial⟩ (by show S.on.length-(k+1)<S.on.length-k;omega)
 refine Zw v1 rfl<|Zi rfl<|Zv (dp (v:=v1) rfl hoo.sl rfl dM Om (by omega))<|Zf rfl fG<|Zv (cD (v:= .int .u8 _) rfl dN (dr.cell hoo.sl eC ⟨⟨0,0⟩,0⟩ Om (by omega) 2 rfl))<|Zi rfl<|Zv (ra rfl rfl Om (by simp only[IntKind.bits];omega))<|Zv (nh (n:=1) rfl rfl rfl (by exact ab8 (acz _ _) (htb.any _)) Dd)<|Zv (dO rfl rfl)<|Zb rfl<|ct<|ZQ rfl (λf=> ?_) λf=> ?_
 refine cT<|ZT rfl rfl rfl ?_
 exact i _ _ ((k+1,v1)) Za ⟨rfl,rfl,trivial⟩ ⟨hB,a,b,(by (rw[←FI (.inl (SX (by rw[hget Om]at f;exact f)))];exact hoo)),Om,trivial⟩ (by show S.on.length-(k+1)<S.on.length-k;omega)
 refine cx ?_
 have hpos:(qS (tR S l j k)).length=1:=by omega
 rw[hget hpos]at f
 have hbt:(tQ S l j k).testBit k=true:=Ng f
 have hwl:=Lh (xY S l j k) (m0 S l j).length k
 refine Zr<|Zw v1 rfl<|Zi rfl<|Zi rfl<|ZC Rx (A2 _ (xY S l j k) (m0 S l j).length k _ hoo.sl Om htb Om Om) rfl λd Z H e=> ?_
 have aa:=adi b
 have ab:=adi hoo
 have I:=(Below.size hB)
 obtain⟨hB,a,b,hoo⟩:=H.k4 hB a b hoo
 replace e:=cH.mono e I
 refine Zw d rfl<|ct<|Zr<|Zv (cz rfl d9 rfl a)<|Zw d rfl<|ZC (vs:=[.agg #[_,_,_],d]) JF (tT S _ _ _ (mW (xY S l j k) (m0 S l j).length k) _ (Below.slT hB hon) (Below.slT hB hmay) e.sl Om (Uy htb Om k) h4) rfl λac ad J K=> ?_
 obtain⟨hB,a,b,hoo,e⟩:=J.k5 hB a b hoo e
 obtain rfl:=K
 refine ct<|ZQ rfl (λp=> ?_) λp=> ?_
 refine cI<|Zw d rfl<|Zw d rfl<|ct<|ZT rfl rfl rfl ?_
 exact i _ _ ((k+1,d)) Za ⟨rfl,rfl,trivial⟩ ⟨hB,a,b,(by (rw[←UQ hbt p];exact e)),Om,trivial⟩ (by show S.on.length-(k+1)<S.on.length-k;omega)
 refine cx<|ZT rfl rfl rfl ?_
 exact i _ _ ((k+1,v1)) Za ⟨rfl,rfl,trivial⟩ ⟨hB,a,b,(by (rw[←FI (.inr p)];exact hoo)),Om,trivial⟩ (by show S.on.length-(k+1)<S.on.length-k;omega)
 refine cT ?_
 obtain rfl:k=S.on.length:=by omega
 have htl:=Gt (S:=S) (l:=l) (j:=j) (k:=S.on.length)
 obtain⟨hk1,hk2,hk3⟩:=kpL (tR S l j S.on.length)
 have hA1:(m0 S l (j+1)).length=(m0 S l j).length+(qS (tR S l j S.on.length)).length:=by rw[kA,An]
 refine Zr<|Zw v1 rfl<|Zv (db (v:=v1) rfl hoo.sl dM)<|Zi rfl<|Zv (dO rfl rfl)<|ct<|ZQ rfl (λL=> ?_) λL=> ?_
 refine cI<|Zi rfl<|Zv (d5 rfl rfl Om Om)<|ZZ rfl ?_
 exact s _ _ ((j+1,v1)) Za ⟨(by exact congrArg (Value.int .i64) Om),rfl,trivial⟩ ⟨hB,a,b,(by (rw[←EA];exact hoo)),Om,trivial⟩ (by show l.length-(j+1)<l.length-j;omega)
 refine cx ?_
 exact s _ _ ((j+1,v1)) Za ⟨(by exact congrArg (Value.int .i64) Om),rfl,trivial⟩ ⟨hB,a,b,(by (rw[←EA];exact hoo)),Om,trivial⟩ (by show l.length-(j+1)<l.length-j;omega)
 refine cT<|Zr<|Zw v0 rfl<|Zw v0 rfl<|ZZ rfl<|Zt<|dH (v:=v0) rfl (v1:= .int .i64 0) rfl ⟨hB,?_⟩
 obtain rfl:j=l.length:=by omega
 rw[if_pos hc]
 rw[List.drop_length,acw]at ho
 exact⟨_,rfl,ho⟩
end
end Go.Proofs.YtedeonkjellcpaaGreatDoor
