/- Words and walks of the row. No condition. -/
import Derived.Test.YtedeonkjellcpaaGreatDoorZ11
namespace Go.Proofs.YtedeonkjellcpaaGreatDoor
open Go Go.RowKit
set_option autoImplicit true
set_option relaxedAutoImplicit true
set_option linter.unusedVariables false
set_option linter.unusedSimpArgs false
section
def tC:Nat→Nat
 |0=>0
 |k+1=>3*tC k+2*(2*k*3^k)+7
section
variable {ns ns' ns1 ns2 ns3 ns4:List Nd} {R f g i l:Nat}
theorem OU (h:Wf ns) (hg:g<ns.length+2) (hl:l≤d6 ns g) (h24:l<24) (ha:∀x,M ns g x→x.testBit l=true):dK ns g l=0:=by
 have H:=iE h hg hl h24
 refine Decidable.byContradiction λk=> ?_
 obtain⟨y,hy⟩:=jc h _ H.va k
 have h1:=ha y ((H.mem y).2 (.inl hy))
 rw[gp (iq H.la (fl h _ H.va y hy).1)]at h1
 cases h1
theorem wA (h:(en f g).2=true):cP en n ns f g=0:=by
 cases n with
 |zero=>rfl
 |succ n=>rw[cP,if_pos h]
theorem VE (g:Nat):(pW.ends 0 g).2=true:=by show (Tz 0 g).2=true;unfold Tz;rw[if_pos (.inl rfl)]
theorem Dm (f:Nat):(pW.ends f 0).2=true:=by
 show (Tz f 0).2=true
 grind [Tz]
theorem HK (h:Wf ns) (hf:f<ns.length+2) (hg:g<ns.length+2) (hl:l<d6 ns f) (hlg:l≤d6 ns g) (h24:l<24) (ha:∀x,M ns g x→x.testBit l=true):pW.cst ns f g≤1:=by
 show cE pW.ends ns f g≤1
 by_cases he:(pW.ends f g).2=true
 ·unfold cE;rw[wA he];omega
 ·have g0:¬g=0:=λe=>by subst e;exact he (Dm f)
  have hlv:d6 ns g=l:=by
   obtain⟨x,hx⟩:=jc h g hg g0
   have h1:=ha x hx
   rcases acy l (d6 ns g)with k|k
   ·rw[gp (iq k (fl h g hg x hx).1)]at h1;cases h1
   ·omega
  have hmin:min (d6 ns f) (d6 ns g)=l:=by omega
  have hA:=OU h hg hlg h24 ha
  have hfB:ef ns f l=0:=if_neg λk=>by omega
  unfold cE
  rw[hmin,show 25-l=(24-l)+1 by omega,cP,if_neg he,hmin,hA,hfB,wA (Dm _),wA (VE _)]
  omega
theorem Vx (h:Wf ns) (hf:f<ns.length+2) (hg:g<ns.length+2) (hlf:l≤d6 ns f) (hlg:l+1≤d6 ns g) (h24:l+1<24) (hc:∀x,M ns f x→x.testBit l=false→2^(l+2)∣x) (ha:∀x,M ns g x→x.testBit (l+1)=true):pW.cst ns f g≤2:=by
 rcases acy l (d6 ns f)with k|k
 ·have:l+2≤d6 ns f:=rH h hf (by omega) λx hx=>hc x hx (gp (iq k (fl h f hf x hx).1))
  have:=HK (l:=l+1) h hf hg (by omega) hlg h24 ha
  omega
 ·have hlv:d6 ns f=l:=by omega
  show cE pW.ends ns f g≤2
  by_cases he:(pW.ends f g).2=true
  ·unfold cE;rw[wA he];omega
  ·have H:=iE h hf hlf (by omega)
   have hmin:min (d6 ns f) (d6 ns g)=l:=by omega
   have hgA:dK ns g l=g:=if_neg λq=>by omega
   have hgB:ef ns g l=0:=if_neg λq=>by omega
   have hla:=H.la
   have hA:l+2≤d6 ns (dK ns f l):=rH h H.va (by omega) λx hx=>hc x ((H.mem x).2 (.inl hx)) (gp (iq H.la (fl h _ H.va x hx).1))
   have k2:=HK (l:=l+1) h H.va hg (by omega) hlg h24 ha
   have k3:cE pW.ends ns (dK ns f l) g≤1:=k2
   have k4:=DH (en:=pW.ends) (ns:=ns) (show 24-l≤24-l from am _) (dK ns f l) g
   have k5:cP pW.ends (24-l) ns (dK ns f l) g≤1:=by
    by_cases he2:(pW.ends (dK ns f l) g).2=true
    ·rw[wA he2];omega
    ·have g0:¬g=0:=λe=>by subst e;exact he (Dm f)
     have hlvg:d6 ns g=l+1:=by
      obtain⟨x,hx⟩:=jc h g hg g0
      have h1:=ha x hx
      rcases acy (l+1) (d6 ns g)with k|k
      ·rw[gp (iq k (fl h g hg x hx).1)]at h1;cases h1
      ·omega
     have hmin2:min (d6 ns (dK ns f l)) (d6 ns g)=l+1:=by omega
     have e:cE pW.ends ns (dK ns f l) g=cP pW.ends (24-l) ns (dK ns f l) g:=by
      unfold cE
      rw[hmin2,show 25-(l+1)=24-l by omega]
     rw[←e];exact k3
   unfold cE
   rw[hmin,show 25-l=(24-l)+1 by omega,cP,if_neg he,hmin,hgA,hgB,wA (Dm _)]
   omega
end
structure PS (ns ns':List Nd) (R:Nat) (e e':Int) (n i s id:Nat):Prop where
 v:id<ns'.length+2
 pre:ns<+:ns'
 sta:e=0→yP ns ns' R (tC (n-i)) e'
 err:¬e=0→e'=e
 m:e'=0→M ns' id=wo n s
 crd:e'=0→(dz ns' id).length≤3^(n-i)
theorem XP {ns:List Nd} {R n i s:Nat} {e:Int} (he:¬e=0):PS ns ns R e e n i s 0:=⟨by omega,acO _,λh=>absurd h he,λ_=>rfl,λh=>absurd h he,λh=>absurd h he⟩
theorem abk {ns:List Nd} {R n i s:Nat} {e:Int} (he:e=0) (h8:n≤8) (h:Bc s 0=true):PS ns ns R e e n i s 0:=by
 refine⟨by omega,acO _,λ_=>⟨acO _, .inl ⟨he,by omega⟩⟩,λ_=>rfl,λ_=>fK λx=> ?_,λ_=> ?_⟩
 ·exact⟨λk=>absurd k (Na ns x),λk=>absurd k (YI h8 h x)⟩
 ·rw[oe];exact me _
theorem abq {ns:List Nd} {R n i s:Nat} {e:Int} (he:e=0) (h8:n≤8) (h:Bc s (fk n)=true):PS ns ns R e e n i s 1:=by
 refine⟨by omega,acO _,λ_=>⟨acO _, .inl ⟨he,by omega⟩⟩,λ_=>rfl,λ_=>fK λx=> ?_,λ_=> ?_⟩
 all_goals grind [SW,dz,qK,List.mem_singleton,Nat.pow_pos]
def QY (s i:Nat) (k:Nat):Nat:=cS s i (decide (k=1))
def Dt (s i:Nat):Nat:=cS s i false &&& cS s i true
def Ow (n s i k:Nat) (y:Nat):Prop:=wo n (QY s i k) y∧¬wo n (Dt s i) y
def Bo (n s i k:Nat) (x:Nat):Prop:=wo n (Dt s i) x∨(1≤k∧∃y,Ow n s i 0 y∧x=y+2^(2*i))∨(2≤k∧∃y,Ow n s i 1 y∧x=y+2^(2*i+1))
theorem P9:Bo n s i 0=wo n (Dt s i):=fK λx=>⟨λh=>h.elim id λk=>k.elim (λq=>absurd q.1 (by decide)) λq=>absurd q.1 (by decide), .inl⟩
theorem WZ (h8:n≤8) (h:xG n s i) (hi:i<n):Bo n s i 2=wo n s:=fK λx=>by
 rw[Mi h8 h hi]
 unfold Bo Ow QY Dt
 constructor
 ·rintro(h|⟨_,h⟩|⟨_,h⟩)
  ·exact .inl h
  ·exact .inr (.inl h)
  ·exact .inr (.inr h)
 ·rintro(h|h|h)
  ·exact .inl h
  ·exact .inr (.inl ⟨by decide,h⟩)
  ·exact .inr (.inr ⟨by decide,h⟩)
theorem MQ (hk:k<2):Bo n s i (k+1) x↔Bo n s i k x∨∃y,Ow n s i k y∧x=y+2^(2*i+k):=by
 have:k=0∨k=1:=by omega
 grind [Bo]
theorem II (h8:n≤8) (h:xG n s i) (hi:i<n) (k:Nat):xG n (QY s i k) (i+1):=h.side h8 hi _
theorem Jd (h8:n≤8) (h:xG n s i) (hi:i<n):xG n (Dt s i) (i+1):=(h.side h8 hi false).and (h.side h8 hi true)
structure LpW (ns nsc:List Nd) (R:Nat) (n i s k:Nat) (ec:Int) (com out:Nat):Prop where
 vc:com<nsc.length+2
 vo:out<nsc.length+2
 pre:ns<+:nsc
 sta:yP ns nsc R (tC (n-(i+1))+k*(tC (n-(i+1))+2*(n-(i+1))*3^(n-(i+1))+2)+(if k=0 then 0 else if k=1 then 1 else 3)) ec
 mc:ec=0→M nsc com=wo n (Dt s i)
 cc:ec=0→(dz nsc com).length≤3^(n-(i+1))
 mo:ec=0→M nsc out=Bo n s i k
 co:ec=0→(dz nsc out).length≤(k+1)*3^(n-(i+1))
section
variable {ns nsc ns1 ns2 ns3 ns4:List Nd} {R n i s k com out idh idl idw ido lL lO:Nat} {ec e1 e3 erL erO:Int}
theorem Po (p:PS ns ns1 R 0 e1 n (i+1) (Dt s i) com):LpW ns ns1 R n i s 0 e1 com com:=
 ⟨p.v,p.v,p.pre,(p.sta rfl).mono fF,p.m,p.crd,λz=>by rw[P9];exact p.m z,λz=>by have:=p.crd z;omega⟩
theorem Rs (h8:n≤8) (hs:xG n s i) (hi:i<n) (hk:k<2) (h:LpW ns nsc R n i s k ec com out) (hw1:Wf ns1) (hw2:Wf ns2) (hw3:Wf ns3) (hw4:Wf ns4)
  (p:PS nsc ns1 R ec e1 n (i+1) (QY s i k) idh) (gL:kc ns1 ns2 R (xy.cst ns1 idh com) lL (xy.res (M ns1 idh) (M ns1 com)) idl erL) (q:Vw ns2 ns3 R (iX e1 erL) e3 (ko e1 erL idl) (2*i+k) idw)
  (gO:kc ns3 ns4 R (pW.cst ns3 out idw) lO (pW.res (M ns3 out) (M ns3 idw)) ido erO):LpW ns ns4 R n i s (k+1) (iX e3 erO) com (ko e3 erO ido):=by
 have p01:=gt p.pre
 have p12:=gt gL.pre
 have p23:=gt q.pre
 have p34:=gt gO.pre
 have hvc:=h.vc
 have hvo:=h.vo
 have hvh:=p.v
 have hvl:ko e1 erL idl<ns2.length+2:=qh gL.valid
 have hfc:=Jd h8 hs hi
 have hfs:=II h8 hs hi k
 have i24:2*i+2≤24:=by omega
 have M1h:e1=0→M ns1 idh=wo n (QY s i k):=p.m
 have M1c:e1=0→M ns1 com=wo n (Dt s i):=λz=>by rw[jj p.pre h.vc];exact h.mc (kN p.err z)
 have M2l:iX e1 erL=0→M ns2 (ko e1 erL idl)=Ow n s i k:=λz=>by
  obtain⟨z1,z2⟩:=iB.1 z
  rw[ms z,show M ns2 idl=xy.res (M ns1 idh) (M ns1 com) from fK (gL.ok z2).2.2,M1h z1,M1c z1]
  rfl
 have dv:∀y,Ow n s i k y→2^(2*i+2)∣y:=λy hy=>by
  have:=v6 h8 hfs hy.1
  rwa [show 2*(i+1)=2*i+2 by omega]at this
 have dvk:∀y,Ow n s i k y→2^(2*i+k+1)∣y:=λy hy=>Nat.dvd_trans (adk 2 (by omega)) (dv y hy)
 have levO:T6 (2*i+k) (Ow n s i k):=λy hy=>dvk y hy
 have M3w:e3=0→∀x,M ns3 idw x↔∃y,Ow n s i k y∧x=y+2^(2*i+k):=λz x=>by
  have z2:=kN q.err z
  have hq:=q.m z x
  rw[M2l z2]at hq
  exact hq.trans (N8 levO x)
 have M3o:e3=0→M ns3 out=Bo n s i k:=λz=>by
  have z1:=(iB.1 (kN q.err z)).1
  rw[jj ((p.pre.trans gL.pre).trans q.pre) h.vo]
  exact h.mo (kN p.err z1)
 have tpP:∀{x s'},wo n s' x→x<2^(2*n):=λhx=>Ef h8 hx
 have cL:e1=0→xy.cst ns1 idh com≤2*(n-(i+1))*3^(n-(i+1)):=λz=>by
  have t1:tp ns1 idh≤2*n:=mO.2 λx hx=>tpP (by have hx':M ns1 idh x:=hx;rw[M1h z]at hx';exact hx')
  have t2:tp ns1 com≤2*n:=mO.2 λx hx=>tpP (by have hx':M ns1 com x:=hx;rw[M1c z]at hx';exact hx')
  have l1:2*i+2≤d6 ns1 idh:=rH hw1 hvh i24 λx hx=>by
   have hx':M ns1 idh x:=hx
   rw[M1h z]at hx'
   have:=v6 h8 hfs hx'
   rwa [show 2*(i+1)=2*i+2 by omega]at this
  have l2:2*i+2≤d6 ns1 com:=rH hw1 (by omega) i24 λx hx=>by
   have hx':M ns1 com x:=hx
   rw[M1c z]at hx'
   have:=v6 h8 hfc hx'
   rwa [show 2*(i+1)=2*i+2 by omega]at this
  refine go (RI hw1 HW.endF hvh (by omega) t1 t2) (adf (by omega) ?_)
  have:=p.crd z
  omega
 have lw:e3=0→2*i+k≤d6 ns3 idw:=λz=>rH hw3 q.v (by omega) λx hx=>by
  obtain⟨y,hy,e⟩:=(M3w z x).1 hx
  rw[e]
  exact Ie (dvk y hy)
 have bw:e3=0→∀x,M ns3 idw x→x.testBit (2*i+k)=true:=λz x hx=>by
  obtain⟨y,hy,e⟩:=(M3w z x).1 hx
  rw[e]
  exact kF (dvk y hy)
 have oc:∀x,Bo n s i 0 x→2^(2*i+2)∣x:=λx hx=>by
  rw[P9]at hx
  have:=v6 h8 hfc hx
  rwa [show 2*(i+1)=2*i+2 by omega]at this
 have cO:e3=0→pW.cst ns3 out idw≤k+1:=λz=>by
  have:k=0∨k=1:=by omega
  rcases this with rfl|rfl
  ·refine HK (l:=2*i) hw3 (by omega) q.v ?_ (lw z) (by omega) (bw z)
   have:2*i+2≤d6 ns3 out:=rH hw3 (by omega) i24 λx hx=>oc x (by have hx':M ns3 out x:=hx;rw[M3o z]at hx';exact hx')
   omega
  ·have hou:∀x,M ns3 out x→Bo n s i 0 x∨∃y,Ow n s i 0 y∧x=y+2^(2*i+0):=λx hx=>by
    rw[M3o z]at hx
    exact(MQ (by decide)).1 hx
   have dv0:∀y,Ow n s i 0 y→2^(2*i+2)∣y:=λy hy=>by
    have:=v6 h8 (II h8 hs hi 0) hy.1
    rwa [show 2*(i+1)=2*i+2 by omega]at this
   refine Vx (l:=2*i) hw3 (by omega) q.v (rH hw3 (by omega) (by omega) λx hx=> ?_) (lw z) (by omega) (λx hx hb=> ?_) (bw z)
   ·rcases hou x hx with k|⟨y,hy,e⟩
    ·exact Nat.dvd_trans (adk 2 (by omega)) (oc x k)
    ·rw[e,ac7]
     exact Ie (Nat.dvd_trans (adk 2 (by omega)) (dv0 y hy))
   ·rcases hou x hx with k|⟨y,hy,e⟩
    ·exact oc x k
    ·rw[e,ac7,kF (Nat.dvd_trans (adk 2 (by omega)) (dv0 y hy))]at hb
     cases hb
 have s1:=h.sta.step p.sta (λz=>⟨p.pre,p.err z⟩)
 have s2:=s1.did gL cL
 have s3:=s2.step (c2:=2) (λz=>q.sta z (by
  have:2*i+k+1≤d6 ns2 (ko e1 erL idl):=rH hw2 hvl (by omega) λx hx=>by
   have hx':M ns2 (ko e1 erL idl) x:=hx
   rw[M2l z]at hx'
   exact dvk x hx'
  omega)) (λz=>⟨q.pre,q.err z⟩)
 have s4:=s3.did gO cO
 have pall:=((p.pre.trans gL.pre).trans q.pre).trans gO.pre
 refine⟨by omega,qh gO.valid,h.pre.trans pall,s4.mono ?_,λz=> ?_,λz=> ?_,λz=>fK λx=> ?_,λz=> ?_⟩
 ·have:k=0∨k=1:=by omega
  rcases this with rfl|rfl
  ·simp;omega
  ·simp;omega
 ·have z1:=(iB.1 (kN q.err (iB.1 z).1)).1
  rw[jj pall hvc]
  exact h.mc (kN p.err z1)
 ·have z1:=(iB.1 (kN q.err (iB.1 z).1)).1
  rw[jA pall hvc]
  exact h.cc (kN p.err z1)
 ·obtain⟨z3,zO⟩:=iB.1 z
  rw[ms z,MQ hk]
  refine((gO.ok zO).2.2 x).trans ?_
  show (M ns3 out x∨M ns3 idw x)↔_
  rw[M3o z3,M3w z3]
 ·obtain⟨z3,zO⟩:=iB.1 z
  have z2:=kN q.err z3
  have z1:=(iB.1 z2).1
  rw[ms z]
  have h1:=Oc hw4 (gO.ok zO).1 (a:=out) (b:=idw) (ns:=ns3) λx hx=>((gO.ok zO).2.2 x).1 hx
  have h2:(dz ns3 idw).length≤(dz ns1 idh).length:=by
   have:=jB (l2:=(dz ns1 idh).map λy=>y+2^(2*i+k)) (kU hw3 idw q.v) λx hx=>by
    obtain⟨y,hy,e⟩:=(M3w z3 x).1 hx
    exact abS.2 ⟨y,(show M ns1 idh y by rw[M1h z1];exact hy.1),e.symm⟩
   rw[acj]at this
   exact this
  have h3:=p.crd z1
  have h4:(dz ns3 out).length=(dz nsc out).length:=by rw[jA ((p.pre.trans gL.pre).trans q.pre) hvo]
  have h5:=h.co (kN p.err z1)
  grind
theorem Xg (h8:n≤8) (hs:xG n s i) (hi:i<n) (h:LpW ns nsc R n i s 2 ec com out):PS ns nsc R 0 ec n i s out:=by
 obtain⟨m,hm⟩:∃m,n-i=m+1:=⟨n-(i+1),by omega⟩
 have hm2:n-(i+1)=m:=by omega
 refine⟨h.vo,h.pre,λ_=>h.sta.mono ?_,λz=>absurd rfl z,λz=>by rw[←WZ h8 hs hi];exact h.mo z,λz=> ?_⟩
 ·rw[hm,hm2,tC]
  simp
  omega
 ·have:=h.co z
  grind
end
end
section
def Wc (T:TypeId) (bc bz:Nat) (w:World):Prop:=∃e,At w bc #[.pointer (some ⟨bz,0,none⟩), .int .i64 e] T
structure Dc (Tn T:TypeId) (N bc bz ba bm:Nat) (w w':World):Prop where
 dx:Dx Tn N [bc,ba,bm] w w'
 wk:Wc T bc bz w→Wc T bc bz w'
section
variable {Ta Tn T T':TypeId} {N bc bz ba bm R b:Nat} {w w' w'':World} {ns ns':List Nd} {e e':Int} {c cw:Array Value}
theorem adR (h:Wc T bc bz w):w.cell? ⟨bc,0,none⟩=some (.pointer (some ⟨bz,0,none⟩)):=by
 obtain⟨e,h⟩:=h
 exact At.cell h rfl
theorem Dc.refl:Dc Tn T N bc bz ba bm w w:=⟨Dx.refl,id⟩
theorem Dc.trans (h:Dc Tn T N bc bz ba bm w w') (k:Dc Tn T N bc bz ba bm w' w''):Dc Tn T N bc bz ba bm w w'':=⟨h.dx.trans k.dx,λq=>k.wk (h.wk q)⟩
theorem Dc.ext (h:dA w w'):Dc Tn T N bc bz ba bm w w':=⟨Dx.ext h,λ⟨e,q⟩=>⟨e,h.at q⟩⟩
instance {Tn T:TypeId} {N bc bz ba bm:Nat} {w0 w w':World}:Kp w w' (Dc Tn T N bc bz ba bm w0 w) (Dc Tn T N bc bz ba bm w0 w'):=⟨λh k=>Dc.trans k (Dc.ext h)⟩
theorem ade (D:fM Ta Tn N ba bm R w ns) (h:Dx Tn N [ba,bm] w w') (hTa:T≠Ta) (hTn:T≠Tn):Dc Tn T N bc bz ba bm w w':=⟨h.mono (λx hx=>abe _ hx),λ⟨e,q⟩=>⟨e,At.dx D h q hTa hTn⟩⟩
theorem Dc.did (h:w.grownBy w' (some bc)) (hN:N≤bc) (q:At w' bc #[.pointer (some ⟨bz,0,none⟩), .int .i64 e'] T):Dc Tn T N bc bz ba bm w w':=⟨Dx.grown h (aaZ ..) hN,λ_=>⟨e',q⟩⟩
theorem acH (D:fM Ta Tn N ba bm R w ns) (hw:At w bc cw T) (h:Dc Tn T N bc bz ba bm w w') (q:At w b c T') (h1:T'≠Ta) (h2:T'≠Tn) (h3:T'≠T):At w' b c T':=by
 obtain⟨n1,n2⟩:=D.ne q h1
 have n3:b≠bc:=λe=>by subst e;exact adT q hw h3 rfl
 unfold At at*
 rw[h.dx.block b (gX q) (.inr ⟨by simp[n1,n2,n3],λc' fr e=>by rw[q]at e;simp at e;exact h2 e.2.1⟩)]
 exact q
theorem Dc.new (h:Dc Tn T N bc bz ba bm w w') (hb:w.heap.size≤b) (hN:N≤b) (hG:w'.grownBy w'' (some b)) (q:At w' b c T') (hT:T'≠T):Dc Tn T N bc bz ba bm w w'':=by
 refine⟨h.dx.new hb (Dx.grown hG (aaZ ..) hN),λk=> ?_⟩
 obtain⟨e,k2⟩:=h.wk k
 exact⟨e,At.grownAt k2 q hG hT.symm⟩
theorem adJ {xs:List Nat} (h:Dx Tn N xs w w') (h1:w.heap.size≤b1) (k:Dx Tn N (b1::xs) w' w''):Dx Tn N xs w w'':=h.new h1 k
end
end
section
def dgt (m k:Nat):Nat:=m/2^(2*k)%4
end
section
theorem Wa {s n:Nat} (h:yv s (n:Int)=true):n≤8∧xG n s 0:=by
 unfold yv at h
 obtain⟨h1,h2⟩:=ac2.1 h
 obtain⟨h3,h4⟩:=ac2.1 h2
 have h8:n≤8:=by have:=of_decide_eq_true h3;omega
 rw[my]at h4
 refine⟨h8,OQ λp hp hb=> ?_⟩
 have:=dJ.1 h4 p hp hb
 rw[fo]at this
 grind
theorem Ui {n:Nat} (h:n≤8) {v:Value} (hv:v=if 0≤(n:Int)∧(n:Int)≤8 then .tuple #[el (fk (n:Int).toNat), .int .i64 0]else .tuple #[el 0, .int .i64 1]):v= .tuple #[el (fk n), .int .i64 0]:=by
 grind
def dl (m q:Nat):Int:=if dgt m q=1 then 0 else if dgt m q=2 then 1 else 2
end
section
abbrev nN (S:Sp):Nat:=S.n.toNat
def FS (S:Sp) (o j y:Nat):Prop:=wo (nN S) (ia S o) y∧∀p,o<p→p<j→p &&& o=o→¬wo (nN S) (ia S p) y
def R9 (S:Sp) (j x:Nat):Prop:=∃o,1≤o∧o<j∧∃y,FS S o (2^S.may.length) y∧x=y+o*65536
section
variable {S:Sp} {o p j x y:Nat}
theorem abH:FS S o (o+1)=wo (nN S) (ia S o):=fK λy=>⟨λh=>h.1,λh=>⟨h,λp h1 h2=>by omega⟩⟩
theorem abY (h:j &&& o=o) (hj:o<j):FS S o (j+1)=λy=>FS S o j y∧¬wo (nN S) (ia S j) y:=fK λy=>by
 unfold FS
 constructor
 ·rintro⟨h1,h2⟩
  exact⟨⟨h1,λp a b=>h2 p a (by omega)⟩,h2 j hj (by omega) h⟩
 ·rintro⟨⟨h1,h2⟩,h3⟩
  refine⟨h1,λp a b c=> ?_⟩
  by_cases e:p=j
  ·subst e;exact h3
  ·exact h2 p a (by omega) c
theorem abr (h:¬j &&& o=o):FS S o (j+1)=FS S o j:=fK λy=>by
 unfold FS
 constructor
 ·rintro⟨h1,h2⟩
  exact⟨h1,λp a b=>h2 p a (by omega)⟩
 ·rintro⟨h1,h2⟩
  refine⟨h1,λp a b c=> ?_⟩
  by_cases e:p=j
  ·subst e;exact absurd c h
  ·exact h2 p a (by omega) c
theorem ZU:R9 S 1=λ_=>False:=fK λx=>⟨λ⟨o,h1,h2,_⟩=>by omega,λh=>h.elim⟩
theorem VA (h:1≤o):R9 S (o+1) x↔R9 S o x∨∃y,FS S o (2^S.may.length) y∧x=y+o*65536:=by
 constructor
 ·rintro⟨q,h1,h2,h3⟩
  by_cases e:q=o
  ·subst e;exact .inr h3
  ·exact .inl ⟨q,h1,by omega,h3⟩
 ·rintro(⟨q,h1,h2,h3⟩|h3)
  ·exact⟨q,h1,by omega,h3⟩
  ·exact⟨o,h,by omega,h3⟩
theorem sB (hr:dt S=true):nN S≤8∧S.n=(nN S:Int)∧S.may.length≤4:=by
 obtain⟨h0,h8,_,h4,h5,_⟩:=dw.1 hr
 grind
theorem MR (hr:dt S=true) (o:Nat):xG (nN S) (ia S o) 0:=by
 grind [sB,NU,Wa]
theorem Kf (hr:dt S=true) (h:FS S o j y):y<65536:=by
 obtain⟨h8,_,_⟩:=sB hr
 have h1:=Ef h8 h.1
 have h2:2^(2*nN S)≤2^16:=aaV (by decide) (by omega)
 omega
end
theorem Wf.prefix (h:Wf ns') (hp:ns<+:ns'):Wf ns:=by
 have hl:=gt hp
 refine⟨List.Nodup.sublist hp.sublist h.nd,λi hi=> ?_⟩
 have k:=h.ok i (by omega)
 rw[vF hp hi]at k
 obtain⟨k1,k2,k3,k4,k5,k6⟩:=k
 exact⟨k1,k2,k3,by rwa [iF hp (by omega)]at k4,by rwa [iF hp (by omega)]at k5,k6⟩
theorem QQ (o:Nat):yA 0 [((o*65536:Nat):Int)]≤24:=by grind [OP]
def bF (S:Sp):Nat:=tC (nN S)+2*nN S*3^nN S
def bO (S:Sp):Nat:=2^S.may.length*bF S+24+ur (16+S.may.length)*3^nN S+(16+S.may.length)*3^nN S
structure Xn (ns nsc:List Nd) (R:Nat) (S:Sp) (j:Nat) (ec:Int) (out:Nat):Prop where
 v:out<nsc.length+2
 pre:ns<+:nsc
 st:∃c,c≤(j-1)*bO S∧yP ns nsc R c ec
 m:ec=0→M nsc out=R9 S j
structure WF (nsc nsi:List Nd) (R:Nat) (S:Sp) (o j:Nat) (ec ei:Int) (f:Nat):Prop where
 v:f<nsi.length+2
 pre:nsc<+:nsi
 st:ec=0→∃c,c≤(j-o)*bF S∧yP nsc nsi R c ei
 err:¬ec=0→ei=ec
 m:ei=0→M nsi f=FS S o j
 crd:ei=0→(dz nsi f).length≤3^nN S
section
variable {ns nsc nsi ns1 ns2 ns3 ns4:List Nd} {R o j out f id idl idg idj ido lL lG lJ lO cG:Nat} {S:Sp} {ec ei e1 erL erG erJ erO:Int}
theorem Qz:Xn ns ns R S 1 0 0:=⟨by omega,acO _,⟨0,me _,yP.refl⟩,λ_=>by rw[ZU];exact fK λx=>⟨λh=>Na ns x h,λh=>h.elim⟩⟩
theorem Ns (p:PS nsc ns1 R ec e1 (nN S) 0 (ia S o) id):WF nsc ns1 R S o (o+1) ec e1 id:=
 ⟨p.v,p.pre,λz=>⟨_,by rw[Nat.sub_zero,show o+1-o=1 by omega,abJ];exact Nat.le_add_right _ _,p.sta z⟩,p.err,λz=>by rw[abH];exact p.m z,λz=>p.crd z⟩
theorem SO (hr:dt S=true) (hw:Wf ns2) (h:WF nsc nsi R S o j ec ei f) (hj:o<j) (hb:j &&& o=o) (p:PS nsi ns1 R ei e1 (nN S) 0 (ia S j) id) (gL:kc ns1 ns2 R (xy.cst ns1 f id) lL (xy.res (M ns1 f) (M ns1 id)) idl erL):WF nsc ns2 R S o (j+1) ec (iX e1 erL) (ko e1 erL idl):=by
 obtain⟨h8,_,_⟩:=sB hr
 have hw1:=hw.prefix gL.pre
 have hpl:=gt p.pre
 have hv:=h.v
 have cL:e1=0→xy.cst ns1 f id≤2*nN S*3^nN S:=λz1=>by
  have z0:=kN p.err z1
  have t1:tp ns1 f≤2*nN S:=mO.2 λx hx=>by
   have hx':M ns1 f x:=hx
   rw[jj p.pre h.v,h.m z0]at hx'
   exact Ef h8 hx'.1
  have t2:tp ns1 id≤2*nN S:=mO.2 λx hx=>by
   have hx':M ns1 id x:=hx
   rw[p.m z1]at hx'
   exact Ef h8 hx'
  refine go (RI hw1 HW.endF (by omega) p.v t1 t2) (adf (Nat.sub_le _ _) ?_)
  have:=p.crd z1
  rw[Nat.sub_zero]at this
  exact go (adv _ _) this
 refine⟨qh gL.valid,(h.pre.trans p.pre).trans gL.pre,λz=> ?_,λz=> ?_,λz=> ?_,λz=> ?_⟩
 ·obtain⟨c,hc,s⟩:=h.st z
  have s1:=s.step (c2:=tC (nN S-0)) (λz=>p.sta z) (λz=>⟨p.pre,p.err z⟩)
  refine⟨_,?_,s1.did gL (c2:=2*nN S*3^nN S) cL⟩
  rw[Nat.sub_zero,show j+1-o=(j-o)+1 by omega,act,abJ]
  unfold bF at hc ⊢
  omega
 ·have h1:=h.err z
  have h2:=p.err (by rw[h1];exact z)
  unfold iX
  rw[if_neg (by rw[h2,h1];exact z),h2,h1]
 ·obtain⟨z1,z2⟩:=iB.1 z
  rw[ms z,abY hb hj,show M ns2 idl=xy.res (M ns1 f) (M ns1 id) from fK (gL.ok z2).2.2,jj p.pre h.v,h.m (kN p.err z1),p.m z1]
  rfl
 ·obtain⟨z1,z2⟩:=iB.1 z
  rw[ms z]
  have hg:=gL.ok z2
  have hsub:∀x,x∈dz ns2 idl→x∈dz nsi f:=λx hx=>by
   have hx':M ns1 f x:=((hg.2.2 x).1 hx).1
   rw[jj p.pre h.v]at hx'
   exact hx'
  exact go (Nf hw hg.1 hsub) (h.crd (kN p.err z1))
theorem Ut (h:WF nsc nsi R S o j ec ei f) (hb:¬j &&& o=o):WF nsc nsi R S o (j+1) ec ei f:=
 ⟨h.v,h.pre,λz=>by obtain⟨c,hc,s⟩:=h.st z;exact⟨c,go hc (ab6 _ (by omega)),s⟩,h.err,λz=>by rw[abr hb];exact h.m z,h.crd⟩
theorem Q7 (hr:dt S=true) (hw:Wf ns3) (hcG:cG≤24) (ho:Xn ns nsc R S o ec out) (h1:1≤o) (h16:o<16) (hom:o<2^S.may.length) (h:WF nsc nsi R S o (2^S.may.length) ec ei f)
  (gG:kc nsi ns1 R cG lG (bS [((o*65536:Nat):Int)] 0) idg erG) (gJ:kc ns1 ns2 R (rG.cst ns1 f (ko ei erG idg)) lJ (rG.res (M ns1 f) (M ns1 (ko ei erG idg))) idj erJ)
  (gO:kc ns2 ns3 R (pW.cst ns2 out (ko (iX ei erG) erJ idj)) lO (pW.res (M ns2 out) (M ns2 (ko (iX ei erG) erJ idj))) ido erO):
  Xn ns ns3 R S (o+1) (iX (iX (iX ei erG) erJ) erO) (ko (iX (iX ei erG) erJ) erO ido):=by
 have p1:=gt h.pre
 have p2:=gt gG.pre
 have p3:=gt gJ.pre
 have hv:=h.v
 have hov:=ho.v
 have hw2:=hw.prefix gO.pre
 have hw1:=hw2.prefix gJ.pre
 have hg0:erG=0→M ns1 idg=λx=>x=o*65536:=λzG=>fK λx=>by
  refine((gG.ok zG).2.2 x).trans ?_
  constructor
  ·rintro⟨m,hm,e⟩
   rw[aaG.1 hm,my,KX]at e
   exact e
  ·rintro rfl
   exact⟨_,aaG.2 rfl,by rw[my,KX]⟩
 have key:∀y,FS S o (2^S.may.length) y→y ||| o*65536=y+o*65536:=λy hy=>by
  have hlt:=Kf hr hy
  have e:=acu (i:=16) hlt o
  have e16:(2:Nat)^16=65536:=rfl
  rw[e16]at e
  rw[Nat.or_comm,acW,←e,Nat.add_comm]
 have e16:(2:Nat)^(16+S.may.length)=65536*2^S.may.length:=by rw[Nat.pow_add]
 have big:∀y q,y<65536→q<2^S.may.length→y+q*65536<2^(16+S.may.length):=λy q hy hq=>by
  rw[e16]
  have:(q+1)*65536≤65536*2^S.may.length:=by rw[acW];exact Nat.mul_le_mul_left _ hq
  omega
 have cJ:iX ei erG=0→rG.cst ns1 f (ko ei erG idg)≤ur (16+S.may.length)*3^nN S:=λz2=>by
  obtain⟨z1,zG⟩:=iB.1 z2
  rw[ms z2]
  have t1:tp ns1 f≤16+S.may.length:=mO.2 λx hx=>by
   have hx':M ns1 f x:=hx
   rw[jj gG.pre h.v,h.m z1]at hx'
   have:=big x 0 (Kf hr hx') (by omega)
   omega
  have t2:tp ns1 idg≤16+S.may.length:=mO.2 λx hx=>by
   have hx':M ns1 idg x:=hx
   rw[hg0 zG]at hx'
   have:=big 0 o (by omega) hom
   omega
  have l1:(dz ns1 f).length≤3^nN S:=by rw[jA gG.pre h.v];exact h.crd z1
  have l2:(dz ns1 idg).length≤1:=jB (l2:=[o*65536]) (kU hw1 idg (gG.ok zG).1) λx hx=>by
   have hx':M ns1 idg x:=hx
   rw[hg0 zG]at hx'
   exact aaG.2 hx'
  refine go (Yh hw1 (by omega) (gG.ok zG).1 t1 t2) (adf (rQ (Nat.sub_le _ _)) ?_)
  exact go (adf l1 l2) (aaR (acQ _))
 have hj0:iX (iX ei erG) erJ=0→M ns2 idj=λx=>∃y,FS S o (2^S.may.length) y∧x=y+o*65536:=λz3=>fK λx=>by
  obtain⟨z2,zJ⟩:=iB.1 z3
  obtain⟨z1,zG⟩:=iB.1 z2
  refine((gJ.ok zJ).2.2 x).trans ?_
  rw[ms z2,hg0 zG,jj gG.pre h.v,h.m z1]
  show oA _ _ x↔_
  constructor
  ·rintro⟨y,b,hy,rfl,rfl⟩
   exact⟨y,hy,key y hy⟩
  ·rintro⟨y,hy,rfl⟩
   exact⟨y,_,hy,rfl,(key y hy).symm⟩
 have cO:iX (iX ei erG) erJ=0→pW.cst ns2 out (ko (iX ei erG) erJ idj)≤(16+S.may.length)*3^nN S:=λz3=>by
  obtain⟨z2,zJ⟩:=iB.1 z3
  obtain⟨z1,zG⟩:=iB.1 z2
  have zc:=kN h.err z1
  rw[ms z3]
  have t1:tp ns2 out≤16+S.may.length:=mO.2 λx hx=>by
   have hx':M ns2 out x:=hx
   rw[jj ((h.pre.trans gG.pre).trans gJ.pre) ho.v,ho.m zc]at hx'
   obtain⟨q,q1,q2,y,hy,rfl⟩:=hx'
   exact big y q (Kf hr hy) (by omega)
  have t2:tp ns2 idj≤16+S.may.length:=mO.2 λx hx=>by
   have hx':M ns2 idj x:=hx
   rw[hj0 z3]at hx'
   obtain⟨y,hy,rfl⟩:=hx'
   exact big y o (Kf hr hy) hom
  refine go (RI hw2 Iw.endF (by omega) (gJ.ok zJ).1 t1 t2) (adf (Nat.sub_le _ _) (go (adv _ _) ?_))
  have:=jB (l2:=(dz nsi f).map λy=>y+o*65536) (kU hw2 idj (gJ.ok zJ).1) λx hx=>by
   have hx':M ns2 idj x:=hx
   rw[hj0 z3]at hx'
   obtain⟨y,hy,rfl⟩:=hx'
   refine abS.2 ⟨y,?_,rfl⟩
   show M nsi f y
   rw[h.m z1];exact hy
  rw[acj]at this
  exact go this (h.crd z1)
 refine⟨qh gO.valid,ho.pre.trans (((h.pre.trans gG.pre).trans gJ.pre).trans gO.pre),?_,λz=>fK λx=> ?_⟩
 ·obtain⟨c,hc,s⟩:=ho.st
  have s0:∃c',c'≤(o-1)*bO S+2^S.may.length*bF S∧yP ns nsi R c' ei:=by
   by_cases z:ec=0
   ·obtain⟨c2,hc2,s2⟩:=h.st z
    exact⟨_,Nat.add_le_add hc (go hc2 (ab6 _ (Nat.sub_le _ _))),s.step (λ_=>s2) (λq=>absurd z q)⟩
   ·exact⟨_,by omega,s.step (c2:=0) (λq=>absurd q z) (λ_=>⟨h.pre,h.err z⟩)⟩
  obtain⟨c0,hc0,s0⟩:=s0
  have s1:=s0.did gG (c2:=24) λ_=>hcG
  have s2:=s1.did gJ (c2:=_) cJ
  refine⟨_,?_,s2.did gO (c2:=_) cO⟩
  have e:(o+1-1)*bO S=(o-1)*bO S+bO S:=by rw[show o+1-1=(o-1)+1 by omega,act,abJ]
  rw[e]
  unfold bO at hc0 ⊢
  omega
 ·obtain⟨z3,zO⟩:=iB.1 z
  obtain⟨z2,zJ⟩:=iB.1 z3
  obtain⟨z1,zG⟩:=iB.1 z2
  have zc:=kN h.err z1
  have hj:=hj0 z3
  rw[ms z,VA h1]
  refine((gO.ok zO).2.2 x).trans ?_
  show (M ns2 out x∨M ns2 (ko (iX ei erG) erJ idj) x)↔_
  rw[ms z3,hj,jj ((h.pre.trans gG.pre).trans gJ.pre) ho.v,ho.m zc]
end
theorem Xo (h:o<16):I9 [((o*65536:Nat):Int)]=true:=by grind [vJ,List.mem_singleton]
def X0 (R:Nat) (ns:List Nd) (S:Sp) (ns':List Nd) (id:Nat) (er:Int):Prop:=Xn ns ns' R S (2^S.may.length) er id∧(¬er=0→id=0)
theorem Y3 {ns ns':List Nd} {R id:Nat} {S:Sp} {e:Int} (h:Xn ns ns' R S (2^S.may.length) e id) (hz:e=0):X0 R ns S ns' id 0:=by
 subst hz
 exact⟨h,λz=>absurd rfl z⟩
theorem Sv {ns ns':List Nd} {R id:Nat} {S:Sp} {e:Int} (h:Xn ns ns' R S (2^S.may.length) e id) (hz:¬e=0):X0 R ns S ns' 0 e:=
 ⟨⟨by omega,h.pre,h.st,λz=>absurd z hz⟩,λ_=>rfl⟩
theorem WX {ns ns':List Nd} {R id:Nat} {S:Sp} {e:Int} (h:X0 R ns S ns' id e):e=0∨e=5:=by
 obtain⟨c,_,s⟩:=h.1.st
 exact s.ers
end
section
def Vc (R:Nat) (S:Sp) (e:Int):Prop:=∃ns' id,X0 R [] S ns' id e∧ns'.length≤R∧Wf ns'
def Wo (S:Sp) (T:Nat):Prop:=∃L ks,m5 (mL S (eZ S)) L ks∧T+1<2^cnt L
theorem Ab (h:U.Nodup):∀k,(rk U r k).Nodup
 |0=>h
 |k+1=>ka (Ab h k) _
theorem WP {l:List Int} {c:Int}:c∈rk [] l l.length↔c∈l:=by
 rw[sK _ (am _),aaY];simp
theorem Mz {n b:Int} {L:ML} {N:Nat} {TI:TypeId} {v:Value} {w':World} (h:(∃tv X s,v= .tuple #[tv, .int .i64 s, .int .i64 0]∧cH dX 1 TI w' N tv X∧Sj L n X∧X.length≤4000∧0≤s∧s≤b)∨(v= .tuple #[.slice none 0 0, .int .i64 b, .int .i64 6]∧b.toNat+1<2^cnt L)) (hb:0≤b):
  ∃tv X s e,v= .tuple #[tv, .int .i64 s, .int .i64 e]∧cH dX 1 TI w' N tv X∧X.length≤4000∧0≤s∧s≤b∧(e=0→Sj L n X)∧(¬e=0→e=6∧b.toNat+1<2^cnt L):=by
 obtain⟨tv,X,s,h1,h2,h3,h4,h5,h6⟩|⟨h1,h2⟩:=h
 ·exact⟨tv,X,s,0,h1,h2,h4,h5,h6,λ_=>h3,λq=>absurd rfl q⟩
 ·exact⟨_,[],b,6,h1,cH.nil,me _,hb,Int.le_refl _,(λq=>(by cases q)),(λ_=>⟨rfl,h2⟩)⟩
section
variable {S:Sp}
theorem Xw (hr:dt S=true) (hl:(eZ S).length≤4000):Ey S (eZ S)=0:=by grind [U5,gE,yS]
theorem L6 (hr:dt S=true) (hl:(eZ S).length≤4000) (h:m5 (mL S (eZ S)) L T):jE L L.length=true:=by
 have h1:=RO hr hl
 obtain⟨X,_,h2,_⟩:=h.dn _ (mw _ _) (rY (kR (S:=S) hl) h1)
 exact Ux h2
theorem OO (hr:dt S=true):(mL S (eZ S)).length≤1024:=by grind [LB,MP]
theorem abG {R:Nat} {ns':List Nd} {id:Nat} {e:Int} (h:X0 R [] S ns' id e) (h0:¬e=0):e=5:=by grind [WX]
end
theorem sx {v:Value} {a b c:Int} (h:v.oneCell'=true):[v,Value.int .i64 a, .int .i64 b, .int .i64 c].all Value.oneCell'=true:=by simp only[acL,adj,h,acx,ack];rfl
def FwO (R T:Nat) (S:Sp) (how sp e:Int) (Rr:List Rw):Prop:=(e=0∧how=1∧0≤sp∧sp≤T∧Vc R S 0∧Bq S Rr)∨(e=5∧Vc R S 5)∨(e=6∧Vc R S 0∧Wo S T)
def oK (b0 b1:Int):Prop:=(0≤b0∧b0≤20000)∧0≤b1∧b1≤1000000
instance (b0 b1:Int):Decidable (oK b0 b1):=inferInstanceAs (Decidable (_∧_))
def JE (R T:Nat) (S:Sp) (how why sp:Int) (Rr:List Rw):Prop:=(how=1∧why=0∧0≤sp∧sp≤T∧Vc R S 0∧Bq S Rr)∨(how=2∧Rr=lp S (m8 S)∧((why=5∧sp=0∧Vc R S 5)∨(why=6∧sp=T∧Vc R S 0∧Wo S T)))
theorem Wr {b0 b1:Int} (h:oK b0 b1):∃R T:Nat,b0=(R:Int)∧b1=(T:Int)∧True∧R≤20000∧T≤1000000:=by
 obtain⟨⟨h1,h2⟩,h3,h4⟩:=h
 exact⟨b0.toNat,b1.toNat,by omega,by omega,trivial,by omega,by omega⟩
section
variable {R T:Nat} {S:Sp} {how sp e:Int} {Rr:List Rw}
theorem abU (h:FwO R T S how sp e Rr) (he:e=0):JE (R:Int).toNat (T:Int).toNat S how 0 sp Rr:=by
 rw[my,my]
 rcases h with h|h|h
 ·exact .inl ⟨h.2.1,rfl,h.2.2.1,h.2.2.2.1,h.2.2.2.2.1,h.2.2.2.2.2⟩
 all_goals omega
theorem abm (h:FwO R T S how sp e Rr) (he:e=6):JE (R:Int).toNat (T:Int).toNat S 2 e (T:Int) (lp S (m8 S)):=by
 rw[my,my]
 rcases h with h|h|h
 ·have:=h.1;omega
 ·have:=h.1;omega
 ·exact .inr ⟨rfl,rfl, .inr ⟨he,rfl,h.2⟩⟩
theorem Yq (h:FwO R T S how sp e Rr) (h0:¬e=0) (h6:¬e=6):JE (R:Int).toNat (T:Int).toNat S 2 e 0 (lp S (m8 S)):=by
 rw[my,my]
 rcases h with h|h|h
 ·exact absurd h.1 h0
 ·exact .inr ⟨rfl,rfl, .inl ⟨h.1,rfl,h.2⟩⟩
 all_goals omega
end
end
section
def NS (n:Nat) (x:Rw):Ln:=⟨x.c,(List.range n).map λk=>((x.o/2^k%2:Nat):Int)⟩
def oE (S:Sp) (l:List Rw):Tb:=⟨1,S.n,S.on.length,l.map (NS S.on.length)⟩
section
variable {S:Sp} {l Z:List Rw} {x:Rw} {n k o p i:Nat}
theorem T5 (n:Nat) (x:Rw):(NS n x).os.length=n:=by simp[NS]
theorem J0 (h:k<n):(NS n x).os.getD k 0=((x.o/2^k%2:Nat):Int):=by
 grind [NS,List.getElem?_range]
theorem Ss (h:k<n):(NS n x).os.getD k 0=1↔x.o.testBit k=true:=by
 rw[J0 h,acD,decide_eq_true_eq]
 omega
theorem RR (h:k<n):¬(NS n x).os.getD k 0=2:=by
 rw[J0 h]
 omega
theorem DN (S:Sp) (l:List Rw):(oE S l).ls.length=l.length:=by simp[oE]
theorem Oi (h:i<l.length):(oE S l).ls.getD i jH=NS S.on.length (l.getD i ⟨⟨0,0⟩,0⟩):=by
 grind [oE,List.getElem?_eq_getElem]
theorem s6 (hr:dt S=true) (hm:km S l=true) (h64:l.length≤64):fy (oE S l)=true:=by
 obtain⟨h0,h8,h1,h4,h5,_⟩:=dw.1 hr
 unfold fy
 rw[so,decide_eq_true_eq]
 refine⟨⟨by show (0:Int)≤1;decide,by show (1:Int)≤3;decide,h0,h8,by show (1:Int)≤(S.on.length:Int);omega,by show (S.on.length:Int)≤4;omega,by rw[DN];exact h64⟩,?_⟩
 refine aa1.2 λy hy=> ?_
 obtain⟨x,hx,rfl⟩:=abS.1 hy
 refine nZ.2 ⟨(f7.1 (j8.1 hm x hx)).1,by rw[T5];rfl,λz hz=> ?_⟩
 obtain⟨j,_,rfl⟩:=abS.1 hz
 omega
theorem aak (h:o<S.on.length):∀k,k≤l.length→tG (oE S l) o 2 k=0
 |0,_=>rfl
 |k+1,hk=>by
  rw[←O5 (by rw[Oi (by omega)];exact RR h)]
  exact aak h k (by omega)
theorem Z8 (h:o<S.on.length):oz (oE S l) o 2=0:=by
 unfold oz
 rw[DN]
 exact aak h _ (am _)
theorem XE (h:o<S.on.length):BH (oE S l) o=oz (oE S l) o 1:=by
 unfold BH Pj
 rw[if_neg (show ¬(oE S l).kind=0 by show ¬(1:Int)=0;decide),if_pos (show (oE S l).kind=1 from rfl),Z8 h,Nat.or_zero]
theorem yj:Ej l p o=true↔∃x,x∈l∧x.o.testBit o=true∧oJ x.c.m x.c.v p=true:=by
 unfold Ej
 grind
theorem M2 (hr:dt S=true) (hm:km S l=true) (h:o<S.on.length) (p:Nat):(oz (oE S l) o 1).testBit p=true↔p<2^S.n.toNat∧Ej l p o=true:=by
 obtain⟨h0,h8,h1,h4,h5,_⟩:=dw.1 hr
 unfold oz
 rw[uL (T:=oE S l) (show S.n.toNat≤8 by omega) p,DN,sX]
 have key:∀j,j<l.length→(((oE S l).ls.getD j jH).os.getD o 0=1∧hold ((oE S l).ls.getD j jH).c p↔((l.getD j ⟨⟨0,0⟩,0⟩).o.testBit o&&oJ (l.getD j ⟨⟨0,0⟩,0⟩).c.m (l.getD j ⟨⟨0,0⟩,0⟩).c.v p)=true):=λj hj=>by
  have hv:=(dB.1 (f7.1 (j6.1 hm j hj)).1).2.2.2
  rw[Oi hj,Ss h,so]
  unfold hold oJ
  rw[decide_eq_true_eq,hv]
  rfl
 constructor
 ·rintro⟨q,j,hj,r⟩;exact⟨q,j,hj,(key j hj).1 r⟩
 ·rintro⟨q,j,hj,r⟩;exact⟨q,j,hj,(key j hj).2 r⟩
theorem IY (hr:dt S=true) (hm:km S l=true) (h64:l.length≤64):oD (oE S l)=0:=Qu (s6 hr hm h64) λo _=>JJ (by show ¬(2:Int)≤1;decide)
theorem r9:(eq (oE S l)).on.length=S.on.length:=by
 show (pR (oE S l) (S.on.length:Int).toNat).length=_
 grind [kq,Int.toNat_natCast]
theorem onR (h:o<S.on.length):zn (eq (oE S l)) o=oz (oE S l) o 1:=Hg _ (by show o<(S.on.length:Int).toNat;rw[my];exact h)
theorem XN (h:o<S.on.length):jZ (eq (oE S l)) o=oz (oE S l) o 1:=(BV _ (by show o<(S.on.length:Int).toNat;rw[my];exact h)).trans (XE h)
theorem NP (hm:km S Z=true):km (eq (oE S l)) Z=true:=j8.2 λx hx=>by
 obtain⟨a,b,c⟩:=f7.1 (j8.1 hm x hx)
 exact f7.2 ⟨a,b,by rw[r9];exact c⟩
theorem Kk (hm:km (eq (oE S l)) Z=true):km S Z=true:=j8.2 λx hx=>by
 obtain⟨a,b,c⟩:=f7.1 (j8.1 hm x hx)
 exact f7.2 ⟨a,b,by rw[r9]at c;exact c⟩
theorem Pg (h:gH S l=true) (h64:l.length≤64):gH (eq (oE S l)) l=true:=by
 obtain⟨hr,hm,hc⟩:=eW.1 h
 have hR:=mi (IY hr hm h64)
 refine eW.2 ⟨hR,NP hm,λo ho=> ?_⟩
 have ho2:o<S.on.length:=by rw[r9]at ho;exact ho
 refine(iC hR (NP hm) ho).2 λp hp=> ?_
 rw[onR ho2,XN ho2]
 exact⟨λq=>((M2 hr hm ho2 p).1 q).2,λq=>(M2 hr hm ho2 p).2 ⟨hp,q⟩⟩
theorem Od (h:gH S l=true) (hz:gH (eq (oE S l)) Z=true):gH S Z=true:=by
 obtain⟨hr,hm,hc⟩:=eW.1 h
 obtain⟨hR,hm2,hc2⟩:=eW.1 hz
 refine eW.2 ⟨hr,Kk hm2,λo ho=>(iC hr (Kk hm2) ho).2 λp hp=> ?_⟩
 have h1:=(iC hr hm ho).1 (hc o ho) p hp
 have h2:=(iC hR hm2 (by rw[r9];exact ho)).1 (hc2 o (by rw[r9];exact ho)) p hp
 grind [onR,XN,M2]
theorem My (h:Bq S l) (h64:l.length≤64) (hz:Bq (eq (oE S l)) Z):Z.length=l.length:=
 Nat.le_antisymm (hz.min l (Pg h.cov h64)) (h.min Z (Od h.cov hz.cov))
theorem LY (h:k<l.length):(l.take (k+1)).map f=(l.take k).map f++[f (l.getD k d)]:=by
 grind [List.take_add_one,List.getElem?_eq_getElem]
theorem Lz:((List.range j).map λq=>((o/2^q%2:Nat):Int))++[((o/2^(j:Int).toNat &&& 1:Nat):Int)]=(List.range (j+1)).map λq=>((o/2^q%2:Nat):Int):=by
 grind [List.range_succ,Int.toNat_natCast,tA]
theorem Eg {α β:Type} {f:α→List β}:∀(l:List α),(∀x,x∈l→(f x).length≤c)→(l.flatMap f).length≤l.length*c
 |[],_=>me _
 |a::l,h=>by
  have h1:=Eg l λx hx=>h x (abe _ hx)
  have h2:=h a aaZ
  rw[ach,An,aaW,act,abJ]
  omega
def GT (S:Sp):List Rw:=(List.range S.on.length).flatMap λo=>((List.range (2^S.n.toNat)).filter λp=>(zn S o).testBit p).map λp=>⟨⟨2^S.n.toNat-1,p⟩,2^o⟩
theorem LE (S:Sp):(GT S).length≤S.on.length*2^S.n.toNat:=by
 have h:=Eg (c:=2^S.n.toNat) (f:=λo=>((List.range (2^S.n.toNat)).filter λp=>(zn S o).testBit p).map λp=>(⟨⟨2^S.n.toNat-1,p⟩,2^o⟩:Rw)) (List.range S.on.length) λo _=>by
  rw[acj]
  have:=adA (λp=>(zn S o).testBit p) (List.range (2^S.n.toNat))
  rw[adp]at this
  exact this
 rw[adp]at h
 exact h
theorem zB (h:p<2^n):p &&& (2^n-1)=p:=by grind [Nat.and_two_pow_sub_one_eq_mod,Nat.mod_eq_of_lt]
theorem wL:x∈GT S↔∃o p,o<S.on.length∧p<2^S.n.toNat∧(zn S o).testBit p=true∧x=⟨⟨2^S.n.toNat-1,p⟩,2^o⟩:=by
 grind [GT]
theorem LC (hr:dt S=true):gH S (GT S)=true:=by
 obtain⟨h0,h8,h1,h4,h5,hin⟩:=dw.1 hr
 have hm:km S (GT S)=true:=j8.2 λx hx=>by
  obtain⟨o,p,ho,hp,hb,rfl⟩:=wL.1 hx
  have hpos:=ace S.n.toNat
  exact f7.2 ⟨dB.2 ⟨h0,h8,by show 2^S.n.toNat-1<2^S.n.toNat;omega,zB hp⟩,ace o,ac3 (by decide) ho⟩
 have h256:=fm h8
 refine eW.2 ⟨hr,hm,λo ho=>(iC hr hm ho).2 λp hp=>⟨λq=> ?_,λq=> ?_⟩⟩
 ·refine yj.2 ⟨_,wL.2 ⟨o,p,ho,hp,q,rfl⟩,?_,?_⟩
  ·show (2^o).testBit o=true
   rw[ab5];simp
  ·show oJ _ _ _=true
   unfold oJ
   simp
 ·obtain⟨x,hx,b1,b2⟩:=yj.1 q
  obtain⟨o',p',ho',hp',hb',rfl⟩:=wL.1 hx
  have e1:o'=o:=by
   have:(2^o').testBit o=true:=b1
   rw[ab5]at this
   exact of_decide_eq_true this
  have e2:p=p':=by
   have:=of_decide_eq_true (show decide (p &&& (2^S.n.toNat-1)=p' &&& (2^S.n.toNat-1))=true from b2)
   rw[zB hp,zB hp']at this
   exact this
  grind [dJ]
theorem SU (hr:dt S=true) (h:Bq S l):l.length≤S.on.length*2^S.n.toNat:=go (h.min _ (LC hr)) (LE S)
theorem OB (hi:i<l.length):(l.set i y).getD j d=if j=i then y else l.getD j d:=by
 grind
theorem Q8:Ej (nX l) p o=Ej l p o:=by
 rw[acb,yj,yj]
 constructor
 ·rintro⟨x,hx,r⟩;exact⟨x,(ac4.1 hx).1,r⟩
 ·rintro⟨x,hx,r⟩
  refine⟨x,ac4.2 ⟨hx,decide_eq_true ?_⟩,r⟩
  grind
theorem Ly (h:gH S l=true) (hi:i<l.length) (hb:(l.getD i ⟨⟨0,0⟩,0⟩).o.testBit k=true) (hn:gH S (nX (sG l i k))=false):
  ∃p,p<2^S.n.toNat∧oJ (l.getD i ⟨⟨0,0⟩,0⟩).c.m (l.getD i ⟨⟨0,0⟩,0⟩).c.v p=true∧∀j,j<l.length→(l.getD j ⟨⟨0,0⟩,0⟩).o.testBit k=true→oJ (l.getD j ⟨⟨0,0⟩,0⟩).c.m (l.getD j ⟨⟨0,0⟩,0⟩).c.v p=true→j=i:=by
 obtain⟨hr,hm,hc⟩:=eW.1 h
 refine Classical.byContradiction λhno=> ?_
 have hall:∀p,p<2^S.n.toNat→oJ (l.getD i ⟨⟨0,0⟩,0⟩).c.m (l.getD i ⟨⟨0,0⟩,0⟩).c.v p=true→∃j,j<l.length∧(l.getD j ⟨⟨0,0⟩,0⟩).o.testBit k=true∧oJ (l.getD j ⟨⟨0,0⟩,0⟩).c.m (l.getD j ⟨⟨0,0⟩,0⟩).c.v p=true∧¬j=i:=λp hp hh=>by
  refine Classical.byContradiction λhx=>hno ⟨p,hp,hh,λj hj h1 h2=> ?_⟩
  exact Classical.byContradiction λh3=>hx ⟨j,hj,h1,h2,h3⟩
 have hlen:(sG l i k).length=l.length:=by unfold sG;rw[List.length_set]
 have hget:∀j,(sG l i k).getD j ⟨⟨0,0⟩,0⟩=if j=i then mJ (l.getD i ⟨⟨0,0⟩,0⟩) k else l.getD j ⟨⟨0,0⟩,0⟩:=λj=>OB hi
 have hcv:∀o p,p<2^S.n.toNat→Ej (sG l i k) p o=Ej l p o:=λo p hp=>by
  rw[acb,sX,sX]
  constructor
  ·rintro⟨j,hj,r⟩
   rw[hlen]at hj
   refine⟨j,hj,?_⟩
   rw[hget]at r
   by_cases e:j=i
   ·subst e
    rw[if_pos rfl,so]at r
    have h1:((l.getD j ⟨⟨0,0⟩,0⟩).o-2^k).testBit o=true:=r.1
    rw[iR hb,so]at h1
    rw[so]
    exact⟨h1.1,r.2⟩
   ·rw[if_neg e]at r;exact r
  ·rintro⟨j,hj,r⟩
   by_cases e:j=i
   ·subst e
    rw[so]at r
    by_cases ek:k=o
    ·subst ek
     obtain⟨j2,h1,h2,h3,h4⟩:=hall p hp r.2
     refine⟨j2,by rw[hlen];exact h1,?_⟩
     rw[hget,if_neg h4,h2,h3];rfl
    ·refine⟨j,by rw[hlen];exact hj,?_⟩
     rw[hget,if_pos rfl,so]
     refine⟨?_,r.2⟩
     show ((l.getD j ⟨⟨0,0⟩,0⟩).o-2^k).testBit o=true
     rw[iR hb,r.1,decide_eq_false ek]
     rfl
   ·refine⟨j,by rw[hlen];exact hj,?_⟩
    rw[hget,if_neg e];exact r
 have hm2:km S (nX (sG l i k))=true:=j8.2 λx hx=>by
  obtain⟨h1,h2⟩:=ac4.1 hx
  obtain⟨j,hj,rfl⟩:=fh (d:=(⟨⟨0,0⟩,0⟩:Rw)) h1
  rw[hlen]at hj
  rw[hget]at h2 ⊢
  by_cases e:j=i
  ·subst e
   rw[if_pos rfl]at h2 ⊢
   obtain⟨a,b,c⟩:=f7.1 (j6.1 hm j hj)
   exact f7.2 ⟨a,of_decide_eq_true h2,ab8 (Nat.sub_le _ _) c⟩
  ·rw[if_neg e];exact j6.1 hm j hj
 grind [gH,nX,sG,eW,iC,Q8]
theorem Ox {x:Nat} (h:0<x):∃k,x.testBit k=true:=Classical.byContradiction λhn=>by
 have:x=0:=aaF λk=>by
  rw[acn]
  exact aaT.2 λhk=>hn ⟨k,hk⟩
 omega
theorem Ig (h:yr S l=true):l.length≤S.on.length*2^S.n.toNat:=by
 obtain⟨hc,hn⟩:=xO.1 h
 obtain⟨hr,hm,_⟩:=eW.1 hc
 have key:∀i,∃q:Nat×Nat,i<l.length→q.1<S.on.length∧q.2<2^S.n.toNat∧(l.getD i ⟨⟨0,0⟩,0⟩).o.testBit q.1=true∧oJ (l.getD i ⟨⟨0,0⟩,0⟩).c.m (l.getD i ⟨⟨0,0⟩,0⟩).c.v q.2=true∧∀j,j<l.length→(l.getD j ⟨⟨0,0⟩,0⟩).o.testBit q.1=true→oJ (l.getD j ⟨⟨0,0⟩,0⟩).c.m (l.getD j ⟨⟨0,0⟩,0⟩).c.v q.2=true→j=i:=λi=>by
  by_cases hi:i<l.length
  ·obtain⟨_,h1,h2⟩:=f7.1 (j6.1 hm i hi)
   obtain⟨k,hk⟩:=Ox h1
   have hkl:k<S.on.length:=by
    rcases acy k S.on.length with g|g
    ·exact g
    ·have:=gI.1 h2 k g
     rw[hk]at this;cases this
   have hf:=hn i hi k hkl
   unfold nbR at hf
   rw[hk,ack]at hf
   obtain⟨p,a,b,c⟩:=Ly hc hi hk hf
   exact⟨(k,p),λ_=>⟨hkl,a,hk,b,c⟩⟩
  ·exact⟨(0,0),λk=>absurd k hi⟩
 let g:Nat→Nat×Nat:=λi=>Classical.choose (key i)
 have hg:∀i,i<l.length→_:=λi hi=>Classical.choose_spec (key i) hi
 have h1:=uD (a:=(List.range l.length).map g) (b:=(List.range S.on.length).flatMap λo=>(List.range (2^S.n.toNat)).map λp=>(o,p)) ?_ ?_
 ·rw[acj,adp]at h1
  refine go h1 ?_
  have h2:=Eg (c:=2^S.n.toNat) (f:=λo=>(List.range (2^S.n.toNat)).map λp=>(o,p)) (List.range S.on.length) λo _=>by simp
  rw[adp]at h2
  exact h2
 ·refine List.pairwise_map.2 ?_
  refine(List.nodup_range (n:=l.length)).imp_of_mem λ{a b} ha hb hab e=> ?_
  obtain⟨_,_,a3,a4,_⟩:=hg a (acp.1 ha)
  obtain⟨_,_,_,_,b5⟩:=hg b (acp.1 hb)
  have e1:Classical.choose (key a)=Classical.choose (key b):=e
  rw[e1]at a3 a4
  exact hab (b5 a (acp.1 ha) a3 a4)
 all_goals grind
theorem Qy (hr:dt S=true) (hm:km S l=true):iH l:=λx hx=>by
 obtain⟨a,b,c⟩:=f7.1 (j8.1 hm x hx)
 obtain⟨h0,h8,hm2,hv⟩:=dB.1 a
 obtain⟨_,_,_,h4,_,_⟩:=dw.1 hr
 have h1:2^S.n.toNat≤2^8:=aaV (by decide) (by omega)
 have h2:2^S.on.length≤2^4:=aaV (by decide) h4
 have h3:x.c.v≤x.c.m:=by rw[←hv];exact acX
 exact⟨by omega,by omega,by omega⟩
theorem WV (ha:a≤3) (hb:b≤4):a*2^b≤48:=by
 have h1:2^b≤2^4:=aaV (by decide) hb
 have h2:a*2^b≤3*2^4:=adf ha h1
 exact h2
theorem Hp {R T:Nat} {how why sp:Int} (hr:dt S=true) (h4:S.n≤4) (h3:S.on.length≤3) (h:JE R T S how why sp l):gH S l=true∧l.length≤48:=by
 have hn:=WV h3 (show S.n.toNat≤4 by omega)
 rcases h with h|⟨_,rfl,_⟩
 ·exact⟨h.2.2.2.2.2.cov,go (SU hr h.2.2.2.2.2) hn⟩
 ·exact⟨Gi (wz hr),go (Ig (FT (wz hr))) hn⟩
end
end
section
theorem wG (h0:dm f x0=c0_0) (k0:c0_0.cells= #[c0_0]) (h1:dm f x1=c1_0) (k1:c1_0.cells= #[c1_0]) (h2:dm f x2=c2_0) (k2:c2_0.cells= #[c2_0]):
    (execOp (dm f) ⟨d, .build 24 #[(0,x0),(1,x1),(2,x2)],ty,ps,af,g⟩).run Tryz.prog w= .ok (.value (.agg #[c0_0,c1_0,c2_0, .slice none 0 0])) w:=by
  obtain⟨i0,hi0,hz0⟩:=we.1 (show (Tryz.prog.info? 24).bind (·.zero)=_ from pn)
  obtain⟨j3,hj3,hs3⟩:=an.1 fL
  obtain⟨j22,hj22,hs22⟩:=an.1 w3
  simp[execOp,h0,k0,h1,k1,h2,k2,Instr.build,zeroValue,typeInfo,sizeOf,hi0,hz0,run_underlying Tryz.underlying24,Instr.fill,d7,hj3,hs3,hj22,hs22]
set_option maxHeartbeats 4000000 in
theorem wn (S:Sp) (onV mayV:Value) (xa:Value) (l:List Rw) (w:World) (hon:dr eX 4 w onV S.on) (hmay:dr eX 4 w mayV S.may) (hl:dr gz 3 w xa l) (hlb:l.length≤1000000) (hlr:iH l) (h4:S.on.length≤20):
    Fn Tryz.prog 39 #[.agg #[.int .i64 S.n,onV,mayV],xa] w λv w'=>if dt S=true∧km S l=true then (if l.length≤64 then ∃lv vs,v= .tuple #[.agg #[.int .i64 1, .int .i64 S.n, .int .i64 (S.on.length:Int),lv], .int .i64 0]∧cH il 3 37 w' w.heap.size lv vs∧gf 3 w.heap.size w' vs (l.map (NS S.on.length))else v= .tuple #[.agg #[.int .i64 0, .int .i64 0, .int .i64 0, .slice none 0 0], .int .i64 3])else v= .tuple #[.agg #[.int .i64 0, .int .i64 0, .int .i64 0, .slice none 0 0], .int .i64 1]:=by
 refine cK (n:=67) Tryz.func39 rfl rfl rfl λhB=> ?_
 refine Zr<|Zy (du (c:= #[_,_,_]) rfl rfl λR W3 aP T e=> ?_)
 replace hB:=Ze hB T
 refine Zy (cM pn rfl λU W6 V X d=> ?_)
 have A:=ZO V hB
 obtain⟨hB,e⟩:=X.k2 hB e
 refine ZZ rfl<|Zq<|cy<|Zr<|Zv (cz rfl d9 rfl e)<|ZC (vs:=[.agg #[_,_,_]]) oN (iQ S _ _ _ (Below.slT hB hon) (Below.slT hB hmay)) rfl λaQ aR Y Z=> ?_
 obtain⟨hB,e,d⟩:=Y.k3 hB e d
 obtain rfl:=Z
 refine Zv (eK rfl)<|ZX rfl (λC=> ?_) λC=> ?_
 refine Zs<|Zs<|Zs<|Zs<|Zb rfl<|Zb rfl<|ct<|cN rfl<|Zr<|Zv (gW)<|Zy (cA rfl rfl dV rfl d rfl rfl λaS aa ab=> ?_)
 replace hB:=Zg hB aa A
 replace d:=ab
 refine ZZ rfl<|Zt<|ex rfl dV d rfl (v1:= .int .i64 1) rfl ⟨hB,?_⟩
 (rw[if_neg (λh=>by rw[kh C]at h;exact Bool.noConfusion h.1)])
 refine Zv (cz rfl d9 rfl e)<|Zw xa rfl<|ZC (vs:=[.agg #[_,_,_],xa]) Jf (zX S _ _ _ l _ (Below.slT hB hon) (Below.slT hB hmay) (Below.slT hB hl) Om hlr h4) rfl λaT aU ac ad=> ?_
 obtain⟨hB,e,d⟩:=ac.k3 hB e d
 obtain rfl:=ad
 refine Zv (eK rfl)<|Zb rfl<|Zb rfl<|ct<|ZQ rfl (λD=> ?_) λD=> ?_
 refine Zr<|Zv (gW)<|Zy (cA rfl rfl dV rfl d rfl rfl λaV ae af=> ?_)
 replace hB:=Zg hB ae A
 replace d:=af
 refine ZZ rfl<|Zt<|ex rfl dV d rfl (v1:= .int .i64 1) rfl ⟨hB,?_⟩
 (rw[if_neg (λh=>by rw[show km S l=false from kh D]at h;exact Bool.noConfusion h.2)])
 have hr:dt S=true:=lA C
 obtain⟨hr0,hr8,hr1,hr4,hr5,_⟩:=dw.1 hr
 have hm:km S l=true:=lA D
 refine Zr<|Zw xa rfl<|Zv (db (v:=xa) rfl (Below.slT hB hl) dM)<|Zv (gQ rfl rfl)<|Zb rfl<|ct<|ZQ rfl (λag=> ?_) λag=> ?_
 refine Zr<|Zv (gW)<|Zy (cA rfl rfl dV rfl d rfl rfl λaW ah ai=> ?_)
 replace hB:=Zg hB ah A
 replace d:=ai
 refine ZZ rfl<|Zt<|ex rfl dV d rfl (v1:= .int .i64 3) rfl ⟨hB,?_⟩
 (rw[if_pos ⟨hr,hm⟩,if_neg (by omega)])
 refine cx<|Zr<|Zf rfl gn<|Zl rfl cR e rfl<|Zf rfl fw<|ZL onV rfl eh e rfl<|Zv (db (v:=onV) rfl (Below.slT hB hon) dQ)<|Zv (wG (h0:=rfl) (k0:=rfl) (h1:=rfl) (k1:=rfl) (h2:=rfl) (k2:=rfl) (c0_0:= .int .i64 1) (c1_0:= .int .i64 _) (c2_0:= .int .i64 _))<|Zy (cM pn rfl λaj aX I ak f=> ?_)
 have J:=ZO I hB
 have K:=Zn I d.lt
 obtain⟨hB,e,d⟩:=ak.k3 hB e d
 refine Zy (cA rfl rfl dV rfl f rfl rfl λaY E al=> ?_)
 replace hB:=Zg hB E J
 replace e:=At.grownAt e f E Dd
 replace d:=At.grownNe d K E
 replace f:=al
 refine ct<|Zq<|Zr<|Zw xa rfl<|Zv (db (v:=xa) rfl (Below.slT hB hl) dM)<|ZZ rfl<|cy ?_
 refine cW (σ:=(Nat)×(Value)×(List CV)) [8,10,35,65] (λ(k,lv,vs)=>[(35, .int .i64 (k:Int))]) (λsg W=>match sg with|(k,lv,vs)=>(Below w.heap.size w W)∧(At W R _ 59)∧(At W U _ 24)∧(At W aj #[.int .i64 1, .int .i64 S.n, .int .i64 (S.on.length:Int),lv] 24)∧(cH il 3 37 W w.heap.size lv vs)∧(gf 3 w.heap.size W vs ((l.take k).map (NS S.on.length)))∧(k≤l.length)∧(True)) (λ(k,lv,vs)=>l.length-k) ((0, .slice none 0 0,[])) ⟨rfl,trivial⟩ ⟨hB,e,d,f,cH.nil,gf.nil,(me _),trivial⟩ ?_
 rintro⟨k,lv,vs⟩ aZ y ⟨hB,e,d,f,hlv,hls,hk,_⟩ a0 ao
 refine Zr<|Zv (dq rfl rfl)<|ct<|Zq<|ZQ rfl (λap=> ?_) λap=> ?_
 refine cx<|Zq<|cy ?_
 have a1:=Below.slT hB hon
 have a2:=Below.slT hB hmay
 have B:=Below.slT hB hl
 have L:=hB
 replace hB:=Below.refl y.heap.size y
 refine Zr<|Zv (dp (v:=xa) rfl (Below.slT hB B) rfl dM Om Om)<|Zv (jb rfl dY (dr.cell (Below.slT hB B) eC ⟨⟨0,0⟩,0⟩ Om Om 0 rfl) (dr.cell (Below.slT hB B) eC ⟨⟨0,0⟩,0⟩ Om Om 1 rfl) (dr.cell (Below.slT hB B) eC ⟨⟨0,0⟩,0⟩ Om Om 2 rfl))<|Zy (cM jP rfl λaq a3 ar au g=> ?_)
 have av:=ZO ar hB
 replace hB:=Ze hB au
 refine Zy (cA rfl rfl dY rfl g rfl rfl λa4 aw ax=> ?_)
 replace hB:=Zg hB aw av
 replace g:=ax
 refine ct ?_
 obtain⟨a5,a6,ay⟩:=hlr.get (k:=k) (by omega)
 refine Zr<|Zf rfl gD<|Zv (io rfl dh (At.cell g rfl) (At.cell g rfl))<|Zv (qN (h0:=rfl))<|Zy (cM pq rfl λaz a7 aA aB i=> ?_)
 have M:=ZO aA hB
 obtain⟨hB,g⟩:=aB.k2 hB g
 refine Zy (cA rfl rfl gk rfl i rfl rfl λa8 N aC=> ?_)
 replace hB:=Zg hB N M
 replace g:=At.grownAt g i N Dd
 replace i:=aC
 refine ct<|Zq<|Zr<|Zf rfl gN<|Zl rfl cR (On hB f) rfl<|ZZ rfl<|cy ?_
 refine cW (σ:=(Nat)×(Value)) [10,10,44,58] (λ(j,ov)=>[(44, .int .i64 (j:Int))]) (λsg W=>match sg with|(j,ov)=>(Below y.heap.size y W)∧(At W aq _ 158)∧(At W az #[.int .u8 ((l.getD k ⟨⟨0,0⟩,0⟩).c.m:Int), .int .u8 ((l.getD k ⟨⟨0,0⟩,0⟩).c.v:Int),ov] 37)∧(cH dX 1 3 W y.heap.size ov ((List.range j).map λq=>((((l.getD k ⟨⟨0,0⟩,0⟩)).o/2^q%2:Nat):Int)))∧(j≤S.on.length)∧(True)) (λ(j,ov)=>S.on.length-j) ((0, .slice none 0 0)) ⟨rfl,trivial⟩ ⟨hB,g,i,cH.nil,(me _),trivial⟩ ?_
 rintro⟨j,ov⟩ a9 ba ⟨hB,g,i,hov,hj,_⟩ bb aD
 refine Zr<|Zv (dq rfl rfl)<|ct<|Zq<|ZQ rfl (λaE=> ?_) λaE=> ?_
 refine cx<|Zq<|cy<|Zr<|Zi rfl<|ZZ rfl ?_
 have hdv:(l.getD k ⟨⟨0,0⟩,0⟩).o/2^((j:Nat):Int).toNat<ig .u8:=ab8 (acz _ _) ay
 refine eR (λa b=>a.grownBy b ov.ownBlock) fx (λaF aG=> ?_)
 obtain⟨hB,g,i,hov⟩:=aG.k4 hB g i hov
 have O:=hov
 have hS:=World.grownBy.refl aF ov.ownBlock
 refine Tf 0 rfl rfl g7 hS<|Tk 1 rfl (λ_ hq=>cD (v:=ov) rfl fv (At.cell (At.grownOw i O hq Dd) rfl)) hS<|Tf 2 rfl rfl fG hS<|Tk 3 rfl (λ_ hq=>cD (v:= .int .u8 _) rfl dN (At.cell (At.grownOw g O hq Dd) rfl)) hS<|Ti 4 rfl rfl hS<|Tk 5 rfl (λ_ _=>ra rfl rfl Om (by simp only[IntKind.bits];omega)) hS<|Tk 6 rfl (λ_ _=>nh (n:=1) rfl rfl rfl (by exact hdv) Dd) hS<|Tk 7 rfl (λ_ _=>iP rfl Tryz.underlying5 Tryz.underlying3 (by exact ab8 acX Dd)) hS<|To 8 rfl (ez (u:= .int .i64 _) rfl cV eP rfl Dd Dd λaH bc bd F aI=>⟨.inl (cB hS (dA.grown F ov.ownBlock)),?_⟩)
 obtain⟨hB,g,i,hov⟩:=F.k4 hB g i hov
 replace hS:=cB hS (dA.grown F ov.ownBlock)
 refine To 9 rfl (dP (v:=ov) (v2:= .slice (some ⟨aH,0,none⟩) 1 1) rfl rfl cV eP Dd hov (eJ aI rfl) rfl (m3 hB) (by rw[acj,adp];omega) (by rw[acj,adp];omega) λP bf z p=>⟨.inl (cB hS z),?_⟩)
 replace hS:=cB hS z
 replace p:=cH.snoc (enc:=dX) (x:=_) rfl rfl rfl rfl p
 replace hB:=ZG hB z hov
 replace g:=At.grownOw g hov z Dd
 replace i:=At.grownOw i hov z Dd
 refine Tf 10 rfl rfl g7 hS<|To 11 rfl (de (v:=P) rfl rfl fv (dr.one p.sl) i fF λbg G aJ=>⟨.inr jW,?_⟩)
 replace hB:=Zg hB G M
 replace g:=At.grownAt g i G Dd
 replace p:=cH.grownAt p i G Dd
 replace i:=aJ
 replace i:At _ _ #[_,_,_] _:=i
 refine Td<|ZT rfl rfl rfl ?_
 exact aD _ _ ((j+1,P)) Za ⟨rfl,trivial⟩ ⟨hB,g,(by exact i),(by rw[←Lz];exact p),Om,trivial⟩ (by show S.on.length-(j+1)<S.on.length-j;omega)
 refine cT ?_
 replace e:=On hB e
 replace d:=On hB d
 replace f:=On hB f
 replace hlv:=Below.ow hB hlv
 replace hls:=gf.below hB hls
 have hzs:=go (am _) (Below.size L)
 replace hov:=cH.mono hov hzs
 replace hB:=Below.trans L (Below.mono hB hzs)
 have hvl:vs.length=k:=by have:=hls.len;rw[acj,aaX]at this;omega
 have hj2:j=S.on.length:=by omega
 rw[hj2]at hov
 refine cI<|Zf rfl fW<|ZL lv rfl iU f rfl<|Zv (cz rfl gk rfl i)<|Zy (ez (u:= .agg #[_,_,_]) rfl gZ oW rfl Dd Dd λaK bh bi aL aM=> ?_)
 obtain⟨e,d,f,hlv,hls,hB,hov⟩:=aL.k7 e d f hlv hls hB hov
 refine Zy (dP (v:=lv) (v2:= .slice (some ⟨aK,0,none⟩) 1 1) rfl rfl gZ oW Dd hlv (eJ aM rfl) (pm (dr.one (cH.sl hov))) (m3 hB) Om Om λQ bj r s=> ?_)
 replace s:=cH.snoc (enc:=il) (x:=⟨(l.getD k ⟨⟨0,0⟩,0⟩).c,ov⟩) rfl rfl rfl rfl s
 replace e:=At.grownOw e hlv r Dd
 replace d:=At.grownOw d hlv r Dd
 replace f:=At.grownOw f hlv r Dd
 replace hls:=gf.grownOw hls hlv r Dd
 replace hB:=ZG hB r hlv
 replace hov:=cH.grownOw hov hlv r Dd
 refine Zf rfl fW<|Zy (de (v:=Q) rfl rfl iU (dr.one s.sl) f fF λbk t aN=> ?_)
 replace e:=At.grownAt e f t Dd
 replace d:=At.grownNe d K t
 replace hls:=gf.grownAt hls f t Dd
 replace hB:=Zg hB t J
 replace hov:=cH.grownAt hov f t Dd
 replace s:=cH.grownAt s f t Dd
 replace f:=aN
 replace f:At _ _ #[_,_,_,_] _:=f
 refine ct<|ZT rfl rfl rfl ?_
 exact ao _ _ ((k+1,Q,vs++[⟨(l.getD k ⟨⟨0,0⟩,0⟩).c,ov⟩])) Za ⟨rfl,trivial⟩ ⟨hB,e,d,(by exact f),(by exact s),(by rw[LY Om];exact gf.snoc (l:=NS S.on.length (l.getD k ⟨⟨0,0⟩,0⟩)) hls rfl hov),Om,trivial⟩ (by show l.length-(k+1)<l.length-k;omega)
 refine cT ?_
 obtain rfl:k=l.length:=by omega
 rw[aaY]at hls
 refine Zr<|Zv (cz rfl dV rfl f)<|Zy (cA rfl rfl dV rfl d rfl (by exact pl (dr.one (cH.sl hlv))) λbl H aO=> ?_)
 replace hB:=Zg hB H A
 replace hlv:=cH.grownAt hlv d H Dd
 replace hls:=gf.grownAt hls d H Dd
 replace d:=aO
 refine ZZ rfl<|Zt<|ex rfl dV d rfl (v1:= .int .i64 0) rfl ⟨hB,?_⟩
 (rw[if_pos ⟨hr,hm⟩,if_pos (by omega)];exact⟨_,_,rfl,hlv,hls⟩)
end
section
theorem dU:eb Tryz.prog 203 1=some 1:=by kernel_rfl
theorem eM:eN Tryz.prog 201=true:=by kernel_rfl
theorem dG:fj Tryz.prog 201=some (35,1,24):=by kernel_rfl
theorem iA:eb Tryz.prog 203 0=some 0:=by kernel_rfl
theorem nn:eN Tryz.prog 83=true:=by kernel_rfl
theorem TN:cY Tryz.prog 178=true:=by kernel_rfl
theorem zE:eN Tryz.prog 218=true:=by kernel_rfl
theorem G2:na Tryz.prog 218=some (9,4):=by kernel_rfl
theorem JP:qV Tryz.prog 9 (λv=>∃a:List UInt8,v=ea a):=by
  refine pD Tryz.underlying9 ?_ ?_ ?_ ?_
  · rintro w _ _ ⟨a,rfl⟩ ⟨c,rfl⟩
    refine⟨_,run_equalIn_string w 9999 9 _ _ Tryz.underlying9,by rw[beq_iff_eq,ByteArray.toList_eq];simp[ea]⟩
  · rintro _ _ ⟨a,rfl⟩ ⟨c,rfl⟩
    exact .inr ⟨_,rfl,by rw[Gj];simp[ea]⟩
  · rintro w em _ ⟨a,rfl⟩
    have h2:∀k,(Instr.checkKey em (k+1) 9 (ea a)).run Tryz.prog w= .ok () w:=λk=>by
      simp[ea,Instr.checkKey,run_underlying Tryz.underlying9]
    exact h2 9999
  · rintro _ ⟨a,rfl⟩
    exact(Gj a a).2 rfl
theorem Q2:cY Tryz.prog 179=true:=by kernel_rfl
theorem jJ:(d4 Tryz.prog 35).map (λz=>z.cells.size)=some 1:=by kernel_rfl
theorem gv:d4 Tryz.prog 203=some (.agg #[.int .i64 0, .slice none 0 0]):=by kernel_rfl
theorem Am:(Tryz.prog.info? 201).map (·.size)=some 1:=by kernel_rfl
theorem qH:
    (execOp (dm f) ⟨d, .build 203 #[],ty,ps,af,g⟩).run Tryz.prog w= .ok (.value (.agg #[.int .i64 0, .slice none 0 0])) w:=by
  obtain⟨i0,hi0,hz0⟩:=we.1 (show (Tryz.prog.info? 203).bind (·.zero)=_ from gv)
  obtain⟨j3,hj3,hs3⟩:=an.1 fL
  obtain⟨j201,hj201,hs201⟩:=an.1 Am
  simp[execOp,Instr.build,zeroValue,typeInfo,sizeOf,hi0,hz0,run_underlying Tryz.underlying203,Instr.fill,d7,hj3,hs3,hj201,hs201]
theorem df:kn Tryz.prog 203=some 2:=by kernel_rfl
theorem V2:d4 Tryz.prog 57=some (.slice none 0 0):=by kernel_rfl
theorem kw (h0:dm f x0=c0_0) (k0:c0_0.cells= #[c0_0]):
    (execOp (dm f) ⟨d, .build 203 #[(0,x0)],ty,ps,af,g⟩).run Tryz.prog w= .ok (.value (.agg #[c0_0, .slice none 0 0])) w:=by
  obtain⟨i0,hi0,hz0⟩:=we.1 (show (Tryz.prog.info? 203).bind (·.zero)=_ from gv)
  obtain⟨j3,hj3,hs3⟩:=an.1 fL
  obtain⟨j201,hj201,hs201⟩:=an.1 Am
  simp[execOp,h0,k0,Instr.build,zeroValue,typeInfo,sizeOf,hi0,hz0,run_underlying Tryz.underlying203,Instr.fill,d7,hj3,hs3,hj201,hs201]
theorem QZ:d4 Tryz.prog 218=some (.map none):=by kernel_rfl
theorem Uw:cY Tryz.prog 177=true:=by kernel_rfl
theorem kr (n:Int) (rv:Value) (vs:List Value) (L:List (List Int)) (w:World) (hrv:dr encV 1 w rv vs) (hll:LL w vs L) (hLb:L.length≤1000000) (hRb:∀i,(L.getD i []).length≤1000000):
    Fn Tryz.prog 181 #[.agg #[.int .i64 n,rv]] w λv w'=>v= .bool (dR n L):=by
 refine cK (n:=41) Tryz.func181 rfl rfl rfl λhB=> ?_
 have hvl:=hll.len
 refine Zr<|Zy (du (c:= #[_,_]) rfl rfl λg W3 p h a=> ?_)
 replace hB:=Ze hB h
 refine Zb rfl<|ct<|Zq<|Zr<|Zf rfl dU<|ZL rv rfl eM a rfl<|Zv (db (v:=rv) rfl (Below.slT hB hrv) dG)<|ZZ rfl<|cy ?_
 refine cW (σ:=(Nat)) [2,2,4,5,7,7,11,32] (λi=>[(11, .int .i64 (i:Int))]) (λi W=>(Below w.heap.size w W)∧(At W g _ 203)∧(i≤L.length)∧(∀q,q<i→pZ n (L.getD q [])=true)∧(True)) (λi=>L.length-i) (0) ⟨rfl,trivial⟩ ⟨hB,a,(me _),eO,trivial⟩ ?_
 rintro i r s ⟨hB,a,hi,hq,_⟩ t j
 refine Zr<|Zv (dq rfl rfl)<|ct<|Zq<|ZQ rfl (λl=> ?_) λl=> ?_
 refine cx<|Zq<|cy<|Zr<|Zv (dp (v:=rv) rfl (Below.slT hB hrv) rfl dG Om (by omega))<|Zv (cD (v:=(vs.getD i undef)) rfl fv (dr.cell (Below.slT hB hrv) fZ undef Om (by omega) 0 rfl)) ?_
 have b:dr dX 1 w ((vs.getD i undef)) (L.getD i []):=hll.get i (by omega)
 refine Zw (vs.getD i undef) rfl<|ct<|Zr<|ZZ rfl ?_
 have hRi:=hRb i
 refine Zr<|Zw (vs.getD i undef) rfl<|Zv (db (v:=(vs.getD i undef)) rfl (Below.slT hB b) cV)<|ZZ rfl<|cy ?_
 refine cW (σ:=(Nat)) [2,2,5,5,7,7,17,31] (λk=>[(17, .int .i64 (k:Int)),(5, .int .i64 (As (L.getD i []) k))]) (λk W=>(Below w.heap.size w W)∧(At W g _ 203)∧(k≤(L.getD i []).length)∧(∀q,q<k→0≤(L.getD i []).getD q 0∧(L.getD i []).getD q 0<n∧(0<q→(L.getD i []).getD (q-1) 0<(L.getD i []).getD q 0))∧(True)) (λk=>(L.getD i []).length-k) (0) ⟨rfl,rfl,trivial⟩ ⟨hB,a,(me _),eO,trivial⟩ ?_
 rintro k u x ⟨hB,a,hk,hq2,_⟩ y m
 refine Zr<|Zv (dq rfl rfl)<|ct<|Zq<|ZQ rfl (λo=> ?_) λo=> ?_
 refine cx<|Zq<|cy<|Zr<|Zv (dp (v:=(vs.getD i undef)) rfl (Below.slT hB b) rfl cV Om (by omega))<|Zv (cD (v:= .int .i64 _) rfl cR (dr.cell (Below.slT hB b) eD 0 Om (by omega) 0 rfl))<|ZZ rfl<|Zq<|Zr<|Zi rfl<|Zi rfl<|Zv (tW rfl rfl) ?_
 refine ZX rfl (λd=> ?_) λd=> ?_
 refine Zs<|Zs<|Zs<|Zs<|Zb rfl<|ct<|cN rfl<|Zr<|Zb rfl<|ct<|Zt<|cZ (v:= .bool false) rfl ⟨hB,?_⟩
 exact UO (i:=i) (k:=k) Om Om (λq hq=>(hq2 q hq).1) (.inl d)
 refine Zi rfl<|Zf rfl iA<|Zl rfl cR a rfl<|Zv (ky rfl rfl)<|Zb rfl<|ct<|ZQ rfl (λe=> ?_) λe=> ?_
 refine Zr<|Zb rfl<|ct<|Zt<|cZ (v:= .bool false) rfl ⟨hB,?_⟩
 exact UO (i:=i) (k:=k) Om Om (λq hq=>(hq2 q hq).1) (.inr e)
 refine cx<|cI<|Zi rfl<|ZZ rfl<|ZT rfl rfl rfl ?_
 exact m _ _ (k+1) Za ⟨rfl,rfl,trivial⟩ ⟨hB,a,Om,(St hq2 d e),trivial⟩ Zo
 refine cT<|ZT rfl rfl rfl ?_
 exact j _ _ (i+1) Za ⟨rfl,trivial⟩ ⟨hB,a,Om,(dT hq (jD.2 (λq hq=>hq2 q Om))),trivial⟩ Zo
 refine cT<|Zr<|Zf rfl iA<|Zl rfl cR a rfl<|Zv (ky rfl rfl)<|ZX rfl (λf=> ?_) λf=> ?_
 refine Zf rfl iA<|Zl rfl cR a rfl<|Zv (tW rfl rfl)<|Zb rfl<|Zb rfl<|ct<|Zt<|cZ (v:= .bool _) rfl ⟨hB,?_⟩
 obtain rfl:i=L.length:=by omega
 exact abK f hq
 refine Zs<|Zs<|Zs<|Zb rfl<|Zb rfl<|ct<|Zt<|cZ (v:= .bool false) rfl ⟨hB,?_⟩
 obtain rfl:i=L.length:=by omega
 exact abA f
theorem BA (xa xb:Value) (a b:List Int) (w:World) (ha:dr dX 1 w xa a) (hb:dr dX 1 w xb b) (hal:a.length≤1000000) (hbl:b.length≤1000000):
    Fn Tryz.prog 179 #[xa,xb] w λv w'=>v= .bool (fR a b):=by
 refine cK (n:=40) Tryz.func179 rfl rfl rfl λhB=> ?_
 refine Zr<|Zb rfl<|ct<|Zq<|Zr<|Zw xa rfl<|Zv (db (v:=xa) rfl (Below.slT hB ha) cV)<|Zw xb rfl<|Zv (db (v:=xb) rfl (Below.slT hB hb) cV)<|Zv (eV rfl rfl)<|ct<|ZQ rfl (λd=> ?_) λd=> ?_
 refine Zr<|Zw xa rfl<|Zv (db (v:=xa) rfl (Below.slT hB ha) cV)<|Zw xb rfl<|Zv (db (v:=xb) rfl (Below.slT hB hb) cV)<|Zv (dq rfl rfl)<|Zb rfl<|ct<|Zt<|cZ (v:= .bool _) rfl ⟨hB,?_⟩
 exact YA d
 refine cx<|Zq<|Zr<|Zw xa rfl<|Zv (db (v:=xa) rfl (Below.slT hB ha) cV)<|ZZ rfl<|cy ?_
 refine cW (σ:=(Nat)) [4,5,18,39] (λk=>[(18, .int .i64 (k:Int))]) (λk W=>(Below w.heap.size w W)∧(k≤a.length)∧(∀q,q<k→a.getD q 0=b.getD q 0)∧(True)) (λk=>a.length-k) (0) ⟨rfl,trivial⟩ ⟨hB,(me _),eO,trivial⟩ ?_
 rintro k l m ⟨hB,hk,hq,_⟩ o e
 refine Zr<|Zv (dq rfl rfl)<|ct<|Zq<|ZQ rfl (λf=> ?_) λf=> ?_
 refine cx<|Zq<|cy<|Zr<|Zi rfl<|ZZ rfl<|Zd dA λg h=> ?_
 replace hB:=Ze hB h
 have hS:=dA.refl g
 refine Tw 0 xa rfl rfl hS<|Ti 1 rfl rfl hS<|Tk 2 rfl (λ_ hq=>dp (v:=xa) rfl (hq.slT (Below.slT hB ha)) rfl cV Om (by omega)) hS<|Tk 3 rfl (λ_ hq=>cD (v:= .int .i64 _) rfl cR (dr.cell (hq.slT (Below.slT hB ha)) eD 0 Om (by omega) 0 rfl)) hS<|Tw 4 xb rfl rfl hS<|Ti 5 rfl rfl hS<|Tk 6 rfl (λ_ hq=>dp (v:=xb) rfl (hq.slT (Below.slT hB hb)) rfl cV Om (by omega)) hS<|Tk 7 rfl (λ_ hq=>cD (v:= .int .i64 _) rfl cR (dr.cell (hq.slT (Below.slT hB hb)) eD 0 Om (by omega) 0 rfl)) hS<|Tk 8 rfl (λ_ _=>eV rfl rfl) hS<|Td<|ZQ rfl (λc=> ?_) λc=> ?_
 refine Zd dA λi j=> ?_
 replace hB:=Ze hB j
 have hS:=dA.refl i
 refine Tw 0 xa rfl rfl hS<|Ti 1 rfl rfl hS<|Tk 2 rfl (λ_ hq=>dp (v:=xa) rfl (hq.slT (Below.slT hB ha)) rfl cV Om (by omega)) hS<|Tk 3 rfl (λ_ hq=>cD (v:= .int .i64 _) rfl cR (dr.cell (hq.slT (Below.slT hB ha)) eD 0 Om (by omega) 0 rfl)) hS<|Tw 4 xb rfl rfl hS<|Ti 5 rfl rfl hS<|Tk 6 rfl (λ_ hq=>dp (v:=xb) rfl (hq.slT (Below.slT hB hb)) rfl cV Om (by omega)) hS<|Tk 7 rfl (λ_ hq=>cD (v:= .int .i64 _) rfl cR (dr.cell (hq.slT (Below.slT hB hb)) eD 0 Om (by omega) 0 rfl)) hS<|Tk 8 rfl (λ_ _=>dq rfl rfl) hS<|Ty 9 rfl rfl hS<|Td<|Zt<|cZ (v:= .bool _) rfl ⟨hB,?_⟩
 exact aan (k:=k) Om Om hq c
 refine cx<|ZT rfl rfl rfl ?_
 exact e _ _ (k+1) Za ⟨rfl,trivial⟩ ⟨hB,Om,(dT hq (aaS c)),trivial⟩ Zo
 refine cT<|Zr<|Zb rfl<|ct<|Zt<|cZ (v:= .bool false) rfl ⟨hB,?_⟩
 exact Y0 (k:=k) Om Om hq
theorem C0 (xa:Value) (a:List Int) (w:World) (ha:dr dX 1 w xa a) (hal:a.length≤4000) (hsm:∀x,x∈a→0≤x∧x<65536):
    Fn Tryz.prog 178 #[xa] w λv w'=>v=ea (ld a):=by
 refine cK (n:=23) Tryz.func178 rfl rfl rfl λhB=> ?_
 refine Zr<|Zw (.string _) rfl<|ct<|Zr<|Zw (.slice none 0 0) rfl<|ct<|Zq<|Zr<|Zw xa rfl<|Zv (db (v:=xa) rfl (Below.slT hB ha) cV)<|ZZ rfl<|cy ?_
 refine cW (σ:=(Nat)×(Value)) [3,3,5,5,8,20] (λ(k,v0)=>[(8, .int .i64 (k:Int)),(3,v0)]) (λsg W=>match sg with|(k,v0)=>(Below w.heap.size w W)∧(cH yg 1 5 W w.heap.size v0 (sj (a.take k)))∧(k≤a.length)∧(True)) (λ(k,v0)=>a.length-k) ((0, .slice none 0 0)) ⟨rfl,rfl,trivial⟩ ⟨hB,cH.nil,(me _),trivial⟩ ?_
 rintro⟨k,v0⟩ p W9 ⟨hB,ho,hk,_⟩ q d
 refine Zr<|Zv (dq rfl rfl)<|ct<|Zq<|ZQ rfl (λe=> ?_) λe=> ?_
 refine cx<|Zq<|cy<|Zr<|Zv (dp (v:=xa) rfl (Below.slT hB ha) rfl cV Om (by omega))<|Zv (cD (v:= .int .i64 _) rfl cR (dr.cell (Below.slT hB ha) eD 0 Om (by omega) 0 rfl))<|ZZ rfl ?_
 have f:=(hsm (a.getD k 0) (dF (by omega))).1
 have hwl:(sj (a.take k)).length≤8000:=by rw[MF,aaX];omega
 refine cI<|Zw v0 rfl<|Zi rfl<|Zv (Wv rfl rfl f)<|Zv (Qq rfl Tryz.underlying3 Tryz.underlying5)<|Zi rfl<|Zv (Qq rfl Tryz.underlying3 Tryz.underlying5)<|Zy (Ir (u0:= .int .u8 _) (u1:= .int .u8 _) rfl rfl kD z8 rfl rfl Dd Dd λg r h i j=> ?_)
 have l:=ZO h hB
 have olt_ho:=adi ho
 obtain⟨hB,ho⟩:=i.k2 hB ho
 have m:=zT (enc:=yg) (sz:=1) (a0:=_) (a1:=_) j rfl rfl rfl rfl l
 refine Zy (jh (v:=v0) (v2:= .slice (some ⟨g,0,none⟩) 2 2) rfl rfl kD z8 Dd ho m.sl (Ex) (m3 hB) ix ix λc s o b t=> ?_)
 replace b:=cH.app (enc:=yg) rfl rfl rfl rfl b
 replace hB:=ZG hB o ho
 refine Zw c rfl<|ct<|ZT rfl rfl rfl ?_
 exact d _ _ ((k+1,c)) Za ⟨rfl,rfl,trivial⟩ ⟨hB,(by rw[←HL a k Om];exact b),Om,trivial⟩ (by show a.length-(k+1)<a.length-k;omega)
 refine cT ?_
 obtain rfl:k=a.length:=by omega
 rw[aaY]at ho
 refine Zr<|Zw v0 rfl<|Zv (qF (v:=v0) rfl ho.sl Tryz.underlying177 Tryz.underlying5 Tryz.underlying9)<|Zw (ea _) rfl<|ct<|Zt<|cZ (v:=ea _) rfl ⟨hB,?_⟩
 rfl
theorem aae (N o:Nat) (p n:Int) (l:List Rw) (ks:List (List Int)) (bl bp bmet bm bq b4 bs:Nat) (xl xp rv xq s1 s2:Value) (vs:List Value) (lq:List Int) (w:World) (hN0:N≤w.heap.size) (ho:o<8) (hp:0≤p∧p.toNat<2^n.toNat) (hl4:l.length≤4000) (hlr:iH l) (hrr:∀k,k<l.length→dS (l.getD k ⟨⟨0,0⟩,0⟩).c.m (l.getD k ⟨⟨0,0⟩,0⟩).c.v n=true) (hnd:ks.Nodup) (hkr:∀x,x∈ks→re l x) (hkl:ks.length≤2000) (hl:dr gz 3 w xl l) (hbl:At w bl #[xl] 83) (hbp:At w bp #[xp] 57) (hpo:cH eX 4 40 w N xp (wH l n l.length)) (hbm:At w bmet #[.map (some bq)] 218) (hq:dy ea Value.bool w bq (fC ((ks).map ld))) (d:At w b4 #[.int .i64 0, .slice none 0 0] 203) (hbs:At w bs #[.int .i64 n,s1,s2] 59) (hxq:cH dX 1 3 w N xq lq) (hmm:At w bm #[.int .i64 (l.length:Int),rv] 203) (hrv:cH encV 1 35 w N rv vs) (hLO:LO 3 N w vs (iK ks)) (lom:N≤bm) (loq:N≤bq) (hne:b4≠bm):
    lk Tryz.prog 177 #[.int .i64 (o:Int), .int .i64 p, .pointer (some ⟨bl,0,none⟩), .pointer (some ⟨bp,0,none⟩), .pointer (some ⟨bmet,0,none⟩), .pointer (some ⟨bm,0,none⟩)] w λv w'=>Below N w w'∧At w' bl #[xl] 83∧At w' bp #[xp] 57∧cH eX 4 40 w' N xp (wH l n l.length)∧At w' bmet #[.map (some bq)] 218∧dy ea Value.bool w' bq (fC ((jm ks (tL l o p.toNat)).map ld))∧At w' b4 #[.int .i64 0, .slice none 0 0] 203∧At w' bs #[.int .i64 n,s1,s2] 59∧cH dX 1 3 w' N xq lq∧∃rv' vs',At w' bm #[.int .i64 (l.length:Int),rv'] 203∧cH encV 1 35 w' N rv' vs'∧LO 3 N w' vs' (iK (jm ks (tL l o p.toNat))):=by
 refine dL (n:=77) (N:=N) Tryz.func177 rfl rfl rfl λhB=> ?_
 have hpl:=GZ (l:=l) (n:=n) (am _)
 have hkl2:=B4 ks
 have hvl:=hLO.len
 have P:=hB
 replace hB:=Below.refl w.heap.size w
 refine Zr<|Zw (.slice none 0 0) rfl<|ct<|Zq<|Zr<|ZL xl rfl nn (On hB hbl) rfl<|Zv (db (v:=xl) rfl (Below.slT hB hl) dM)<|ZZ rfl<|cy ?_
 refine cW (σ:=(Nat)×(Value)) [8,10,15,38] (λ(k,v0)=>[(15, .int .i64 (k:Int)),(8,v0)]) (λsg W=>match sg with|(k,v0)=>(Below w.heap.size w W)∧(cH dX 1 3 W w.heap.size v0 (jS l o p.toNat k))∧(k≤l.length)∧(True)) (λ(k,v0)=>l.length-k) ((0, .slice none 0 0)) ⟨rfl,rfl,trivial⟩ ⟨hB,cH.nil,(me _),trivial⟩ ?_
 rintro⟨k,v0⟩ g9 W8 ⟨hB,ho,hk,_⟩ aM S
 refine Zr<|Zv (dq rfl rfl)<|ct<|Zq<|ZQ rfl (λai=> ?_) λai=> ?_
 refine cx<|Zq<|cy<|Zr<|Zi rfl<|Zv (dp (v:=xl) rfl (Below.slT hB hl) rfl dM Om (by omega))<|Zv (jb rfl dY (dr.cell (Below.slT hB hl) eC ⟨⟨0,0⟩,0⟩ Om (by omega) 0 rfl) (dr.cell (Below.slT hB hl) eC ⟨⟨0,0⟩,0⟩ Om (by omega) 1 rfl) (dr.cell (Below.slT hB hl) eC ⟨⟨0,0⟩,0⟩ Om (by omega) 2 rfl))<|Zy (cM jP rfl λaN aO aj ak Q=> ?_)
 have al:=ZO aj hB
 obtain⟨hB,ho⟩:=ak.k2 hB ho
 refine Zi rfl<|Zy (cA rfl rfl dY rfl Q rfl rfl λaP ag ao=> ?_)
 replace hB:=Zg hB ag al
 replace ho:=cH.grownAt ho Q ag Dd
 replace Q:=ao
 refine ct ?_
 obtain⟨aQ,aR,ap⟩:=hlr.get (k:=k) (by omega)
 refine Zr<|Zf rfl fG<|Zl rfl dN Q rfl<|Zi rfl<|Zv (ra rfl rfl Om (by simp only[IntKind.bits];omega))<|Zv (nh (n:=1) rfl rfl rfl (by show (l.getD k ⟨⟨0,0⟩,0⟩).o/2^((o:Nat):Int).toNat<256;exact ab8 (acz _ _) ap) Dd)<|Zv (dO rfl rfl)<|ZX rfl (λR=> ?_) λR=> ?_
 refine ZL xp rfl eh (On hB hbp) rfl<|Zi rfl<|Zv (dp (v:=xp) rfl ((Below.ow hB hpo)).sl rfl dQ Om (by omega))<|Zv (eI rfl cC (dr.cell ((Below.ow hB hpo)).sl dk 0 Om (by omega) 0 rfl) (dr.cell ((Below.ow hB hpo)).sl dk 0 Om (by omega) 1 rfl) (dr.cell ((Below.ow hB hpo)).sl dk 0 Om (by omega) 2 rfl) (dr.cell ((Below.ow hB hpo)).sl dk 0 Om (by omega) 3 rfl))<|Zi rfl<|ZC (vs:=[.agg #[_,_,_,_], .int .i64 _]) Nr (Ca _ _ _) rfl λaS aT aq ar=> ?_
 obtain⟨hB,ho⟩:=aq.k2 hB ho
 obtain rfl:=ar
 refine Zb rfl<|ct<|ZQ rfl (λT=> ?_) λT=> ?_
 have hrl:=wE l o p.toNat k
 refine cI<|Zw v0 rfl<|Zi rfl<|Zy (ez (u:= .int .i64 _) rfl cV eP rfl Dd Dd λau aU aV av aw=> ?_)
 obtain⟨hB,ho⟩:=av.k2 hB ho
 refine Zy (dP (v:=v0) (v2:= .slice (some ⟨au,0,none⟩) 1 1) rfl rfl cV eP Dd ho (eJ aw rfl) rfl (m3 hB) (by omega) (by omega) λah aW ax U=> ?_)
 replace U:=cH.snoc (enc:=dX) (x:=_) rfl rfl rfl rfl U
 replace hB:=ZG hB ax ho
 refine Zw ah rfl<|ct<|ZT rfl rfl rfl ?_
 exact S _ _ ((k+1,ah)) Za ⟨rfl,rfl,trivial⟩ ⟨hB,(by (rw[←aaa (k:=k) (o:=o) Om (hrr k Om) hp R T];exact U)),Om,trivial⟩ (by show l.length-(k+1)<l.length-k;omega)
 refine cx<|ZT rfl rfl rfl ?_
 exact S _ _ ((k+1,v0)) Za ⟨rfl,rfl,trivial⟩ ⟨hB,(by (rw[←Vq (k:=k) (o:=o) Om (hrr k Om) hp R T];exact ho)),Om,trivial⟩ (by show l.length-(k+1)<l.length-k;omega)
 refine Zs<|Zs<|Zs<|Zs<|Zs<|Zs<|Zb rfl<|ct<|dE rfl<|cx<|cI<|Zv (d5 rfl rfl Om Om)<|Zi rfl ?_
 refine ct ?_
 exact S _ _ ((k+1,v0)) Za ⟨rfl,rfl,trivial⟩ ⟨hB,(by (rw[←VD (k:=k) (o:=o) R];exact ho)),Om,trivial⟩ (by show l.length-(k+1)<l.length-k;omega)
 refine cT ?_
 obtain rfl:k=l.length:=by omega
 have hro:re l (tL l o p.toNat):=⟨o,p.toNat,rfl⟩
 have hrl:=wE l o p.toNat l.length
 refine Zr<|Zw v0 rfl<|ZC TN (C0 _ (jS l o p.toNat l.length) _ ho.sl Om (hro.small hl4)) rfl λaX aY ay az=> ?_
 obtain⟨hB,ho⟩:=ay.k2 hB ho
 obtain rfl:=az
 refine Zw (.string _) rfl<|ct<|Zq<|Zr<|ZL (.map (some bq)) rfl zE (On hB hbm) rfl<|Zw (.string _) rfl<|Zv (fX (enc:=ea) (encV:=Value.bool) (v0:=false) (k:=(ld (tL l o p.toNat))) rfl rfl G2 JP (λa=>⟨a,rfl⟩) Gn rg rfl (ac1 hB hq))<|ct<|ZQ rfl (λV=> ?_) λV=> ?_
 refine lV ?_
 replace hbl:=On hB hbl
 replace hbp:=On hB hbp
 replace hpo:=Below.ow hB hpo
 replace hbm:=On hB hbm
 replace hq:=ac1 hB hq
 replace d:=On hB d
 replace hbs:=On hB hbs
 replace hxq:=Below.ow hB hxq
 replace hmm:=On hB hmm
 replace hrv:=Below.ow hB hrv
 replace hLO:=LO.below hB hLO
 have hzs:=go hN0 (Below.size P)
 replace hB:=Below.trans P (Below.mono hB hzs)
 repeat (first|refine dZ ?_|refine dI ?_)
 refine ob ?_
 have hin:tL l o p.toNat∈ks:=(vr hl4 hkr hro).1 (uS V)
 rw[Mc hin]
 exact⟨hB,hbl,hbp,hpo,hbm,hq,d,hbs,hxq,rv,vs,hmm,hrv,hLO⟩
 refine cx ?_
 replace hbl:=On hB hbl
 replace hbp:=On hB hbp
 replace hpo:=Below.ow hB hpo
 replace hbm:=On hB hbm
 replace hq:=ac1 hB hq
 replace d:=On hB d
 replace hbs:=On hB hbs
 replace hxq:=Below.ow hB hxq
 replace hmm:=On hB hmm
 replace hrv:=Below.ow hB hrv
 replace hLO:=LO.below hB hLO
 have hzs:=go hN0 (Below.size P)
 replace ho:=cH.mono ho hzs
 replace hB:=Below.trans P (Below.mono hB hzs)
 have hnr:tL l o p.toNat∉ks:=λh=>rE V ((vr hl4 hkr hro).2 h)
 refine Zr<|ZL (.map (some bq)) rfl zE hbm rfl<|Zw (.string _) rfl ?_
 refine gU (dd:=none) rfl rfl rfl (fN (enc:=ea) (encV:=Value.bool) (k:=(ld (tL l o p.toNat))) (v:=true) rfl rfl rfl G2 JP (λa=>⟨a,rfl⟩) Gn hq (λaZ B aA=> ?_))
 replace hbl:=At.grownMap hbl hq B
 replace hbp:=At.grownMap hbp hq B
 replace hpo:=cH.grownMap hpo hq B
 replace hbm:=At.grownMap hbm hq B
 replace d:=At.grownMap d hq B
 replace hbs:=At.grownMap hbs hq B
 replace hxq:=cH.grownMap hxq hq B
 replace hmm:=At.grownMap hmm hq B
 replace hrv:=cH.grownMap hrv hq B
 replace hLO:=LO.grownMap hLO hq B
 replace hB:=dg hB B hN0 (λj hj=>by cases hj;exact loq)
 replace ho:=cH.grownMap ho hq B
 replace hq:=aA
 rw[kb,MS hl4 hkr hro]at hq
 refine ct<|Zr<|Zf rfl dU<|ZL rv rfl eM hmm rfl<|Zv (db (v:=rv) rfl hrv.sl dG)<|ZZ rfl<|Zq<|cy ?_
 refine cW (σ:=(Nat)) [12,12,49,62] (λi=>[(12, .int .i64 (i:Int))]) (λi W=>(At W bl _ 83)∧(At W bp _ 57)∧(cH eX 4 40 W N xp _)∧(At W bmet _ 218)∧(dy ea Value.bool W bq _)∧(At W b4 _ 203)∧(At W bs _ 59)∧(cH dX 1 3 W N xq _)∧(At W bm _ 203)∧(cH encV 1 35 W N rv _)∧(LO 3 N W vs (iK ks))∧(Below N w W)∧(cH dX 1 3 W N v0 _)∧(i≤(iK ks).length)∧(∀q,i≤q→q<(iK ks).length→fR (tL l o p.toNat) ((iK ks).getD q [])=true)∧(True)) (λi=>i) ((iK ks).length) ⟨congrArg (λq:Nat=>Value.int .i64 (q:Int)) hvl,trivial⟩ ⟨hbl,hbp,hpo,hbm,hq,d,hbs,hxq,hmm,hrv,hLO,hB,ho,(am _),(λq h1 h2=>by omega),trivial⟩ ?_
 rintro i a0 aB ⟨hbl,hbp,hpo,hbm,hq,d,hbs,hxq,hmm,hrv,hLO,hB,ho,hi,hq2,_⟩ a1 aC
 refine Zq ?_
 have hsl:=PP hkr (i-1)
 refine Zr<|Zi rfl<|Zv (gQ rfl rfl)<|ZX rfl (λaD=> ?_) λaD=> ?_
 refine Zw v0 rfl<|Zf rfl dU<|ZL rv rfl eM hmm rfl<|Zi rfl<|Zv (jY rfl rfl Om Om)<|Zv (dp (v:=rv) rfl hrv.sl rfl dG Om (by omega))<|Zv (cD (v:=(vs.getD ((i:Int)-1).toNat undef)) rfl fv (dr.cell hrv.sl fZ undef Om (by omega) 0 rfl)) ?_
 have E:dr dX 1 aB ((vs.getD ((i:Int)-1).toNat undef)) ((iK ks).getD (i-1) []):=(by rw[show ((i:Int)-1).toNat=i-1 by omega];exact(LO.ll hLO).get (i-1) (by omega))
 refine ZC Q2 (BA _ _ _ _ _ ho.sl E (by omega) (by omega)) rfl λa2 a3 X aE=> ?_
 obtain⟨hbl,hbp,hpo,hbm,hq,d,hbs,hxq,hmm,hrv,hLO⟩:=X.k11 hbl hbp hpo hbm hq d hbs hxq hmm hrv hLO
 replace hB:=cX hB X hN0
 obtain⟨ho,E⟩:=X.k2 ho E
 obtain rfl:=aE
 refine Zb rfl<|ct<|ZQ rfl (λY=> ?_) λY=> ?_
 refine cx<|cy<|cI<|Zi rfl<|Zv (jY rfl rfl Om Om)<|ZZ rfl ?_
 exact aC _ _ (i-1) Za ⟨congrArg (Value.int .i64) (by omega:(i:Int)-1=((i-1:Nat):Int)),trivial⟩ ⟨hbl,hbp,hpo,hbm,hq,d,hbs,hxq,hmm,hrv,hLO,hB,ho,Om,(λq h1 h2=>if e:q=i-1 then by rw[e];exact Y else hq2 q Om h2),trivial⟩ Zo
 refine cT ?_
 have hput:=N4 (i:=i) hnd hnr hi hq2 (λh0=>by exact Y)
 have hC:vs.length≤jn rv:=(Sl.eqv hrv.sl).2.1
 have hone:=LO.one hLO
 refine eR dA fx (λZ aa=> ?_)
 obtain⟨hbl,hbp,hpo,hbm,hq,d,hbs,hxq,hmm,hrv,hLO⟩:=aa.k11 hbl hbp hpo hbm hq d hbs hxq hmm hrv hLO
 replace hB:=cX hB aa hN0
 obtain⟨ho,E⟩:=aa.k2 ho E
 have hS:=dA.refl Z
 refine Tf 0 rfl rfl dU hS<|Tk 1 rfl (λ_ hq=>cD (v:=rv) rfl eM (At.cell (hq.at hmm) rfl)) hS<|Ti 2 rfl rfl hS<|Ti 3 rfl rfl hS<|Tk 4 rfl (λ_ hq=>nM (v:=rv) rfl ((hq.ow hrv)).sl dG rfl rfl Om Om Om) hS ?_
 have f:dr encV 1 Z (fY 1 rv 0 i i) ((vs.drop 0).take (i-0)):=ady fZ hrv.sl (by omega) (by omega) (by omega) (by omega)
 refine Tw 5 v0 rfl rfl hS<|Tf 7 rfl rfl dU hS<|Tk 8 rfl (λ_ hq=>cD (v:=rv) rfl eM (At.cell (hq.at hmm) rfl)) hS<|Ti 9 rfl rfl hS<|Tk 10 rfl (λ_ hq=>nL (v:=rv) rfl ((hq.ow hrv)).sl dG rfl Om Om) hS ?_
 have g:dr encV 1 Z (fY 1 rv i vs.length (jn rv)) ((vs.drop i).take (vs.length-i)):=ady fZ hrv.sl (by omega) (by omega) (by omega) (by omega)
 refine To 6 rfl (ez (u:=v0) rfl dG jJ (by rw[dr.cells ho.sl];rfl) Dd Dd λt a4 G H I=>⟨.inl (hS.trans H),?_⟩)
 have ab:N≤t:=G▸(go hN0 (Below.size hB))
 have J:=go (dA.size hS) (aaR G.symm)
 have aF:=acm (b:=t) hrv (aaR G.symm)
 have aG:=adN (b:=t) f (aaR G.symm)
 have aH:=adN (b:=t) g (aaR G.symm)
 obtain⟨hbl,hbp,hpo,hbm,hq,d,hbs,hxq,hmm,hrv,hLO⟩:=H.k11 hbl hbp hpo hbm hq d hbs hxq hmm hrv hLO
 replace hB:=cX hB H hN0
 obtain⟨ho,E,f,g⟩:=H.k4 ho E f g
 replace hS:=hS.trans H
 rw[dr.cells ho.sl]at I
 have z:=jf (enc:=encV) (a:=v0) I rfl rfl ab
 refine To 11 rfl (dP (v:= .slice (some ⟨t,0,none⟩) 1 1) (v2:=fY 1 rv i vs.length (jn rv)) rfl rfl dG jJ Dd z g ((F7 hone)) (m3 hB) ix ix λac a5 r F=>⟨.inl (dg hS r (am _) (λj hj=>by have e:t=j:=aaK hj;rw[←e];exact J)),?_⟩)
 replace hS:dA _ _:=dg hS r (am _) (λj hj=>by have e:t=j:=aaK hj;rw[←e];exact J)
 replace F:=cH.app (enc:=encV) rfl rfl rfl rfl F
 replace hbl:=At.grownOw hbl z r Dd
 replace hbp:=At.grownOw hbp z r Dd
 replace hpo:=cH.grownOw hpo z r Dd
 replace hbm:=At.grownOw hbm z r Dd
 replace hq:=dy.grownOw hq z r
 replace d:=At.grownOw d z r Dd
 replace hbs:=At.grownOw hbs z r Dd
 replace hxq:=cH.grownOw hxq z r Dd
 replace hmm:=At.grownOw hmm z r Dd
 replace hLO:=LO.grownOw hLO z r Dd
 replace hB:=dg hB r hN0 (λj hj=>(cH.lt z j hj))
 replace ho:=cH.grownOw ho z r Dd
 replace f:=adB f aG r
 replace g:=adB g aH r
 refine To 12 rfl (ke (N:=N) (v:=fY 1 rv 0 i i) (v2:=ac) rfl rfl dG jJ f (tj ix) F.sl fF (go hN0 (Below.size hB)) ix ix λad a6 K y=>⟨.inl (hS.trans K),?_⟩)
 replace y:=cH.app (enc:=encV) rfl rfl rfl rfl y
 obtain⟨hbl,hbp,hpo,hbm,hq,d,hbs,hxq,hmm,hLO⟩:=K.k10 hbl hbp hpo hbm hq d hbs hxq hmm hLO
 replace hB:=cX hB K hN0
 obtain⟨ho,f,g⟩:=K.k3 ho f g
 replace hS:=hS.trans K
 refine Tf 13 rfl rfl dU hS<|To 14 rfl (de (v:=ad) rfl rfl eM (dr.one y.sl) hmm fF λa7 C aI=>⟨.inr jW,?_⟩)
 replace hbl:=At.grownAt hbl hmm C Dd
 replace hbp:=At.grownAt hbp hmm C Dd
 replace hpo:=cH.grownAt hpo hmm C Dd
 replace hbm:=At.grownAt hbm hmm C Dd
 replace hq:=dy.grownAt hq hmm C
 replace d:=At.grownNe d hne C
 replace hbs:=At.grownAt hbs hmm C Dd
 replace hxq:=cH.grownAt hxq hmm C Dd
 replace hLO:=LO.grownAt hLO hmm C Dd
 replace hB:=dg hB C hN0 (λj hj=>by cases hj;exact lom)
 replace ho:=cH.grownAt ho hmm C Dd
 replace y:=cH.grownAt y hmm C Dd
 replace hmm:=aI
 replace hmm:At _ _ #[_,_] _:=hmm
 refine Td ?_
 repeat (first|refine eS ?_|refine eA ?_)
 refine eB ?_
 repeat (first|refine dZ ?_|refine dI ?_)
 refine ob ?_
 rw[←hput]
 rw[List.drop_zero,Nat.sub_zero,EX]at y
 exact⟨hB,hbl,hbp,hpo,hbm,hq,d,hbs,hxq,_,_,hmm,y,LO.put (i:=i) hLO ho hi⟩
 refine Zs<|Zs<|Zs<|Zs<|Zs<|Zs<|Zs<|Zs<|Zb rfl<|ct<|dE rfl<|cT ?_
 have hput:=N4 (i:=i) hnd hnr hi hq2 (λh0=>by omega)
 have hC:vs.length≤jn rv:=(Sl.eqv hrv.sl).2.1
 have hone:=LO.one hLO
 refine eR dA fx (λae af=> ?_)
 obtain⟨hbl,hbp,hpo,hbm,hq,d,hbs,hxq,hmm,hrv,hLO⟩:=af.k11 hbl hbp hpo hbm hq d hbs hxq hmm hrv hLO
 replace hB:=cX hB af hN0
 replace ho:=af.ow ho
 have hS:=dA.refl ae
 refine Tf 0 rfl rfl dU hS<|Tk 1 rfl (λ_ hq=>cD (v:=rv) rfl eM (At.cell (hq.at hmm) rfl)) hS<|Ti 2 rfl rfl hS<|Ti 3 rfl rfl hS<|Tk 4 rfl (λ_ hq=>nM (v:=rv) rfl ((hq.ow hrv)).sl dG rfl rfl Om Om Om) hS ?_
 have f:dr encV 1 ae (fY 1 rv 0 i i) ((vs.drop 0).take (i-0)):=ady fZ hrv.sl (by omega) (by omega) (by omega) (by omega)
 refine Tw 5 v0 rfl rfl hS<|Tf 7 rfl rfl dU hS<|Tk 8 rfl (λ_ hq=>cD (v:=rv) rfl eM (At.cell (hq.at hmm) rfl)) hS<|Ti 9 rfl rfl hS<|Tk 10 rfl (λ_ hq=>nL (v:=rv) rfl ((hq.ow hrv)).sl dG rfl Om Om) hS ?_
 have g:dr encV 1 ae (fY 1 rv i vs.length (jn rv)) ((vs.drop i).take (vs.length-i)):=ady fZ hrv.sl (by omega) (by omega) (by omega) (by omega)
 refine To 6 rfl (ez (u:=v0) rfl dG jJ (by rw[dr.cells ho.sl];rfl) Dd Dd λt a8 L M I=>⟨.inl (hS.trans M),?_⟩)
 have ab:N≤t:=L▸(go hN0 (Below.size hB))
 have J:=go (dA.size hS) (aaR L.symm)
 have aF:=acm (b:=t) hrv (aaR L.symm)
 have aJ:=adN (b:=t) f (aaR L.symm)
 have aK:=adN (b:=t) g (aaR L.symm)
 obtain⟨hbl,hbp,hpo,hbm,hq,d,hbs,hxq,hmm,hrv,hLO⟩:=M.k11 hbl hbp hpo hbm hq d hbs hxq hmm hrv hLO
 replace hB:=cX hB M hN0
 obtain⟨ho,f,g⟩:=M.k3 ho f g
 replace hS:=hS.trans M
 rw[dr.cells ho.sl]at I
 have A:=jf (enc:=encV) (a:=v0) I rfl rfl ab
 refine To 11 rfl (dP (v:= .slice (some ⟨t,0,none⟩) 1 1) (v2:=fY 1 rv i vs.length (jn rv)) rfl rfl dG jJ Dd A g ((F7 hone)) (m3 hB) ix ix λac a9 s F=>⟨.inl (dg hS s (am _) (λj hj=>by have e:t=j:=aaK hj;rw[←e];exact J)),?_⟩)
 replace hS:dA _ _:=dg hS s (am _) (λj hj=>by have e:t=j:=aaK hj;rw[←e];exact J)
 replace F:=cH.app (enc:=encV) rfl rfl rfl rfl F
 replace hbl:=At.grownOw hbl A s Dd
 replace hbp:=At.grownOw hbp A s Dd
 replace hpo:=cH.grownOw hpo A s Dd
 replace hbm:=At.grownOw hbm A s Dd
 replace hq:=dy.grownOw hq A s
 replace d:=At.grownOw d A s Dd
 replace hbs:=At.grownOw hbs A s Dd
 replace hxq:=cH.grownOw hxq A s Dd
 replace hmm:=At.grownOw hmm A s Dd
 replace hLO:=LO.grownOw hLO A s Dd
 replace hB:=dg hB s hN0 (λj hj=>(cH.lt A j hj))
 replace ho:=cH.grownOw ho A s Dd
 replace f:=adB f aJ s
 replace g:=adB g aK s
 refine To 12 rfl (ke (N:=N) (v:=fY 1 rv 0 i i) (v2:=ac) rfl rfl dG jJ f (tj ix) F.sl fF (go hN0 (Below.size hB)) ix ix λad ba O y=>⟨.inl (hS.trans O),?_⟩)
 replace y:=cH.app (enc:=encV) rfl rfl rfl rfl y
 obtain⟨hbl,hbp,hpo,hbm,hq,d,hbs,hxq,hmm,hLO⟩:=O.k10 hbl hbp hpo hbm hq d hbs hxq hmm hLO
 replace hB:=cX hB O hN0
 obtain⟨ho,f,g⟩:=O.k3 ho f g
 replace hS:=hS.trans O
 refine Tf 13 rfl rfl dU hS<|To 14 rfl (de (v:=ad) rfl rfl eM (dr.one y.sl) hmm fF λbb D aL=>⟨.inr jW,?_⟩)
 replace hbl:=At.grownAt hbl hmm D Dd
 replace hbp:=At.grownAt hbp hmm D Dd
 replace hpo:=cH.grownAt hpo hmm D Dd
 replace hbm:=At.grownAt hbm hmm D Dd
 replace hq:=dy.grownAt hq hmm D
 replace d:=At.grownNe d hne D
 replace hbs:=At.grownAt hbs hmm D Dd
 replace hxq:=cH.grownAt hxq hmm D Dd
 replace hLO:=LO.grownAt hLO hmm D Dd
 replace hB:=dg hB D hN0 (λj hj=>by cases hj;exact lom)
 replace ho:=cH.grownAt ho hmm D Dd
 replace y:=cH.grownAt y hmm D Dd
 replace hmm:=aL
 replace hmm:At _ _ #[_,_] _:=hmm
 refine Td ?_
 repeat (first|refine eS ?_|refine eA ?_)
 refine eB ?_
 repeat (first|refine dZ ?_|refine dI ?_)
 refine ob ?_
 rw[←hput]
 rw[List.drop_zero,Nat.sub_zero,EX]at y
 exact⟨hB,hbl,hbp,hpo,hbm,hq,d,hbs,hxq,_,_,hmm,y,LO.put (i:=i) hLO ho hi⟩
theorem DI (S:Sp) (onV mayV:Value) (xa:Value) (l:List Rw) (w:World) (hon:dr eX 4 w onV S.on) (hmay:dr eX 4 w mayV S.may) (hl:dr gz 3 w xa l) (hlb:l.length≤1000000) (hlr:iH l):
    Fn Tryz.prog 146 #[.agg #[.int .i64 S.n,onV,mayV],xa] w λv w'=>if Ey S l=0 then ∃rv vs,v= .tuple #[.agg #[.int .i64 (l.length:Int),rv], .int .i64 0]∧cH encV 1 35 w' w.heap.size rv vs∧LO 3 w.heap.size w' vs (mL S l)else v= .tuple #[.agg #[.int .i64 0, .slice none 0 0], .int .i64 (Ey S l)]:=by
 refine cK (n:=76) Tryz.func146 rfl rfl rfl λhB=> ?_
 refine Zr<|Zy (du (c:= #[_,_,_]) rfl rfl λP W3 bk ah d=> ?_)
 replace hB:=Ze hB ah
 refine Zy (du (v:=xa) (c:= #[xa]) rfl (dr.cells (Below.slT hB hl)) λB W6 bl ai f=> ?_)
 obtain⟨hB,d⟩:=ai.k2 hB d
 refine Zy (cM gv rfl λQ W9 aj ak a=> ?_)
 have R:=ZO aj hB
 obtain⟨hB,d,f⟩:=ak.k3 hB d f
 refine ZZ rfl<|Zq<|Zr<|Zv (cz rfl d9 rfl d)<|ZC (vs:=[.agg #[_,_,_]]) oN (iQ S _ _ _ (Below.slT hB hon) (Below.slT hB hmay)) rfl λbm bn al ao=> ?_
 obtain⟨hB,d,f,a⟩:=al.k4 hB d f a
 obtain rfl:=ao
 refine Zv (eK rfl)<|ct<|ZQ rfl (λV=> ?_) λV=> ?_
 refine Zr<|Zv (qH)<|Zy (cA rfl rfl df rfl a rfl rfl λbo ap aq=> ?_)
 replace hB:=Zg hB ap R
 replace a:=aq
 refine ZZ rfl<|Zt<|ex rfl df a rfl (v1:= .int .i64 1) rfl ⟨hB,?_⟩
 rw[Y4 (by rw[kh V];decide),if_neg (by decide)]
 refine cx ?_
 have hr:dt S=true:=lA V
 obtain⟨h0,h8,h1,h5,h6,_⟩:=dw.1 hr
 refine Zr<|Zy (cM V2 rfl λC bp ar au g=> ?_)
 have av:=ZO ar hB
 obtain⟨hB,d,f,a⟩:=au.k4 hB d f a
 refine ct<|Zq<|Zr<|ZL xa rfl nn f rfl<|Zv (db (v:=xa) rfl (Below.slT hB hl) dM)<|ZZ rfl<|cy ?_
 refine cW (σ:=(Nat)×(Value)) [5,5,8,10,24,44] (λ(k,vp)=>[(24, .int .i64 (k:Int))]) (λsg W=>match sg with|(k,vp)=>(Below w.heap.size w W)∧(At W P _ 59)∧(At W B _ 83)∧(At W Q _ 203)∧(At W C #[vp] 57)∧(cH eX 4 40 W w.heap.size vp (wH l S.n k))∧(k≤l.length)∧(∀q,q<k→dS (l.getD q ⟨⟨0,0⟩,0⟩).c.m (l.getD q ⟨⟨0,0⟩,0⟩).c.v S.n=true)∧(True)) (λ(k,vp)=>l.length-k) ((0, .slice none 0 0)) ⟨rfl,trivial⟩ ⟨hB,d,f,a,g,cH.nil,(me _),eO,trivial⟩ ?_
 rintro⟨k,vp⟩ bq br ⟨hB,d,f,a,g,hpo,hk,hq,_⟩ bs aw
 refine Zr<|Zv (dq rfl rfl)<|ct<|Zq<|ZQ rfl (λax=> ?_) λax=> ?_
 refine cx<|Zq<|cy<|Zr<|Zv (dp (v:=xa) rfl (Below.slT hB hl) rfl dM Om (by omega))<|Zv (jb rfl dY (dr.cell (Below.slT hB hl) eC ⟨⟨0,0⟩,0⟩ Om (by omega) 0 rfl) (dr.cell (Below.slT hB hl) eC ⟨⟨0,0⟩,0⟩ Om (by omega) 1 rfl) (dr.cell (Below.slT hB hl) eC ⟨⟨0,0⟩,0⟩ Om (by omega) 2 rfl))<|Zy (cM jP rfl λbt bu ay az D=> ?_)
 have aA:=ZO ay hB
 obtain⟨hB,d,f,a,g,hpo⟩:=az.k6 hB d f a g hpo
 refine Zy (cA rfl rfl dY rfl D rfl rfl λbv J aB=> ?_)
 replace hB:=Zg hB J aA
 replace d:=At.grownAt d D J Dd
 replace f:=At.grownAt f D J Dd
 replace a:=At.grownAt a D J Dd
 replace g:=At.grownAt g D J Dd
 replace hpo:=cH.grownAt hpo D J Dd
 replace D:=aB
 refine ct ?_
 obtain⟨aC,aD,bw⟩:=hlr.get (k:=k) (by omega)
 refine Zr<|Zf rfl gD<|Zv (io rfl dh (At.cell D rfl) (At.cell D rfl))<|Zf rfl gn<|Zl rfl cR d rfl<|ZC (vs:=[.agg #[_,_], .int .i64 _]) zH (kx _ _ _ _ aC aD) rfl λbx bz aE aF=> ?_
 obtain⟨hB,d,f,a,g,hpo⟩:=aE.k6 hB d f a g hpo
 obtain⟨sa,er,rfl,hhP7_4⟩:=wu aF
 refine Zw (.tuple #[.agg #[_,_,_,_], .int .i64 _]) rfl<|Zv (c7 rfl)<|Zv (da rfl)<|Zy (cM ep rfl λZ aG aa aH E=> ?_)
 have aI:=ZO aa hB
 have aJ:=acm (b:=Z) hpo (aaR aa.symm)
 obtain⟨hB,d,f,a,g,hpo⟩:=aH.k6 hB d f a g hpo
 replace E:At aG Z #[wv 0 0,wv 0 1,wv 0 2,wv 0 3] 40:=E
 refine Zy (cA rfl rfl cC rfl E rfl rfl λbA K aK=> ?_)
 replace hB:=Zg hB K aI
 replace d:=At.grownAt d E K Dd
 replace f:=At.grownAt f E K Dd
 replace a:=At.grownAt a E K Dd
 replace g:=At.grownAt g E K Dd
 replace hpo:=ab3 hpo aJ K
 replace E:=aK
 refine ZZ rfl<|Zq<|Zr<|Zi rfl<|Zv (eV rfl rfl)<|ct<|ZQ rfl (λX=> ?_) λX=> ?_
 refine Zr<|Zv (qH)<|Zi rfl<|Zy (cA rfl rfl df rfl a rfl rfl λbB aL aM=> ?_)
 replace hB:=Zg hB aL R
 replace a:=aM
 refine ZZ rfl<|Zt<|ex rfl df a rfl (v1:= .int .i64 _) rfl ⟨hB,?_⟩
 obtain⟨hrr,her⟩:=hhP7_4.resolve_left (λh=>X h.2.2)
 rw[aaA (k:=k) (by omega) (λq=>by have:=hrr.symm.trans q;cases this),if_neg (by decide),her]
 refine cx ?_
 obtain⟨hrr,hsa,_⟩:=hhP7_4.resolve_right (λh=>X (λe=>by rw[h.2]at e;cases e))
 subst hsa
 have hpl:=GZ (l:=l) (n:=S.n) (k:=k) (by omega)
 refine cI<|ZL vp rfl eh g rfl<|Zv (cz rfl cC rfl E)<|Zy (ez (u:= .agg #[_,_,_,_]) rfl dQ qe rfl Dd Dd λaN bC bD aO aP=> ?_)
 obtain⟨hB,d,f,a,g,hpo⟩:=aO.k6 hB d f a g hpo
 refine Zy (dP (v:=vp) (v2:= .slice (some ⟨aN,0,none⟩) 1 1) rfl rfl dQ qe Dd hpo (eJ aP rfl) rfl (m3 hB) (by omega) (by omega) λab bE N L=> ?_)
 replace L:=cH.snoc (enc:=eX) (x:=(rj (l.getD k ⟨⟨0,0⟩,0⟩).c.m (l.getD k ⟨⟨0,0⟩,0⟩).c.v S.n.toNat)) rfl rfl rfl rfl L
 replace hB:=ZG hB N hpo
 replace d:=At.grownOw d hpo N Dd
 replace f:=At.grownOw f hpo N Dd
 replace a:=At.grownOw a hpo N Dd
 replace g:=At.grownOw g hpo N Dd
 refine Zy (de (v:=ab) rfl rfl eh (dr.one L.sl) g fF λbF O aQ=> ?_)
 replace hB:=Zg hB O av
 replace d:=At.grownAt d g O Dd
 replace f:=At.grownAt f g O Dd
 replace a:=At.grownAt a g O Dd
 replace L:=cH.grownAt L g O Dd
 replace g:=aQ
 replace g:At _ _ #[_] _:=g
 refine ct<|ZT rfl rfl rfl ?_
 exact aw _ _ ((k+1,ab)) Za ⟨rfl,trivial⟩ ⟨hB,d,f,a,g,(by rw[←Mn Om];exact L),Om,(dT hq hrr),trivial⟩ (by show l.length-(k+1)<l.length-k;omega)
 refine cT<|Zq ?_
 obtain rfl:k=l.length:=by omega
 refine Zr<|ZL xa rfl nn f rfl<|Zv (db (v:=xa) rfl (Below.slT hB hl) dM)<|Zv (gQ rfl rfl)<|ct<|ZQ rfl (λaR=> ?_) λaR=> ?_
 refine Zr<|Zv (qH)<|Zy (cA rfl rfl df rfl a rfl rfl λbG aS aT=> ?_)
 replace hB:=Zg hB aS R
 replace a:=aT
 refine ZZ rfl<|Zt<|ex rfl df a rfl (v1:= .int .i64 3) rfl ⟨hB,?_⟩
 rw[Y5 hr hq (by omega),if_neg (by decide)]
 refine cx<|Zr<|ZL xa rfl nn f rfl<|Zv (db (v:=xa) rfl (Below.slT hB hl) dM)<|Zv (kw (h0:=rfl) (k0:=rfl) (c0_0:= .int .i64 _))<|Zy (cM gv rfl λF bH ac aU j=> ?_)
 have ad:=ZO ac hB
 have ae:=Zn ac a.lt
 obtain⟨hB,d,f,a,g,hpo⟩:=aU.k6 hB d f a g hpo
 refine Zy (cA rfl rfl df rfl j rfl rfl λbI M aV=> ?_)
 replace hB:=Zg hB M ad
 replace d:=At.grownAt d j M Dd
 replace f:=At.grownAt f j M Dd
 replace a:=At.grownNe a ae M
 replace g:=At.grownAt g j M Dd
 replace hpo:=cH.grownAt hpo j M Dd
 replace j:=aV
 refine ct<|Zr<|Zy (hU (enc:=ea) (encV:=Value.bool) λT bJ aW aX t=> ?_)
 have aY:=ZO aW hB
 obtain⟨hB,d,f,a,g,hpo,j⟩:=aX.k7 hB d f a g hpo j
 replace t:dy ea Value.bool _ _ (fC (([]:List (List Int)).map ld)):=t
 refine Zy (cM QZ rfl λG bK aZ a0 r=> ?_)
 have a1:=ZO aZ hB
 obtain⟨hB,d,f,a,g,hpo,j,t⟩:=a0.k8 hB d f a g hpo j t
 refine Zy (de (v:= .map (some T)) rfl rfl zE rfl r Lp λbL H a2=> ?_)
 replace hB:=Zg hB H a1
 replace d:=At.grownAt d r H Dd
 replace f:=At.grownAt f r H Dd
 replace a:=At.grownAt a r H Dd
 replace g:=At.grownAt g r H Dd
 replace hpo:=cH.grownAt hpo r H Dd
 replace j:=At.grownAt j r H Dd
 replace t:=dy.grownAt t r H
 replace r:=a2
 replace r:At _ _ #[_] _:=r
 refine ct<|Zr<|Zv (eU (vs:= #[.pointer (some ⟨B,0,none⟩), .pointer (some ⟨C,0,none⟩), .pointer (some ⟨G,0,none⟩), .pointer (some ⟨F,0,none⟩)]) Bi)<|Zw (.func (.func 177) #[] #[.pointer (some ⟨B,0,none⟩), .pointer (some ⟨C,0,none⟩), .pointer (some ⟨G,0,none⟩), .pointer (some ⟨F,0,none⟩)]) rfl<|ct<|Zq<|Zr<|Zf rfl fw<|ZL onV rfl eh d rfl<|Zv (db (v:=onV) rfl (Below.slT hB hon) dQ)<|ZZ rfl<|cy ?_
 refine cW (σ:=(Nat)×(Value)×(List Value)) [14,15,17,17,57,74] (λ(o,rv,vs)=>[(57, .int .i64 (o:Int))]) (λsg W=>match sg with|(o,rv,vs)=>(Below w.heap.size w W)∧(At W P _ 59)∧(At W B _ 83)∧(At W Q _ 203)∧(At W C _ 57)∧(cH eX 4 40 W w.heap.size vp _)∧(At W G _ 218)∧(dy ea Value.bool W T (fC ((lj S l o).map ld)))∧(At W F #[.int .i64 (l.length:Int),rv] 203)∧(cH encV 1 35 W w.heap.size rv vs)∧(LO 3 w.heap.size W vs (iK (lj S l o)))∧(o≤S.on.length)∧(True)) (λ(o,rv,vs)=>S.on.length-o) ((0, .slice none 0 0,[])) ⟨rfl,trivial⟩ ⟨hB,d,f,a,g,hpo,r,t,j,cH.nil,LO.nil,(me _),trivial⟩ ?_
 rintro⟨o,rv,vs⟩ bM bN ⟨hB,d,f,a,g,hpo,r,t,j,hrv,hLO,ho,_⟩ bO a3
 refine Zr<|Zv (dq rfl rfl)<|ct<|Zq<|ZQ rfl (λa4=> ?_) λa4=> ?_
 refine cx<|Zq<|cy<|Zr<|Zi rfl<|Zv (dp (v:=onV) rfl (Below.slT hB hon) rfl dQ Om (by omega))<|Zv (eI rfl cC (dr.cell (Below.slT hB hon) dk 0 Om (by omega) 0 rfl) (dr.cell (Below.slT hB hon) dk 0 Om (by omega) 1 rfl) (dr.cell (Below.slT hB hon) dk 0 Om (by omega) 2 rfl) (dr.cell (Below.slT hB hon) dk 0 Om (by omega) 3 rfl))<|Zy (cM ep rfl λaf a5 ag a6 y=> ?_)
 have a7:=ZO ag hB
 have a8:=acm (b:=af) hpo (aaR ag.symm)
 obtain⟨hB,d,f,a,g,hpo,r,t,j,hrv,hLO⟩:=a6.k11 hB d f a g hpo r t j hrv hLO
 replace y:At a5 af #[wv 0 0,wv 0 1,wv 0 2,wv 0 3] 40:=y
 refine Zi rfl<|Zy (cA rfl rfl cC rfl y rfl rfl λbP z a9=> ?_)
 replace hB:=Zg hB z a7
 replace d:=At.grownAt d y z Dd
 replace f:=At.grownAt f y z Dd
 replace a:=At.grownAt a y z Dd
 replace g:=At.grownAt g y z Dd
 replace hpo:=ab3 hpo a8 z
 replace r:=At.grownAt r y z Dd
 replace t:=dy.grownAt t y z
 replace j:=At.grownAt j y z Dd
 replace hrv:=cH.grownAt hrv y z Dd
 replace hLO:=LO.grownAt hLO y z Dd
 replace y:=a9
 refine ct<|Zr<|Zv (cz rfl cC rfl y)<|ZC (vs:=[.agg #[_,_,_,_]]) uP (n4 (S.on.getD o 0) _) rfl λU bQ ba A=> ?_
 have bb:=(Below.size hB)
 obtain⟨hB,d,f,a,g,hpo,r,t,j,hrv,hLO,y⟩:=ba.k12 hB d f a g hpo r t j hrv hLO y
 replace A:=cH.mono A bb
 refine Zv (db (v:=U) rfl A.sl cV)<|ZZ rfl<|cy ?_
 refine cW (σ:=(Nat)×(Value)×(List Value)) [17,17,65,73] (λ(k,rv2,I)=>[(65, .int .i64 (k:Int))]) (λsg W=>match sg with|(k,rv2,I)=>(Below w.heap.size w W)∧(At W P _ 59)∧(At W B _ 83)∧(At W Q _ 203)∧(At W C _ 57)∧(cH eX 4 40 W w.heap.size vp _)∧(At W G _ 218)∧(cH dX 1 3 W w.heap.size U _)∧(dy ea Value.bool W T (fC ((vR l o (ej (S.on.getD o 0)) (lj S l o) k).map ld)))∧(At W F #[.int .i64 (l.length:Int),rv2] 203)∧(cH encV 1 35 W w.heap.size rv2 I)∧(LO 3 w.heap.size W I (iK (vR l o (ej (S.on.getD o 0)) (lj S l o) k)))∧(k≤(ej (S.on.getD o 0)).length)∧(True)) (λ(k,rv2,I)=>(ej (S.on.getD o 0)).length-k) ((0,rv,vs)) ⟨rfl,trivial⟩ ⟨hB,d,f,a,g,hpo,r,A,t,j,hrv,hLO,(me _),trivial⟩ ?_
 rintro⟨k,rv2,I⟩ bR bS ⟨hB,d,f,a,g,hpo,r,A,t,j,hrv2,hLO2,hk,_⟩ bT bc
 refine Zr<|Zv (dq rfl rfl)<|ct<|Zq<|ZQ rfl (λbd=> ?_) λbd=> ?_
 refine cx<|Zq<|cy<|Zr<|Zv (dp (v:=U) rfl A.sl rfl cV Om (by omega))<|Zv (cD (v:= .int .i64 _) rfl cR (dr.cell A.sl eD 0 Om (by omega) 0 rfl))<|ZZ rfl ?_
 have hls:=mv (S.on.getD o 0)
 obtain⟨p,bf,hpb,hpe⟩:=mq (s:=S.on.getD o 0) (i:=k) (by omega)
 have bg:0≤(ej (S.on.getD o 0)).getD k 0∧((ej (S.on.getD o 0)).getD k 0).toNat<2^S.n.toNat:=by rw[hpe];exact⟨by omega,by rw[my];exact UC hr (by omega) hpb bf⟩
 refine cI<|Zw (.func (.func 177) #[] #[.pointer (some ⟨B,0,none⟩), .pointer (some ⟨C,0,none⟩), .pointer (some ⟨G,0,none⟩), .pointer (some ⟨F,0,none⟩)]) rfl<|Zi rfl<|Zi rfl ?_
 refine mZ (dd:=some 72) rfl rfl rfl (iu (q:=177) (first:= #[]) (cap:= #[.pointer (some ⟨B,0,none⟩), .pointer (some ⟨C,0,none⟩), .pointer (some ⟨G,0,none⟩), .pointer (some ⟨F,0,none⟩)]) (vs:= #[.int .i64 _, .int .i64 _, .pointer (some ⟨B,0,none⟩), .pointer (some ⟨C,0,none⟩), .pointer (some ⟨G,0,none⟩), .pointer (some ⟨F,0,none⟩)]) rfl Uw Hh) (aae w.heap.size o ((ej (S.on.getD o 0)).getD k 0) S.n l (vR l o (ej (S.on.getD o 0)) (lj S l o) k) B C G F T Q P xa _ rv2 U _ _ I (ej (S.on.getD o 0)) _ (Below.size hB) Om bg Om hlr hq (uC (xE S l o) k) (λx hx=>Um hx) (NE Om Om) (Below.slT hB hl) f g hpo r t a d A j hrv2 hLO2 ad aY ae) (λbU bV bh=> ?_)
 obtain⟨hBt,f,g,hpo,r,t,a,d,A,rv3,bi,j,hrv3,hLO3⟩:=bh
 replace hB:=Below.trans hB hBt
 refine ct<|ZT rfl rfl rfl ?_
 exact bc _ _ ((k+1,rv3,bi)) Za ⟨rfl,trivial⟩ ⟨hB,d,f,a,g,hpo,r,A,(by exact t),j,hrv3,hLO3,Om,trivial⟩ (by show (ej (S.on.getD o 0)).length-(k+1)<(ej (S.on.getD o 0)).length-k;omega)
 refine cT ?_
 obtain rfl:k=(ej (S.on.getD o 0)).length:=by omega
 refine ZT rfl rfl rfl ?_
 exact a3 _ _ ((o+1,rv2,I)) Za ⟨rfl,trivial⟩ ⟨hB,d,f,a,g,hpo,r,(by exact t),j,hrv2,hLO2,Om,trivial⟩ (by show S.on.length-(o+1)<S.on.length-o;omega)
 refine cT ?_
 obtain rfl:o=S.on.length:=by omega
 refine Zr<|Zv (cz rfl df rfl j)<|Zy (cA rfl rfl df rfl a rfl (by simp only[acL,adj,cH.one hrv,acx];rfl) λbW Y bj=> ?_)
 replace hB:=Zg hB Y R
 replace hrv:=cH.grownAt hrv a Y Dd
 replace hLO:=LO.grownAt hLO a Y Dd
 replace a:=bj
 refine ZZ rfl<|Zt<|ex rfl df a rfl (v1:= .int .i64 0) rfl ⟨hB,?_⟩
 rw[if_pos (U5 hr hq (by omega))]
 exact⟨_,_,rfl,hrv,hLO⟩
end
end Go.Proofs.YtedeonkjellcpaaGreatDoor
