/- What is needed for more deeds with families: what single items cost, and how a deed of many steps stands. No program in it. Members above and below those of another family: item by item. No program in it. What a walk through two families may cost. No program in it. Walks through two families: what i -/
import Derived.Test.YtedeonkjellcpaaGreatDoorT1
namespace Go.Proofs.YtedeonkjellcpaaGreatDoor
set_option linter.unusedVariables false
set_option linter.unusedSimpArgs false
section
section
open Go Go.RowKit
theorem Ix (i:Nat):∀n lv,P2 n lv (2^i)≤1∧(i<lv→P2 n lv (2^i)=0)
 |0,_=>⟨my _,λ_=>rfl⟩
 |n+1,lv=>by
  obtain⟨h1,h2⟩:=Ix i n (lv+1)
  rw[P2,abh]
  by_cases h:i=lv
  ·subst h
   rw[decide_eq_true rfl,if_pos rfl,h2 (acj i)]
   exact⟨am _,λk=>absurd k (Nat.lt_irrefl _)⟩
  ·rw[decide_eq_false h,if_neg (by decide)]
   exact⟨by omega,λk=>by rw[h2 (by omega)]⟩
theorem SI (i:Nat):yf 0 [((2^i:Nat):Int)]≤1:=by
 have h:=(Ix i (24-0) 0).1
 have e:yf 0 [((2^i:Nat):Int)]=P2 (24-0) 0 (((2^i:Nat):Int)).toNat+0:=rfl
 rw[so]at e
 omega
section
variable {ns ns':List Nd} {f g i:Nat}
def Cy (ns:List Nd) (g i:Nat):Prop:=∀x,x∈dA ns g↔x=2^i
theorem Cy.node (h:Wf ns) (hg:g<ns.length+2) (hi:i<24) (hs:Cy ns g i):2≤g∧dV ns g=i∧dI ns g i=0∧d8 ns g i=1:=by
 have hm:2^i∈dA ns g:=(hs _).2 rfl
 have h2:2≤g:=by
  rcases abO g 2 with k|k
  ·exfalso
   have e:g=0∨g=1:=by omega
   rcases e with rfl|rfl
   ·rw[og]at hm;cases hm
   ·rw[qw,aaL]at hm
    have:=abo i
    omega
  ·exact k
 have h24:=oX h hg h2
 have H:=iy h hg (am _) h24
 have hl:dV ns g=i:=by
  have hB:d8 ns g (dV ns g)≠0:=by
   obtain⟨j,rfl⟩:∃j,g=j+2:=⟨g-2,by omega⟩
   unfold d8
   rw[if_pos ⟨by omega,rfl⟩,ab5]
   exact(h.ok j (by omega)).2.2.1
  obtain⟨y,hy⟩:=ja h _ H.vb hB
  have e:=(hs _).1 ((H.mem _).2 (.inr ⟨y,hy,rfl⟩))
  have hb:=kI (ib H.lb (fj h _ H.vb y hy).1)
  rw[e,abh]at hb
  exact(of_decide_eq_true hb).symm
 rw[hl]at H
 refine⟨h2,hl,?_,?_⟩
 ·rcases Nat.eq_zero_or_pos (dI ns g i)with k|k
  ·exact k
  ·exfalso
   obtain⟨y,hy⟩:=ja h _ H.va (by omega)
   have e:=(hs _).1 ((H.mem _).2 (.inl hy))
   have hb:=gk (ib H.la (fj h _ H.va y hy).1)
   rw[e,abh]at hb
   exact absurd hb fD
 ·refine UU h _ H.vb 1 (by omega) λx=> ?_
  rw[qw,aaL]
  constructor
  ·intro hx
   have e:=(hs _).1 ((H.mem _).2 (.inr ⟨x,hx,rfl⟩))
   omega
  ·rintro rfl
   rcases(H.mem _).1 hm with k|⟨y,hy,e⟩
   ·exfalso
    have hb:=gk (ib H.la (fj h _ H.va _ k).1)
    rw[abh]at hb
    exact absurd hb fD
   ·have:y=0:=by omega
    rw[←this];exact hy
theorem uO {n:Nat} (h:(GE f g).2=true):AD n ns f g=0:=by
 cases n with
 |zero=>rfl
 |succ n=>rw[AD,if_pos h]
theorem QY (h:Wf ns) (hf:f<ns.length+2) (hg:g<ns.length+2) (hi:i<24) (hs:Cy ns g i) (hl:i<dV ns f):ra ns f g≤1:=by
 obtain⟨g2,gl,gA,gB⟩:=hs.node h hg hi
 unfold ra
 cases he:(GE f g).2 with
 |true=>rw[uO he];omega
 |false=>
  obtain⟨n,hn⟩:∃n,25-min (dV ns f) (dV ns g)=n+1:=⟨24-min (dV ns f) (dV ns g),by omega⟩
  have e:min (dV ns f) (dV ns g)=i:=by omega
  have fA:dI ns f i=f:=if_neg (λk=>by omega)
  have fB:d8 ns f i=0:=if_neg (λk=>by omega)
  rw[hn,AD,if_neg (by rw[he];decide),e,fA,fB,gA,gB]
  have e0:∀x,(GE x 0).2=true:=λx=>by unfold GE;rw[if_pos (.inr rfl)]
  have e1:∀x,(GE 0 x).2=true:=λx=>by unfold GE;rw[if_pos (.inl rfl)]
  have e2:(GE f 1).2=true:=by
   unfold GE
   split
   ·rfl
   ·split
    ·rfl
    ·rfl
  rw[uO (e0 f),uO (e0 0),uO e2,uO (e1 1)]
  unfold P6 uJ
  rw[og]
  simp
structure yh (ns ns':List Nd) (R c:Nat) (e:Int):Prop where
 pre:ns<+:ns'
 st:(e=0∧ns'.length≤ns.length+c)∨(e=5∧R≤ns.length+c)
variable {ns1 ns2:List Nd} {R c c1 c2 l id:Nat} {e e1 er:Int} {S:Nat→Prop}
theorem yh.refl:yh ns ns R 0 0:=⟨ab6 _, .inl ⟨rfl,by omega⟩⟩
theorem yh.mono (h:yh ns ns' R c e) (hc:c≤c2):yh ns ns' R c2 e:=⟨h.pre,h.st.imp (λk=>⟨k.1,by omega⟩) (λk=>⟨k.1,by omega⟩)⟩
theorem yh.ers (h:yh ns ns' R c e):e=0∨e=5:=h.st.imp (·.1) (·.1)
theorem yh.ok (h:yh ns ns' R c e) (hR:ns.length+c<R):e=0∧ns'.length≤ns.length+c:=by
 rcases h.st with k|k
 ·exact k
 ·omega
def iW (e er:Int):Int:=if e=0 then er else e
def kB (e er:Int) (id:Nat):Nat:=if iW e er=0 then id else 0
theorem ix:iW e er=0↔e=0∧er=0:=by
 unfold iW
 by_cases h:e=0
 ·rw[if_pos h];exact⟨λk=>⟨h,k⟩,λk=>k.2⟩
 ·rw[if_neg h];exact⟨λk=>absurd k h,λk=>absurd k.1 h⟩
theorem ms (h:iW e er=0):kB e er id=id:=if_pos h
theorem qc (hv:id<ns.length+2):kB e er id<ns.length+2:=by
 unfold kB
 split
 ·exact hv
 ·omega
theorem yh.did (h:yh ns ns1 R c e) (g:ke ns1 ns2 R c1 l S id er) (hc:e=0→c1≤c2):yh ns ns2 R (c+c2) (iW e er):=by
 refine⟨h.pre.trans g.pre,?_⟩
 have gc:=g.cost
 rcases h.st with ⟨h1,h2⟩|⟨h1,h2⟩
 ·have:=hc h1
  rcases g.res with ⟨k1,_⟩|⟨k1,_,k3⟩
  ·exact .inl ⟨ix.2 ⟨h1,k1⟩,by omega⟩
  ·refine .inr ⟨?_,by omega⟩
   unfold iW;rw[if_pos h1];exact k1
 ·refine .inr ⟨?_,by omega⟩
  unfold iW;rw[if_neg (by rw[h1];decide)];exact h1
theorem yh.step (h:yh ns ns1 R c e) (g:e=0→yh ns1 ns2 R c2 e1) (g5:¬e=0→ns1<+:ns2∧e1=e):yh ns ns2 R (c+c2) e1:=by
 rcases h.st with ⟨h1,h2⟩|⟨h1,h2⟩
 ·have k:=g h1
  refine⟨h.pre.trans k.pre,?_⟩
  rcases k.st with ⟨k1,k2⟩|⟨k1,k2⟩
  ·exact .inl ⟨k1,by omega⟩
  ·exact .inr ⟨k1,by omega⟩
 ·obtain⟨k1,k2⟩:=g5 (by rw[h1];decide)
  exact⟨h.pre.trans k1, .inr ⟨by rw[k2];exact h1,by omega⟩⟩
end
structure Wv (ns ns':List Nd) (R:Nat) (e e':Int) (f i id:Nat):Prop where
 v:id<ns'.length+2
 pre:ns<+:ns'
 sta:e=0→i<dV ns f→yh ns ns' R 2 e'
 err:¬e=0→e'=e
 m:e'=0→∀x,x∈dA ns' id↔nQ (M ns f) (·=2^i) x
theorem Xf {ns ns1 ns2:List Nd} {R f i l0 l1 idA idB:Nat} {e erA erB:Int} (hw1:Wf ns1) (gA:ke ns ns1 R (yf 0 [((1*2^i:Nat):Int)]) l0 (bS [((1*2^i:Nat):Int)] 0) idA erA) (gB:ke ns1 ns2 R (rH.cst ns1 f (kB e erA idA)) l1 (rH.res (M ns1 f) (M ns1 (kB e erA idA))) idB erB) (hf:f<ns.length+2) (hi:i<24):
  Wv ns ns2 R e (iW (iW e erA) erB) f i (kB (iW e erA) erB idB):=by
 rw[abd]at gA
 have p1:=gr gA.pre
 have hS:erA=0→Cy ns1 idA i:=λh x=>by
  rw[(gA.ok h).2.2 x]
  constructor
  ·rintro⟨m,hm,e⟩
   rw[aaL.1 hm,so,Jg]at e
   exact e
  ·rintro rfl
   exact⟨_,aaL.2 rfl,by rw[so,Jg]⟩
 refine⟨qc gB.valid,gA.pre.trans gB.pre,λhe hl=> ?_,λhe=> ?_,λh0 x=> ?_⟩
 ·subst he
  refine((yh.refl.did gA (c2:=1) (λ_=>SI i)).did gB (c2:=1) (λh=> ?_)).mono (by omega)
  rw[ms h]
  exact QY hw1 (by omega) gA.valid hi (hS (ix.1 h).2) (by rw[gZ gA.pre hf];exact hl)
 ·have h1:iW e erA=e:=if_neg he
  rw[h1];exact if_neg he
 ·obtain⟨h1,h2⟩:=ix.1 h0
  have k:=(gB.ok h2).2.2
  rw[ms h1,jd gA.pre hf]at k
  rw[ms h0,k x]
  have e2:M ns1 idA=(·=2^i):=fI (hS (ix.1 h1).2)
  rw[e2];rfl
def Wk (T:TypeId) (bw bz bd:Nat) (w:World):Prop:=∃e,At w bw #[.pointer (some ⟨bz,0,none⟩), .map (some bd), .int .i64 e] T
structure Dw (Tn T:TypeId) (N bw bz bd ba bm:Nat) (w w':World):Prop where
 dx:Dx Tn N [bw,bd,ba,bm] w w'
 wk:Wk T bw bz bd w→Wk T bw bz bd w'
section
variable {Ta Tn T:TypeId} {N bw bz bd ba bm R:Nat} {w w' w'':World} {ns ns':List Nd} {e e':Int}
theorem PO.dx {c l:Nat} {S:Nat→Prop} {v:Value} (h:PO Ta Tn N ba bm R w ns c l S v w'):Dx Tn N [ba,bm] w w':=by
 obtain⟨_,_,_,_,h,_⟩:=h;exact h
theorem PE.dx {ok:Bool} {c l:Nat} {S:Nat→Prop} {v:Value} (h:PE Ta Tn N ba bm R w ns ok c l S v w'):Dx Tn N [ba,bm] w w':=by
 obtain⟨_,_,_,_,h,_⟩:=h;exact h
theorem Dw.refl:Dw Tn T N bw bz bd ba bm w w:=⟨Dx.refl,id⟩
theorem Dw.trans (h:Dw Tn T N bw bz bd ba bm w w') (k:Dw Tn T N bw bz bd ba bm w' w''):Dw Tn T N bw bz bd ba bm w w'':=⟨h.dx.trans k.dx,λq=>k.wk (h.wk q)⟩
end
end
section
open Go Go.RowKit
theorem rx {ns:List Nd} (h:Wf ns) {f j:Nat} (hf:f<ns.length+2) (hj:j≤24) (hd:∀x,x∈dA ns f→2^j∣x):j≤dV ns f:=by
 rcases abO f 2 with k|k
 ·rw[mm k];exact hj
 ·rcases abO (dV ns f) j with q|q
  ·exfalso
   have H:=iy h hf (am _) (oX h hf k)
   have hB:d8 ns f (dV ns f)≠0:=by
    obtain⟨i,rfl⟩:∃i,f=i+2:=⟨f-2,by omega⟩
    unfold d8
    rw[if_pos ⟨by omega,rfl⟩,ab5]
    exact(h.ok i (by omega)).2.2.1
   obtain⟨y,hy⟩:=ja h _ H.vb hB
   have h1:=hd _ ((H.mem _).2 (.inr ⟨y,hy,rfl⟩))
   have h2:=kI (ib H.lb (fj h _ H.vb y hy).1)
   have h3:=gk (ib q h1)
   rw[h2]at h3;cases h3
  ·exact q
def wS (ab:Bool) (F G:Nat→Prop) (x:Nat):Prop:=F x∧∃y,G y∧(if ab=true then GO x y else GO y x)
theorem Md {F:Nat→Prop} {l:Nat} (hF:Q2 l F) (x:Nat):nQ F (·=2^l) x↔∃y,F y∧x=y+2^l:=by
 have key:∀y,F y→y ||| 2^l=y+2^l:=λy hy=>by
  have h:=(uk (hF y hy) (Nat.dvd_zero (2^(l+1)))).2.1
  rw[abP,Nat.or_zero]at h
  exact h
 constructor
 ·rintro⟨y,b,hy,rfl,rfl⟩
  exact⟨y,hy,key y hy⟩
 ·rintro⟨y,hy,rfl⟩
  exact⟨y,2^l,hy,rfl,(key y hy).symm⟩
end
section
open Go Go.RowKit
end
section
open Go Go.RowKit
structure DT (ab:Bool) (ns:List Nd) (p:Nd×Int):Prop where
 v1:p.1.l<ns.length+2
 v2:p.1.lo<ns.length+2
 id:∃id:Nat,p.2=(id:Int)∧id<ns.length+2∧∀x,x∈dA ns id↔wS ab (M ns p.1.l) (M ns p.1.lo) x
def P0 (ab:Bool) (ns:List Nd) (dl:List (Nd×Int)):Prop:=∀p,p∈dl→DT ab ns p
section
variable {ab:Bool} {ns ns':List Nd} {dl:List (Nd×Int)} {f g i id:Nat}
theorem DT.pre {p:Nd×Int} (hp:ns<+:ns') (h:DT ab ns p):DT ab ns' p:=by
 have hl:=gr hp
 obtain⟨id,h1,h2,h3⟩:=h.id
 refine⟨by have:=h.v1;omega,by have:=h.v2;omega,id,h1,by omega,?_⟩
 rw[jd hp h.v1,jd hp h.v2,ii hp h2]
 exact h3
theorem P0.pre (hp:ns<+:ns') (h:P0 ab ns dl):P0 ab ns' dl:=λp q=>(h p q).pre hp
end
section
variable {ab:Bool} {ns:List Nd} {R f g i id:Nat} {e:Int}
end
theorem kP {e e':Int} (err:¬e=0→e'=e) (h:e'=0):e=0:=by
 by_cases q:e=0
 ·exact q
 ·rw[err q]at h;exact h
end
section
open Go Go.RowKit
end
section
open Go Go.RowKit
section
variable {Ta Tn T T':TypeId} {N bw bz bd ba bm R b:Nat} {w w' w'':World} {ns:List Nd} {c cw:Array Value} {dl:List (Nd×Int)}
end
section
variable {ab:Bool} {ns ns1 ns2 ns3 ns4:List Nd} {R f g i fa fb ga gb idU ida lU cU:Nat} {e e1 e2 e4 erU:Int}
end
end
section
open Go Go.RowKit
section
variable {Ta Tn T T':TypeId} {N bw bz bd ba bm R b:Nat} {w w' w'':World} {ns ns':List Nd} {xs:List Nat}
def PW (Ta Tn:TypeId) (N ba bm R:Nat) (w:World) (ns:List Nd) (S:List Nd→Nat→Int→Prop) (v:Value) (w':World):Prop:=
 ∃(ns':List Nd) (id:Nat) (er:Int),v= .tuple #[.int .i64 (id:Int), .int .i64 er]∧Dx Tn N [ba,bm] w w'∧fJ Ta Tn N ba bm R w' ns'∧S ns' id er
end
end
end
section
open Go Go.RowKit
def tC:Nat→Nat
 |0=>0
 |k+1=>3*tC k+2*(2*k*3^k)+7
section
variable {ns ns' ns1 ns2 ns3 ns4:List Nd} {R f g i l:Nat}
theorem Ny (h:Wf ns) {g l:Nat} (hg:g<ns.length+2) (hl:l≤dV ns g) (h24:l<24) (ha:∀x,M ns g x→x.testBit l=true):dI ns g l=0:=by
 have H:=iy h hg hl h24
 refine Decidable.byContradiction λk=> ?_
 obtain⟨y,hy⟩:=ja h _ H.va k
 have h1:=ha y ((H.mem y).2 (.inl hy))
 rw[gk (ib H.la (fj h _ H.va y hy).1)]at h1
 cases h1
theorem wF {n f g:Nat} {en:Nat→Nat→Nat×Bool} (h:(en f g).2=true):cP en n ns f g=0:=by
 cases n with
 |zero=>rfl
 |succ n=>rw[cP,if_pos h]
theorem VY (g:Nat):(pJ.ends 0 g).2=true:=by show (S4 0 g).2=true;unfold S4;rw[if_pos (.inl rfl)]
theorem Dq (f:Nat):(pJ.ends f 0).2=true:=by
 show (S4 f 0).2=true
 grind [S4]
theorem HU (h:Wf ns) (hf:f<ns.length+2) (hg:g<ns.length+2) (hl:l<dV ns f) (hlg:l≤dV ns g) (h24:l<24) (ha:∀x,M ns g x→x.testBit l=true):pJ.cst ns f g≤1:=by
 show cE pJ.ends ns f g≤1
 by_cases he:(pJ.ends f g).2=true
 ·unfold cE;rw[wF he];omega
 ·have g0:¬g=0:=λe=>by subst e;exact he (Dq f)
  have hlv:dV ns g=l:=by
   obtain⟨x,hx⟩:=ja h g hg g0
   have h1:=ha x hx
   rcases abO l (dV ns g)with k|k
   ·rw[gk (ib k (fj h g hg x hx).1)]at h1;cases h1
   ·omega
  have hmin:min (dV ns f) (dV ns g)=l:=by omega
  have hA:=Ny h hg hlg h24 ha
  have hfB:d8 ns f l=0:=if_neg λk=>by omega
  unfold cE
  rw[hmin,show 25-l=(24-l)+1 by omega,cP,if_neg he,hmin,hA,hfB,wF (Dq _),wF (VY _)]
  omega
theorem WE (h:Wf ns) (hf:f<ns.length+2) (hg:g<ns.length+2) (hlf:l≤dV ns f) (hlg:l+1≤dV ns g) (h24:l+1<24) (hc:∀x,M ns f x→x.testBit l=false→2^(l+2)∣x) (ha:∀x,M ns g x→x.testBit (l+1)=true):pJ.cst ns f g≤2:=by
 rcases abO l (dV ns f)with k|k
 ·have:l+2≤dV ns f:=rx h hf (by omega) λx hx=>hc x hx (gk (ib k (fj h f hf x hx).1))
  have:=HU (l:=l+1) h hf hg (by omega) hlg h24 ha
  omega
 ·have hlv:dV ns f=l:=by omega
  show cE pJ.ends ns f g≤2
  by_cases he:(pJ.ends f g).2=true
  ·unfold cE;rw[wF he];omega
  ·have H:=iy h hf hlf (by omega)
   have hmin:min (dV ns f) (dV ns g)=l:=by omega
   have hgA:dI ns g l=g:=if_neg λq=>by omega
   have hgB:d8 ns g l=0:=if_neg λq=>by omega
   have hla:=H.la
   have hA:l+2≤dV ns (dI ns f l):=rx h H.va (by omega) λx hx=>hc x ((H.mem x).2 (.inl hx)) (gk (ib H.la (fj h _ H.va x hx).1))
   have k2:=HU (l:=l+1) h H.va hg (by omega) hlg h24 ha
   have k3:cE pJ.ends ns (dI ns f l) g≤1:=k2
   have k4:=C9 (en:=pJ.ends) (ns:=ns) (show 24-l≤24-l from am _) (dI ns f l) g
   have k5:cP pJ.ends (24-l) ns (dI ns f l) g≤1:=by
    by_cases he2:(pJ.ends (dI ns f l) g).2=true
    ·rw[wF he2];omega
    ·have g0:¬g=0:=λe=>by subst e;exact he (Dq f)
     have hlvg:dV ns g=l+1:=by
      obtain⟨x,hx⟩:=ja h g hg g0
      have h1:=ha x hx
      rcases abO (l+1) (dV ns g)with k|k
      ·rw[gk (ib k (fj h g hg x hx).1)]at h1;cases h1
      ·omega
     have hmin2:min (dV ns (dI ns f l)) (dV ns g)=l+1:=by omega
     have e:cE pJ.ends ns (dI ns f l) g=cP pJ.ends (24-l) ns (dI ns f l) g:=by
      unfold cE
      rw[hmin2,show 25-(l+1)=24-l by omega]
     rw[←e];exact k3
   unfold cE
   rw[hmin,show 25-l=(24-l)+1 by omega,cP,if_neg he,hmin,hgA,hgB,wF (Dq _)]
   omega
end
structure MR (ns ns':List Nd) (R:Nat) (e e':Int) (n i s id:Nat):Prop where
 v:id<ns'.length+2
 pre:ns<+:ns'
 sta:e=0→yh ns ns' R (tC (n-i)) e'
 err:¬e=0→e'=e
 m:e'=0→M ns' id=vR n s
 crd:e'=0→(dA ns' id).length≤3^(n-i)
theorem Ut {ns:List Nd} {R n i s:Nat} {e:Int} (he:¬e=0):MR ns ns R e e n i s 0:=⟨by omega,ab6 _,λh=>absurd h he,λ_=>rfl,λh=>absurd h he,λh=>absurd h he⟩
theorem aaP {ns:List Nd} {R n i s:Nat} {e:Int} (he:e=0) (h8:n≤8) (h:AF s 0=true):MR ns ns R e e n i s 0:=by
 refine⟨by omega,ab6 _,λ_=>⟨ab6 _, .inl ⟨he,by omega⟩⟩,λ_=>rfl,λ_=>fI λx=> ?_,λ_=> ?_⟩
 ·exact⟨λk=>absurd k (Nf ns x),λk=>absurd k (Ym h8 h x)⟩
 ·rw[og];exact my _
theorem aar {ns:List Nd} {R n i s:Nat} {e:Int} (he:e=0) (h8:n≤8) (h:AF s (fm n)=true):MR ns ns R e e n i s 1:=by
 refine⟨by omega,ab6 _,λ_=>⟨ab6 _, .inl ⟨he,by omega⟩⟩,λ_=>rfl,λ_=>fI λx=> ?_,λ_=> ?_⟩
 all_goals grind [Tz,dA,qw,List.mem_singleton,Nat.pow_pos]
def Sr (s i:Nat) (k:Nat):Nat:=cS s i (decide (k=1))
def C5 (s i:Nat):Nat:=cS s i false &&& cS s i true
def Ow (n s i k:Nat) (y:Nat):Prop:=vR n (Sr s i k) y∧¬vR n (C5 s i) y
def A5 (n s i k:Nat) (x:Nat):Prop:=vR n (C5 s i) x∨(1≤k∧∃y,Ow n s i 0 y∧x=y+2^(2*i))∨(2≤k∧∃y,Ow n s i 1 y∧x=y+2^(2*i+1))
theorem Pz {n s i:Nat}:A5 n s i 0=vR n (C5 s i):=fI λx=>⟨λh=>h.elim id λk=>k.elim (λq=>absurd q.1 (by decide)) λq=>absurd q.1 (by decide), .inl⟩
theorem UI {n s i:Nat} (h8:n≤8) (h:wX n s i) (hi:i<n):A5 n s i 2=vR n s:=fI λx=>by
 rw[KJ h8 h hi]
 unfold A5 Ow Sr C5
 constructor
 ·rintro(h|⟨_,h⟩|⟨_,h⟩)
  ·exact .inl h
  ·exact .inr (.inl h)
  ·exact .inr (.inr h)
 ·rintro(h|h|h)
  ·exact .inl h
  ·exact .inr (.inl ⟨by decide,h⟩)
  ·exact .inr (.inr ⟨by decide,h⟩)
theorem N3 {n s i k x:Nat} (hk:k<2):A5 n s i (k+1) x↔A5 n s i k x∨∃y,Ow n s i k y∧x=y+2^(2*i+k):=by
 have:k=0∨k=1:=by omega
 grind [A5]
theorem Hn {n s i:Nat} (h8:n≤8) (h:wX n s i) (hi:i<n) (k:Nat):wX n (Sr s i k) (i+1):=h.side h8 hi _
theorem IH {n s i:Nat} (h8:n≤8) (h:wX n s i) (hi:i<n):wX n (C5 s i) (i+1):=(h.side h8 hi false).and (h.side h8 hi true)
structure ZK (ns nsc:List Nd) (R:Nat) (n i s k:Nat) (ec:Int) (com out:Nat):Prop where
 vc:com<nsc.length+2
 vo:out<nsc.length+2
 pre:ns<+:nsc
 sta:yh ns nsc R (tC (n-(i+1))+k*(tC (n-(i+1))+2*(n-(i+1))*3^(n-(i+1))+2)+(if k=0 then 0 else if k=1 then 1 else 3)) ec
 mc:ec=0→M nsc com=vR n (C5 s i)
 cc:ec=0→(dA nsc com).length≤3^(n-(i+1))
 mo:ec=0→M nsc out=A5 n s i k
 co:ec=0→(dA nsc out).length≤(k+1)*3^(n-(i+1))
section
variable {ns nsc ns1 ns2 ns3 ns4:List Nd} {R n i s k com out idh idl idw ido lL lO:Nat} {ec e1 e3 erL erO:Int}
theorem Oz (p:MR ns ns1 R 0 e1 n (i+1) (C5 s i) com):ZK ns ns1 R n i s 0 e1 com com:=
 ⟨p.v,p.v,p.pre,(p.sta rfl).mono fD,p.m,p.crd,λz=>by rw[Pz];exact p.m z,λz=>by have:=p.crd z;omega⟩
theorem Q9 (h8:n≤8) (hs:wX n s i) (hi:i<n) (hk:k<2) (h:ZK ns nsc R n i s k ec com out) (hw1:Wf ns1) (hw2:Wf ns2) (hw3:Wf ns3) (hw4:Wf ns4)
  (p:MR nsc ns1 R ec e1 n (i+1) (Sr s i k) idh) (gL:ke ns1 ns2 R (w8.cst ns1 idh com) lL (w8.res (M ns1 idh) (M ns1 com)) idl erL) (q:Wv ns2 ns3 R (iW e1 erL) e3 (kB e1 erL idl) (2*i+k) idw)
  (gO:ke ns3 ns4 R (pJ.cst ns3 out idw) lO (pJ.res (M ns3 out) (M ns3 idw)) ido erO):ZK ns ns4 R n i s (k+1) (iW e3 erO) com (kB e3 erO ido):=by
 have p01:=gr p.pre
 have p12:=gr gL.pre
 have p23:=gr q.pre
 have p34:=gr gO.pre
 have hvc:=h.vc
 have hvo:=h.vo
 have hvh:=p.v
 have hvl:kB e1 erL idl<ns2.length+2:=qc gL.valid
 have hfc:=IH h8 hs hi
 have hfs:=Hn h8 hs hi k
 have i24:2*i+2≤24:=by omega
 have M1h:e1=0→M ns1 idh=vR n (Sr s i k):=p.m
 have M1c:e1=0→M ns1 com=vR n (C5 s i):=λz=>by rw[jd p.pre h.vc];exact h.mc (kP p.err z)
 have M2l:iW e1 erL=0→M ns2 (kB e1 erL idl)=Ow n s i k:=λz=>by
  obtain⟨z1,z2⟩:=ix.1 z
  rw[ms z,show M ns2 idl=w8.res (M ns1 idh) (M ns1 com) from fI (gL.ok z2).2.2,M1h z1,M1c z1]
  rfl
 have dv:∀y,Ow n s i k y→2^(2*i+2)∣y:=λy hy=>by
  have:=uF h8 hfs hy.1
  rwa [show 2*(i+1)=2*i+2 by omega]at this
 have dvk:∀y,Ow n s i k y→2^(2*i+k+1)∣y:=λy hy=>Nat.dvd_trans (acE 2 (by omega)) (dv y hy)
 have levO:Q2 (2*i+k) (Ow n s i k):=λy hy=>dvk y hy
 have M3w:e3=0→∀x,M ns3 idw x↔∃y,Ow n s i k y∧x=y+2^(2*i+k):=λz x=>by
  have z2:=kP q.err z
  have hq:=q.m z x
  rw[M2l z2]at hq
  exact hq.trans (Md levO x)
 have M3o:e3=0→M ns3 out=A5 n s i k:=λz=>by
  have z1:=(ix.1 (kP q.err z)).1
  rw[jd ((p.pre.trans gL.pre).trans q.pre) h.vo]
  exact h.mo (kP p.err z1)
 have tpP:∀{x s'},vR n s' x→x<2^(2*n):=λhx=>DJ h8 hx
 have cL:e1=0→w8.cst ns1 idh com≤2*(n-(i+1))*3^(n-(i+1)):=λz=>by
  have t1:tp ns1 idh≤2*n:=mA.2 λx hx=>tpP (by have hx':M ns1 idh x:=hx;rw[M1h z]at hx';exact hx')
  have t2:tp ns1 com≤2*n:=mA.2 λx hx=>tpP (by have hx':M ns1 com x:=hx;rw[M1c z]at hx';exact hx')
  have l1:2*i+2≤dV ns1 idh:=rx hw1 hvh i24 λx hx=>by
   have hx':M ns1 idh x:=hx
   rw[M1h z]at hx'
   have:=uF h8 hfs hx'
   rwa [show 2*(i+1)=2*i+2 by omega]at this
  have l2:2*i+2≤dV ns1 com:=rx hw1 (by omega) i24 λx hx=>by
   have hx':M ns1 com x:=hx
   rw[M1c z]at hx'
   have:=uF h8 hfc hx'
   rwa [show 2*(i+1)=2*i+2 by omega]at this
  refine go (Th hw1 G3.endF hvh (by omega) t1 t2) (acy (by omega) ?_)
  have:=p.crd z
  omega
 have lw:e3=0→2*i+k≤dV ns3 idw:=λz=>rx hw3 q.v (by omega) λx hx=>by
  obtain⟨y,hy,e⟩:=(M3w z x).1 hx
  rw[e]
  exact G8 (dvk y hy)
 have bw:e3=0→∀x,M ns3 idw x→x.testBit (2*i+k)=true:=λz x hx=>by
  obtain⟨y,hy,e⟩:=(M3w z x).1 hx
  rw[e]
  exact kI (dvk y hy)
 have oc:∀x,A5 n s i 0 x→2^(2*i+2)∣x:=λx hx=>by
  rw[Pz]at hx
  have:=uF h8 hfc hx
  rwa [show 2*(i+1)=2*i+2 by omega]at this
 have cO:e3=0→pJ.cst ns3 out idw≤k+1:=λz=>by
  have:k=0∨k=1:=by omega
  rcases this with rfl|rfl
  ·refine HU (l:=2*i) hw3 (by omega) q.v ?_ (lw z) (by omega) (bw z)
   have:2*i+2≤dV ns3 out:=rx hw3 (by omega) i24 λx hx=>oc x (by have hx':M ns3 out x:=hx;rw[M3o z]at hx';exact hx')
   omega
  ·have hou:∀x,M ns3 out x→A5 n s i 0 x∨∃y,Ow n s i 0 y∧x=y+2^(2*i+0):=λx hx=>by
    rw[M3o z]at hx
    exact(N3 (by decide)).1 hx
   have dv0:∀y,Ow n s i 0 y→2^(2*i+2)∣y:=λy hy=>by
    have:=uF h8 (Hn h8 hs hi 0) hy.1
    rwa [show 2*(i+1)=2*i+2 by omega]at this
   refine WE (l:=2*i) hw3 (by omega) q.v (rx hw3 (by omega) (by omega) λx hx=> ?_) (lw z) (by omega) (λx hx hb=> ?_) (bw z)
   ·rcases hou x hx with k|⟨y,hy,e⟩
    ·exact Nat.dvd_trans (acE 2 (by omega)) (oc x k)
    ·rw[e,ab7]
     exact G8 (Nat.dvd_trans (acE 2 (by omega)) (dv0 y hy))
   ·rcases hou x hx with k|⟨y,hy,e⟩
    ·exact oc x k
    ·rw[e,ab7,kI (Nat.dvd_trans (acE 2 (by omega)) (dv0 y hy))]at hb
     cases hb
 have s1:=h.sta.step p.sta (λz=>⟨p.pre,p.err z⟩)
 have s2:=s1.did gL cL
 have s3:=s2.step (c2:=2) (λz=>q.sta z (by
  have:2*i+k+1≤dV ns2 (kB e1 erL idl):=rx hw2 hvl (by omega) λx hx=>by
   have hx':M ns2 (kB e1 erL idl) x:=hx
   rw[M2l z]at hx'
   exact dvk x hx'
  omega)) (λz=>⟨q.pre,q.err z⟩)
 have s4:=s3.did gO cO
 have pall:=((p.pre.trans gL.pre).trans q.pre).trans gO.pre
 refine⟨by omega,qc gO.valid,h.pre.trans pall,s4.mono ?_,λz=> ?_,λz=> ?_,λz=>fI λx=> ?_,λz=> ?_⟩
 ·have:k=0∨k=1:=by omega
  rcases this with rfl|rfl
  ·simp;omega
  ·simp;omega
 ·have z1:=(ix.1 (kP q.err (ix.1 z).1)).1
  rw[jd pall hvc]
  exact h.mc (kP p.err z1)
 ·have z1:=(ix.1 (kP q.err (ix.1 z).1)).1
  rw[ii pall hvc]
  exact h.cc (kP p.err z1)
 ·obtain⟨z3,zO⟩:=ix.1 z
  rw[ms z,N3 hk]
  refine((gO.ok zO).2.2 x).trans ?_
  show (M ns3 out x∨M ns3 idw x)↔_
  rw[M3o z3,M3w z3]
 ·obtain⟨z3,zO⟩:=ix.1 z
  have z2:=kP q.err z3
  have z1:=(ix.1 z2).1
  rw[ms z]
  have h1:=O9 hw4 (gO.ok zO).1 (a:=out) (b:=idw) (ns:=ns3) λx hx=>((gO.ok zO).2.2 x).1 hx
  have h2:(dA ns3 idw).length≤(dA ns1 idh).length:=by
   have:=jC (l2:=(dA ns1 idh).map λy=>y+2^(2*i+k)) (kL hw3 idw q.v) λx hx=>by
    obtain⟨y,hy,e⟩:=(M3w z3 x).1 hx
    exact aa6.2 ⟨y,(show M ns1 idh y by rw[M1h z1];exact hy.1),e.symm⟩
   rw[aby]at this
   exact this
  have h3:=p.crd z1
  have h4:(dA ns3 out).length=(dA nsc out).length:=by rw[ii ((p.pre.trans gL.pre).trans q.pre) hvo]
  have h5:=h.co (kP p.err z1)
  grind
theorem U7 (h8:n≤8) (hs:wX n s i) (hi:i<n) (h:ZK ns nsc R n i s 2 ec com out):MR ns nsc R 0 ec n i s out:=by
 obtain⟨m,hm⟩:∃m,n-i=m+1:=⟨n-(i+1),by omega⟩
 have hm2:n-(i+1)=m:=by omega
 refine⟨h.vo,h.pre,λ_=>h.sta.mono ?_,λz=>absurd rfl z,λz=>by rw[←UI h8 hs hi];exact h.mo z,λz=> ?_⟩
 ·rw[hm,hm2,tC]
  simp
  omega
 ·have:=h.co z
  grind
end
end
section
open Go Go.RowKit
def Wc (T:TypeId) (bc bz:Nat) (w:World):Prop:=∃e,At w bc #[.pointer (some ⟨bz,0,none⟩), .int .i64 e] T
structure Dc (Tn T:TypeId) (N bc bz ba bm:Nat) (w w':World):Prop where
 dx:Dx Tn N [bc,ba,bm] w w'
 wk:Wc T bc bz w→Wc T bc bz w'
section
variable {Ta Tn T T':TypeId} {N bc bz ba bm R b:Nat} {w w' w'':World} {ns ns':List Nd} {e e':Int} {c cw:Array Value}
theorem ac9 (h:Wc T bc bz w):w.cell? ⟨bc,0,none⟩=some (.pointer (some ⟨bz,0,none⟩)):=by
 obtain⟨e,h⟩:=h
 exact At.cell h rfl
theorem Dc.refl:Dc Tn T N bc bz ba bm w w:=⟨Dx.refl,id⟩
theorem Dc.trans (h:Dc Tn T N bc bz ba bm w w') (k:Dc Tn T N bc bz ba bm w' w''):Dc Tn T N bc bz ba bm w w'':=⟨h.dx.trans k.dx,λq=>k.wk (h.wk q)⟩
theorem Dc.ext (h:dC w w'):Dc Tn T N bc bz ba bm w w':=⟨Dx.ext h,λ⟨e,q⟩=>⟨e,h.at q⟩⟩
instance {Tn T:TypeId} {N bc bz ba bm:Nat} {w0 w w':World}:Kp w w' (Dc Tn T N bc bz ba bm w0 w) (Dc Tn T N bc bz ba bm w0 w'):=⟨λh k=>Dc.trans k (Dc.ext h)⟩
theorem acw (D:fJ Ta Tn N ba bm R w ns) (h:Dx Tn N [ba,bm] w w') (hTa:T≠Ta) (hTn:T≠Tn):Dc Tn T N bc bz ba bm w w':=⟨h.mono (λx hx=>abf _ hx),λ⟨e,q⟩=>⟨e,At.dx D h q hTa hTn⟩⟩
theorem Dc.did (h:w.grownBy w' (some bc)) (hN:N≤bc) (q:At w' bc #[.pointer (some ⟨bz,0,none⟩), .int .i64 e'] T):Dc Tn T N bc bz ba bm w w':=⟨Dx.grown h (aa9 ..) hN,λ_=>⟨e',q⟩⟩
theorem abW (D:fJ Ta Tn N ba bm R w ns) (hw:At w bc cw T) (h:Dc Tn T N bc bz ba bm w w') (q:At w b c T') (h1:T'≠Ta) (h2:T'≠Tn) (h3:T'≠T):At w' b c T':=by
 obtain⟨n1,n2⟩:=D.ne q h1
 have n3:b≠bc:=λe=>by subst e;exact ac6 q hw h3 rfl
 unfold At at*
 rw[h.dx.block b (gQ q) (.inr ⟨by simp[n1,n2,n3],λc' fr e=>by rw[q]at e;simp at e;exact h2 e.2.1⟩)]
 exact q
theorem Dc.new (h:Dc Tn T N bc bz ba bm w w') (hb:w.heap.size≤b) (hN:N≤b) (hG:w'.grownBy w'' (some b)) (q:At w' b c T') (hT:T'≠T):Dc Tn T N bc bz ba bm w w'':=by
 refine⟨h.dx.new hb (Dx.grown hG (aa9 ..) hN),λk=> ?_⟩
 obtain⟨e,k2⟩:=h.wk k
 exact⟨e,At.grownAt k2 q hG hT.symm⟩
theorem ac1 {b1:Nat} {xs:List Nat} (h:Dx Tn N xs w w') (h1:w.heap.size≤b1) (k:Dx Tn N (b1::xs) w' w''):Dx Tn N xs w w'':=h.new h1 k
end
end
section
open Go Go.RowKit
def dgt (m k:Nat):Nat:=m/2^(2*k)%4
end
section
open Go Go.RowKit
theorem WK {s n:Nat} (h:xQ s (n:Int)=true):n≤8∧wX n s 0:=by
 unfold xQ at h
 obtain⟨h1,h2⟩:=acm.1 h
 obtain⟨h3,h4⟩:=acm.1 h2
 have h8:n≤8:=by have:=of_decide_eq_true h3;omega
 rw[so]at h4
 refine⟨h8,MK λp hp hb=> ?_⟩
 have:=dL.1 h4 p hp hb
 rw[fk]at this
 grind
theorem RO {n:Nat} (h:n≤8) {v:Value} (hv:v=if 0≤(n:Int)∧(n:Int)≤8 then .tuple #[ej (fm (n:Int).toNat), .int .i64 0]else .tuple #[ej 0, .int .i64 1]):v= .tuple #[ej (fm n), .int .i64 0]:=by
 grind
def dl (m q:Nat):Int:=if dgt m q=1 then 0 else if dgt m q=2 then 1 else 2
end
section
open Go Go.RowKit
section
variable {ns ns':List Nd} {R n s id k:Nat} {er:Int}
end
end
section
open Go Go.RowKit
abbrev nN (S:Sp):Nat:=S.n.toNat
def FS (S:Sp) (o j y:Nat):Prop:=vR (nN S) (ic S o) y∧∀p,o<p→p<j→p &&& o=o→¬vR (nN S) (ic S p) y
def S9 (S:Sp) (j x:Nat):Prop:=∃o,1≤o∧o<j∧∃y,FS S o (2^S.may.length) y∧x=y+o*65536
section
variable {S:Sp} {o p j x y:Nat}
theorem Z2:FS S o (o+1)=vR (nN S) (ic S o):=fI λy=>⟨λh=>h.1,λh=>⟨h,λp h1 h2=>by omega⟩⟩
theorem aaa (h:j &&& o=o) (hj:o<j):FS S o (j+1)=λy=>FS S o j y∧¬vR (nN S) (ic S j) y:=fI λy=>by
 unfold FS
 constructor
 ·rintro⟨h1,h2⟩
  exact⟨⟨h1,λp a b=>h2 p a (by omega)⟩,h2 j hj (by omega) h⟩
 ·rintro⟨⟨h1,h2⟩,h3⟩
  refine⟨h1,λp a b c=> ?_⟩
  by_cases e:p=j
  ·subst e;exact h3
  ·exact h2 p a (by omega) c
theorem aaq (h:¬j &&& o=o):FS S o (j+1)=FS S o j:=fI λy=>by
 unfold FS
 constructor
 ·rintro⟨h1,h2⟩
  exact⟨h1,λp a b=>h2 p a (by omega)⟩
 ·rintro⟨h1,h2⟩
  refine⟨h1,λp a b c=> ?_⟩
  by_cases e:p=j
  ·subst e;exact absurd c h
  ·exact h2 p a (by omega) c
theorem ZI:S9 S 1=λ_=>False:=fI λx=>⟨λ⟨o,h1,h2,_⟩=>by omega,λh=>h.elim⟩
theorem U2 (h:1≤o):S9 S (o+1) x↔S9 S o x∨∃y,FS S o (2^S.may.length) y∧x=y+o*65536:=by
 constructor
 ·rintro⟨q,h1,h2,h3⟩
  by_cases e:q=o
  ·subst e;exact .inr h3
  ·exact .inl ⟨q,h1,by omega,h3⟩
 ·rintro(⟨q,h1,h2,h3⟩|h3)
  ·exact⟨q,h1,by omega,h3⟩
  ·exact⟨o,h,by omega,h3⟩
theorem rQ (hr:dt S=true):nN S≤8∧S.n=(nN S:Int)∧S.may.length≤4:=by
 obtain⟨h0,h8,_,h4,h5,_⟩:=dz.1 hr
 unfold nN
 omega
theorem O0 (hr:dt S=true) (o:Nat):wX (nN S) (ic S o) 0:=by
 obtain⟨h8,hn,_⟩:=rQ hr
 have:=M4 hr o
 rw[hn]at this
 exact(WK this).2
theorem J8 (hr:dt S=true) (h:FS S o j y):y<65536:=by
 obtain⟨h8,_,_⟩:=rQ hr
 have h1:=DJ h8 h.1
 have h2:2^(2*nN S)≤2^16:=aa8 (by decide) (by omega)
 exact abe h1 h2
end
theorem Wf.prefix {ns ns':List Nd} (h:Wf ns') (hp:ns<+:ns'):Wf ns:=by
 have hl:=gr hp
 refine⟨List.Nodup.sublist hp.sublist h.nd,λi hi=> ?_⟩
 have k:=h.ok i (by omega)
 rw[uD hp hi]at k
 obtain⟨k1,k2,k3,k4,k5,k6⟩:=k
 exact⟨k1,k2,k3,by rwa [gZ hp (by omega)]at k4,by rwa [gZ hp (by omega)]at k5,k6⟩
theorem Ql (o:Nat):yf 0 [((o*65536:Nat):Int)]≤24:=Ov [((o*65536:Nat):Int)]
def bF (S:Sp):Nat:=tC (nN S)+2*nN S*3^nN S
def bO (S:Sp):Nat:=2^S.may.length*bF S+24+tJ (16+S.may.length)*3^nN S+(16+S.may.length)*3^nN S
structure VP (ns nsc:List Nd) (R:Nat) (S:Sp) (j:Nat) (ec:Int) (out:Nat):Prop where
 v:out<nsc.length+2
 pre:ns<+:nsc
 st:∃c,c≤(j-1)*bO S∧yh ns nsc R c ec
 m:ec=0→M nsc out=S9 S j
structure VI (nsc nsi:List Nd) (R:Nat) (S:Sp) (o j:Nat) (ec ei:Int) (f:Nat):Prop where
 v:f<nsi.length+2
 pre:nsc<+:nsi
 st:ec=0→∃c,c≤(j-o)*bF S∧yh nsc nsi R c ei
 err:¬ec=0→ei=ec
 m:ei=0→M nsi f=FS S o j
 crd:ei=0→(dA nsi f).length≤3^nN S
section
variable {ns nsc nsi ns1 ns2 ns3 ns4:List Nd} {R o j out f id idl idg idj ido lL lG lJ lO cG:Nat} {S:Sp} {ec ei e1 erL erG erJ erO:Int}
theorem Pv:VP ns ns R S 1 0 0:=⟨by omega,ab6 _,⟨0,my _,yh.refl⟩,λ_=>by rw[ZI];exact fI λx=>⟨λh=>Nf ns x h,λh=>h.elim⟩⟩
theorem OJ (p:MR nsc ns1 R ec e1 (nN S) 0 (ic S o) id):VI nsc ns1 R S o (o+1) ec e1 id:=
 ⟨p.v,p.pre,λz=>⟨_,by rw[acC,show o+1-o=1 by omega,abd];exact Nat.le_add_right _ _,p.sta z⟩,p.err,λz=>by rw[Z2];exact p.m z,λz=>p.crd z⟩
theorem QK (hr:dt S=true) (hw:Wf ns2) (h:VI nsc nsi R S o j ec ei f) (hj:o<j) (hb:j &&& o=o) (p:MR nsi ns1 R ei e1 (nN S) 0 (ic S j) id) (gL:ke ns1 ns2 R (w8.cst ns1 f id) lL (w8.res (M ns1 f) (M ns1 id)) idl erL):VI nsc ns2 R S o (j+1) ec (iW e1 erL) (kB e1 erL idl):=by
 obtain⟨h8,_,_⟩:=rQ hr
 have hw1:=hw.prefix gL.pre
 have hpl:=gr p.pre
 have hv:=h.v
 have cL:e1=0→w8.cst ns1 f id≤2*nN S*3^nN S:=λz1=>by
  have z0:=kP p.err z1
  have t1:tp ns1 f≤2*nN S:=mA.2 λx hx=>by
   have hx':M ns1 f x:=hx
   rw[jd p.pre h.v,h.m z0]at hx'
   exact DJ h8 hx'.1
  have t2:tp ns1 id≤2*nN S:=mA.2 λx hx=>by
   have hx':M ns1 id x:=hx
   rw[p.m z1]at hx'
   exact DJ h8 hx'
  refine go (Th hw1 G3.endF (by omega) p.v t1 t2) (acy (Nat.sub_le _ _) ?_)
  have:=p.crd z1
  rw[acC]at this
  exact go (acM _ _) this
 refine⟨qc gL.valid,(h.pre.trans p.pre).trans gL.pre,λz=> ?_,λz=> ?_,λz=> ?_,λz=> ?_⟩
 ·obtain⟨c,hc,s⟩:=h.st z
  have s1:=s.step (c2:=tC (nN S-0)) (λz=>p.sta z) (λz=>⟨p.pre,p.err z⟩)
  refine⟨_,?_,s1.did gL (c2:=2*nN S*3^nN S) cL⟩
  rw[acC,show j+1-o=(j-o)+1 by omega,abJ,abd]
  unfold bF at hc ⊢
  omega
 ·have h1:=h.err z
  have h2:=p.err (by rw[h1];exact z)
  unfold iW
  rw[if_neg (by rw[h2,h1];exact z),h2,h1]
 ·obtain⟨z1,z2⟩:=ix.1 z
  rw[ms z,aaa hb hj,show M ns2 idl=w8.res (M ns1 f) (M ns1 id) from fI (gL.ok z2).2.2,jd p.pre h.v,h.m (kP p.err z1),p.m z1]
  rfl
 ·obtain⟨z1,z2⟩:=ix.1 z
  rw[ms z]
  have hg:=gL.ok z2
  have hsub:∀x,x∈dA ns2 idl→x∈dA nsi f:=λx hx=>by
   have hx':M ns1 f x:=((hg.2.2 x).1 hx).1
   rw[jd p.pre h.v]at hx'
   exact hx'
  exact go (Oc hw hg.1 hsub) (h.crd (kP p.err z1))
theorem SU (h:VI nsc nsi R S o j ec ei f) (hb:¬j &&& o=o):VI nsc nsi R S o (j+1) ec ei f:=
 ⟨h.v,h.pre,λz=>by obtain⟨c,hc,s⟩:=h.st z;exact⟨c,go hc (abn _ (by omega)),s⟩,h.err,λz=>by rw[aaq hb];exact h.m z,h.crd⟩
theorem Rm (hr:dt S=true) (hw:Wf ns3) (hcG:cG≤24) (ho:VP ns nsc R S o ec out) (h1:1≤o) (h16:o<16) (hom:o<2^S.may.length) (h:VI nsc nsi R S o (2^S.may.length) ec ei f)
  (gG:ke nsi ns1 R cG lG (bS [((o*65536:Nat):Int)] 0) idg erG) (gJ:ke ns1 ns2 R (rH.cst ns1 f (kB ei erG idg)) lJ (rH.res (M ns1 f) (M ns1 (kB ei erG idg))) idj erJ)
  (gO:ke ns2 ns3 R (pJ.cst ns2 out (kB (iW ei erG) erJ idj)) lO (pJ.res (M ns2 out) (M ns2 (kB (iW ei erG) erJ idj))) ido erO):
  VP ns ns3 R S (o+1) (iW (iW (iW ei erG) erJ) erO) (kB (iW (iW ei erG) erJ) erO ido):=by
 have p1:=gr h.pre
 have p2:=gr gG.pre
 have p3:=gr gJ.pre
 have hv:=h.v
 have hov:=ho.v
 have hw2:=hw.prefix gO.pre
 have hw1:=hw2.prefix gJ.pre
 have hg0:erG=0→M ns1 idg=λx=>x=o*65536:=λzG=>fI λx=>by
  refine((gG.ok zG).2.2 x).trans ?_
  constructor
  ·rintro⟨m,hm,e⟩
   rw[aaL.1 hm,so,Jg]at e
   exact e
  ·rintro rfl
   exact⟨_,aaL.2 rfl,by rw[so,Jg]⟩
 have key:∀y,FS S o (2^S.may.length) y→y ||| o*65536=y+o*65536:=λy hy=>by
  have hlt:=J8 hr hy
  have e:=abS (i:=16) hlt o
  have e16:(2:Nat)^16=65536:=rfl
  rw[e16]at e
  rw[Nat.or_comm,ab2,←e,Nat.add_comm]
 have e16:(2:Nat)^(16+S.may.length)=65536*2^S.may.length:=by rw[Nat.pow_add]
 have big:∀y q,y<65536→q<2^S.may.length→y+q*65536<2^(16+S.may.length):=λy q hy hq=>by
  rw[e16]
  have:(q+1)*65536≤65536*2^S.may.length:=by rw[ab2];exact Nat.mul_le_mul_left _ hq
  omega
 have cJ:iW ei erG=0→rH.cst ns1 f (kB ei erG idg)≤tJ (16+S.may.length)*3^nN S:=λz2=>by
  obtain⟨z1,zG⟩:=ix.1 z2
  rw[ms z2]
  have t1:tp ns1 f≤16+S.may.length:=mA.2 λx hx=>by
   have hx':M ns1 f x:=hx
   rw[jd gG.pre h.v,h.m z1]at hx'
   have:=big x 0 (J8 hr hx') (by omega)
   omega
  have t2:tp ns1 idg≤16+S.may.length:=mA.2 λx hx=>by
   have hx':M ns1 idg x:=hx
   rw[hg0 zG]at hx'
   have:=big 0 o (by omega) hom
   omega
  have l1:(dA ns1 f).length≤3^nN S:=by rw[ii gG.pre h.v];exact h.crd z1
  have l2:(dA ns1 idg).length≤1:=jC (l2:=[o*65536]) (kL hw1 idg (gG.ok zG).1) λx hx=>by
   have hx':M ns1 idg x:=hx
   rw[hg0 zG]at hx'
   exact aaL.2 hx'
  refine go (XO hw1 (by omega) (gG.ok zG).1 t1 t2) (acy (r7 (Nat.sub_le _ _)) ?_)
  exact go (acy l1 l2) (aa1 (ab4 _))
 have hj0:iW (iW ei erG) erJ=0→M ns2 idj=λx=>∃y,FS S o (2^S.may.length) y∧x=y+o*65536:=λz3=>fI λx=>by
  obtain⟨z2,zJ⟩:=ix.1 z3
  obtain⟨z1,zG⟩:=ix.1 z2
  refine((gJ.ok zJ).2.2 x).trans ?_
  rw[ms z2,hg0 zG,jd gG.pre h.v,h.m z1]
  show nQ _ _ x↔_
  constructor
  ·rintro⟨y,b,hy,rfl,rfl⟩
   exact⟨y,hy,key y hy⟩
  ·rintro⟨y,hy,rfl⟩
   exact⟨y,_,hy,rfl,(key y hy).symm⟩
 have cO:iW (iW ei erG) erJ=0→pJ.cst ns2 out (kB (iW ei erG) erJ idj)≤(16+S.may.length)*3^nN S:=λz3=>by
  obtain⟨z2,zJ⟩:=ix.1 z3
  obtain⟨z1,zG⟩:=ix.1 z2
  have zc:=kP h.err z1
  rw[ms z3]
  have t1:tp ns2 out≤16+S.may.length:=mA.2 λx hx=>by
   have hx':M ns2 out x:=hx
   rw[jd ((h.pre.trans gG.pre).trans gJ.pre) ho.v,ho.m zc]at hx'
   obtain⟨q,q1,q2,y,hy,rfl⟩:=hx'
   exact big y q (J8 hr hy) (by omega)
  have t2:tp ns2 idj≤16+S.may.length:=mA.2 λx hx=>by
   have hx':M ns2 idj x:=hx
   rw[hj0 z3]at hx'
   obtain⟨y,hy,rfl⟩:=hx'
   exact big y o (J8 hr hy) hom
  refine go (Th hw2 HG.endF (by omega) (gJ.ok zJ).1 t1 t2) (acy (Nat.sub_le _ _) (go (acM _ _) ?_))
  have:=jC (l2:=(dA nsi f).map λy=>y+o*65536) (kL hw2 idj (gJ.ok zJ).1) λx hx=>by
   have hx':M ns2 idj x:=hx
   rw[hj0 z3]at hx'
   obtain⟨y,hy,rfl⟩:=hx'
   refine aa6.2 ⟨y,?_,rfl⟩
   show M nsi f y
   rw[h.m z1];exact hy
  rw[aby]at this
  exact go this (h.crd z1)
 refine⟨qc gO.valid,ho.pre.trans (((h.pre.trans gG.pre).trans gJ.pre).trans gO.pre),?_,λz=>fI λx=> ?_⟩
 ·obtain⟨c,hc,s⟩:=ho.st
  have s0:∃c',c'≤(o-1)*bO S+2^S.may.length*bF S∧yh ns nsi R c' ei:=by
   by_cases z:ec=0
   ·obtain⟨c2,hc2,s2⟩:=h.st z
    exact⟨_,Nat.add_le_add hc (go hc2 (abn _ (Nat.sub_le _ _))),s.step (λ_=>s2) (λq=>absurd z q)⟩
   ·exact⟨_,by omega,s.step (c2:=0) (λq=>absurd q z) (λ_=>⟨h.pre,h.err z⟩)⟩
  obtain⟨c0,hc0,s0⟩:=s0
  have s1:=s0.did gG (c2:=24) λ_=>hcG
  have s2:=s1.did gJ (c2:=_) cJ
  refine⟨_,?_,s2.did gO (c2:=_) cO⟩
  have e:(o+1-1)*bO S=(o-1)*bO S+bO S:=by rw[show o+1-1=(o-1)+1 by omega,abJ,abd]
  rw[e]
  unfold bO at hc0 ⊢
  omega
 ·obtain⟨z3,zO⟩:=ix.1 z
  obtain⟨z2,zJ⟩:=ix.1 z3
  obtain⟨z1,zG⟩:=ix.1 z2
  have zc:=kP h.err z1
  have hj:=hj0 z3
  rw[ms z,U2 h1]
  refine((gO.ok zO).2.2 x).trans ?_
  show (M ns2 out x∨M ns2 (kB (iW ei erG) erJ idj) x)↔_
  rw[ms z3,hj,jd ((h.pre.trans gG.pre).trans gJ.pre) ho.v,ho.m zc]
end
theorem Ve {o:Nat} (h:o<16):Hb [((o*65536:Nat):Int)]=true:=vL.2 λm hm=>by
 rw[aaL.1 hm]
 omega
def WY (R:Nat) (ns:List Nd) (S:Sp) (ns':List Nd) (id:Nat) (er:Int):Prop:=VP ns ns' R S (2^S.may.length) er id∧(¬er=0→id=0)
theorem W2 {ns ns':List Nd} {R id:Nat} {S:Sp} {e:Int} (h:VP ns ns' R S (2^S.may.length) e id) (hz:e=0):WY R ns S ns' id 0:=by
 subst hz
 exact⟨h,λz=>absurd rfl z⟩
theorem QD {ns ns':List Nd} {R id:Nat} {S:Sp} {e:Int} (h:VP ns ns' R S (2^S.may.length) e id) (hz:¬e=0):WY R ns S ns' 0 e:=
 ⟨⟨by omega,h.pre,h.st,λz=>absurd z hz⟩,λ_=>rfl⟩
theorem WD {ns ns':List Nd} {R id:Nat} {S:Sp} {e:Int} (h:WY R ns S ns' id e):e=0∨e=5:=by
 obtain⟨c,_,s⟩:=h.1.st
 exact s.ers
end
section
open Go Go.RowKit
def TB (R:Nat) (S:Sp) (e:Int):Prop:=∃ns' id,WY R [] S ns' id e∧ns'.length≤R∧Wf ns'
def WS (S:Sp) (T:Nat):Prop:=∃L ks,mW (mB S (eV S)) L ks∧T+1<2^cnt L
theorem yL {U r:List Int} (h:U.Nodup):∀k,(qS U r k).Nodup
 |0=>h
 |k+1=>jT (yL h k) _
theorem VT {l:List Int} {c:Int}:c∈qS [] l l.length↔c∈l:=by
 rw[rB _ (am _),aa7];simp
theorem Lh {n b:Int} {L:ML} {N:Nat} {TI:TypeId} {v:Value} {w':World} (h:(∃tv X s,v= .tuple #[tv, .int .i64 s, .int .i64 0]∧cH dT 1 TI w' N tv X∧SP L n X∧X.length≤4000∧0≤s∧s≤b)∨(v= .tuple #[.slice none 0 0, .int .i64 b, .int .i64 6]∧b.toNat+1<2^cnt L)) (hb:0≤b):
  ∃tv X s e,v= .tuple #[tv, .int .i64 s, .int .i64 e]∧cH dT 1 TI w' N tv X∧X.length≤4000∧0≤s∧s≤b∧(e=0→SP L n X)∧(¬e=0→e=6∧b.toNat+1<2^cnt L):=by
 obtain⟨tv,X,s,h1,h2,h3,h4,h5,h6⟩|⟨h1,h2⟩:=h
 ·exact⟨tv,X,s,0,h1,h2,h4,h5,h6,λ_=>h3,λq=>absurd rfl q⟩
 ·exact⟨_,[],b,6,h1,cH.nil,my _,hb,Int.le_refl _,(λq=>(by cases q)),(λ_=>⟨rfl,h2⟩)⟩
section
variable {S:Sp}
theorem V7 (hr:dt S=true) (hl:(eV S).length≤4000):CE S (eV S)=0:=Ud hr (λk hk=>gI (xU hr k hk)) (by omega)
theorem K5 {L:ML} {T:List Int} (hr:dt S=true) (hl:(eV S).length≤4000) (h:mW (mB S (eV S)) L T):jG L L.length=true:=by
 have h1:=Qg hr hl
 obtain⟨X,_,h2,_⟩:=h.dn _ (l8 _ _) (rK (kT (S:=S) hl) h1)
 exact Qf h2
theorem Mk (hr:dt S=true):(mB S (eV S)).length≤1024:=by rw[K3];exact MI hr
theorem Z9 {R:Nat} {ns':List Nd} {id:Nat} {e:Int} (h:WY R [] S ns' id e) (h0:¬e=0):e=5:=(WD h).resolve_left h0
end
theorem rf {v:Value} {a b c:Int} (h:v.oneCell'=true):[v,Value.int .i64 a, .int .i64 b, .int .i64 c].all Value.oneCell'=true:=by simp only[ab1,acD,h,abN,abu];rfl
def ZS (R T:Nat) (S:Sp) (how sp e:Int) (Rr:List Rw):Prop:=(e=0∧how=1∧0≤sp∧sp≤T∧TB R S 0∧F7 S Rr)∨(e=5∧TB R S 5)∨(e=6∧TB R S 0∧WS S T)
def ot (b0 b1:Int):Prop:=(0≤b0∧b0≤20000)∧0≤b1∧b1≤1000000
instance (b0 b1:Int):Decidable (ot b0 b1):=inferInstanceAs (Decidable (_∧_))
def J7 (R T:Nat) (S:Sp) (how why sp:Int) (Rr:List Rw):Prop:=(how=1∧why=0∧0≤sp∧sp≤T∧TB R S 0∧F7 S Rr)∨(how=2∧Rr=lf S (mX S)∧((why=5∧sp=0∧TB R S 5)∨(why=6∧sp=T∧TB R S 0∧WS S T)))
theorem WH {b0 b1:Int} (h:ot b0 b1):∃R T:Nat,b0=(R:Int)∧b1=(T:Int)∧True∧R≤20000∧T≤1000000:=by
 obtain⟨⟨h1,h2⟩,h3,h4⟩:=h
 exact⟨b0.toNat,b1.toNat,by omega,by omega,trivial,by omega,by omega⟩
section
variable {R T:Nat} {S:Sp} {how sp e:Int} {Rr:List Rw}
theorem Z4 (h:ZS R T S how sp e Rr) (he:e=0):J7 (R:Int).toNat (T:Int).toNat S how 0 sp Rr:=by
 rw[so,so]
 rcases h with h|h|h
 ·exact .inl ⟨h.2.1,rfl,h.2.2.1,h.2.2.2.1,h.2.2.2.2.1,h.2.2.2.2.2⟩
 ·have:=h.1;omega
 ·have:=h.1;omega
theorem aaE (h:ZS R T S how sp e Rr) (he:e=6):J7 (R:Int).toNat (T:Int).toNat S 2 e (T:Int) (lf S (mX S)):=by
 rw[so,so]
 rcases h with h|h|h
 ·have:=h.1;omega
 ·have:=h.1;omega
 ·exact .inr ⟨rfl,rfl, .inr ⟨he,rfl,h.2⟩⟩
theorem X7 (h:ZS R T S how sp e Rr) (h0:¬e=0) (h6:¬e=6):J7 (R:Int).toNat (T:Int).toNat S 2 e 0 (lf S (mX S)):=by
 rw[so,so]
 rcases h with h|h|h
 ·exact absurd h.1 h0
 ·exact .inr ⟨rfl,rfl, .inl ⟨h.1,rfl,h.2⟩⟩
 ·exact absurd h.1 h6
end
end
section
open Go Go.RowKit
def O7 (n:Nat) (x:Rw):Ln:=⟨x.c,(List.range n).map λk=>((x.o/2^k%2:Nat):Int)⟩
def nK (S:Sp) (l:List Rw):Tb:=⟨1,S.n,S.on.length,l.map (O7 S.on.length)⟩
section
variable {S:Sp} {l Z:List Rw} {x:Rw} {n k o p i:Nat}
theorem SX (n:Nat) (x:Rw):(O7 n x).os.length=n:=by simp[O7]
theorem Kq (h:k<n):(O7 n x).os.getD k 0=((x.o/2^k%2:Nat):Int):=by
 unfold O7
 rw[me,ab0,List.getElem?_range h]
 rfl
theorem Rh (h:k<n):(O7 n x).os.getD k 0=1↔x.o.testBit k=true:=by
 rw[Kq h,abB,decide_eq_true_eq]
 omega
theorem QQ (h:k<n):¬(O7 n x).os.getD k 0=2:=by
 rw[Kq h]
 omega
theorem DB (S:Sp) (l:List Rw):(nK S l).ls.length=l.length:=by simp[nK]
theorem Ns (h:i<l.length):(nK S l).ls.getD i jE=O7 S.on.length (l.getD i ⟨⟨0,0⟩,0⟩):=by
 unfold nK
 rw[me,ab0,me,we h]
 rfl
theorem sT (hr:dt S=true) (hm:km S l=true) (h64:l.length≤64):fy (nK S l)=true:=by
 obtain⟨h0,h8,h1,h4,h5,_⟩:=dz.1 hr
 unfold fy
 rw[th,decide_eq_true_eq]
 refine⟨⟨by show (0:Int)≤1;decide,by show (1:Int)≤3;decide,h0,h8,by show (1:Int)≤(S.on.length:Int);omega,by show (S.on.length:Int)≤4;omega,by rw[DB];exact h64⟩,?_⟩
 refine aa2.2 λy hy=> ?_
 obtain⟨x,hx,rfl⟩:=aa6.1 hy
 refine nJ.2 ⟨(fY.1 (jV.1 hm x hx)).1,by rw[SX];rfl,λz hz=> ?_⟩
 obtain⟨j,_,rfl⟩:=aa6.1 hz
 omega
theorem YI (h:o<S.on.length):∀k,k≤l.length→s8 (nK S l) o 2 k=0
 |0,_=>rfl
 |k+1,hk=>by
  rw[←Nm (by rw[Ns (by omega)];exact QQ h)]
  exact YI h k (by omega)
theorem X0 (h:o<S.on.length):nW (nK S l) o 2=0:=by
 unfold nW
 rw[DB]
 exact YI h _ (am _)
theorem UL (h:o<S.on.length):AJ (nK S l) o=nW (nK S l) o 1:=by
 unfold AJ MF
 rw[if_neg (show ¬(nK S l).kind=0 by show ¬(1:Int)=0;decide),if_pos (show (nK S l).kind=1 from rfl),X0 h,Nat.or_zero]
theorem yi {l:List Rw} {p o:Nat}:DR l p o=true↔∃x,x∈l∧x.o.testBit o=true∧pa x.c.m x.c.v p=true:=by
 unfold DR
 rw[abH]
 simp only[th]
theorem LR (hr:dt S=true) (hm:km S l=true) (h:o<S.on.length) (p:Nat):(nW (nK S l) o 1).testBit p=true↔p<2^S.n.toNat∧DR l p o=true:=by
 obtain⟨h0,h8,h1,h4,h5,_⟩:=dz.1 hr
 unfold nW
 rw[vi (T:=nK S l) (show S.n.toNat≤8 by omega) p,DB,sB]
 have key:∀j,j<l.length→(((nK S l).ls.getD j jE).os.getD o 0=1∧hold ((nK S l).ls.getD j jE).c p↔((l.getD j ⟨⟨0,0⟩,0⟩).o.testBit o&&pa (l.getD j ⟨⟨0,0⟩,0⟩).c.m (l.getD j ⟨⟨0,0⟩,0⟩).c.v p)=true):=λj hj=>by
  have hv:=(du.1 (fY.1 (j8.1 hm j hj)).1).2.2.2
  rw[Ns hj,Rh h,th]
  unfold hold pa
  rw[decide_eq_true_eq,hv]
  rfl
 constructor
 ·rintro⟨q,j,hj,r⟩;exact⟨q,j,hj,(key j hj).1 r⟩
 ·rintro⟨q,j,hj,r⟩;exact⟨q,j,hj,(key j hj).2 r⟩
theorem Ie (hr:dt S=true) (hm:km S l=true) (h64:l.length≤64):oo (nK S l)=0:=Mf (sT hr hm h64) λo _=>Jo (by show ¬(2:Int)≤1;decide)
theorem sc:(eg (nK S l)).on.length=S.on.length:=by
 show (pg (nK S l) (S.on.length:Int).toNat).length=_
 rw[ku,so]
theorem onR (h:o<S.on.length):AC (eg (nK S l)) o=nW (nK S l) o 1:=FI _ (by show o<(S.on.length:Int).toNat;rw[so];exact h)
theorem Wu (h:o<S.on.length):kg (eg (nK S l)) o=nW (nK S l) o 1:=(Bl _ (by show o<(S.on.length:Int).toNat;rw[so];exact h)).trans (UL h)
theorem Mw (hm:km S Z=true):km (eg (nK S l)) Z=true:=jV.2 λx hx=>by
 obtain⟨a,b,c⟩:=fY.1 (jV.1 hm x hx)
 exact fY.2 ⟨a,b,by rw[sc];exact c⟩
theorem Jz (hm:km (eg (nK S l)) Z=true):km S Z=true:=jV.2 λx hx=>by
 obtain⟨a,b,c⟩:=fY.1 (jV.1 hm x hx)
 exact fY.2 ⟨a,b,by rw[sc]at c;exact c⟩
theorem PV (h:gz S l=true) (h64:l.length≤64):gz (eg (nK S l)) l=true:=by
 obtain⟨hr,hm,hc⟩:=eU.1 h
 have hR:=md (Ie hr hm h64)
 refine eU.2 ⟨hR,Mw hm,λo ho=> ?_⟩
 have ho2:o<S.on.length:=by rw[sc]at ho;exact ho
 refine(ig hR (Mw hm) ho).2 λp hp=> ?_
 rw[onR ho2,Wu ho2]
 exact⟨λq=>((LR hr hm ho2 p).1 q).2,λq=>(LR hr hm ho2 p).2 ⟨hp,q⟩⟩
theorem PF (h:gz S l=true) (hz:gz (eg (nK S l)) Z=true):gz S Z=true:=by
 obtain⟨hr,hm,hc⟩:=eU.1 h
 obtain⟨hR,hm2,hc2⟩:=eU.1 hz
 refine eU.2 ⟨hr,Jz hm2,λo ho=>(ig hr (Jz hm2) ho).2 λp hp=> ?_⟩
 have h1:=(ig hr hm ho).1 (hc o ho) p hp
 have h2:=(ig hR hm2 (by rw[sc];exact ho)).1 (hc2 o (by rw[sc];exact ho)) p hp
 rw[onR ho,Wu ho]at h2
 exact⟨λq=>h2.1 ((LR hr hm ho p).2 ⟨hp,h1.1 q⟩),λq=>h1.2 ((LR hr hm ho p).1 (h2.2 q)).2⟩
theorem LM (h:F7 S l) (h64:l.length≤64) (hz:F7 (eg (nK S l)) Z):Z.length=l.length:=
 Nat.le_antisymm (hz.min l (PV h.cov h64)) (h.min Z (PF h.cov hz.cov))
theorem La {α β:Type} {f:α→β} {l:List α} {k:Nat} {d:α} (h:k<l.length):(l.take (k+1)).map f=(l.take k).map f++[f (l.getD k d)]:=by
 rw[abt,we h,ace,me,we h]
 rfl
theorem LE {o j:Nat}:((List.range j).map λq=>((o/2^q%2:Nat):Int))++[((o/2^(j:Int).toNat &&& 1:Nat):Int)]=(List.range (j+1)).map λq=>((o/2^q%2:Nat):Int):=by
 rw[List.range_succ,ace,so,qh]
 rfl
theorem CN {α β:Type} {f:α→List β} {c:Nat}:∀(l:List α),(∀x,x∈l→(f x).length≤c)→(l.flatMap f).length≤l.length*c
 |[],_=>my _
 |a::l,h=>by
  have h1:=CN l λx hx=>h x (abf _ hx)
  have h2:=h a aa9
  rw[abv,An,aa5,abJ,abd]
  omega
def Gt (S:Sp):List Rw:=(List.range S.on.length).flatMap λo=>((List.range (2^S.n.toNat)).filter λp=>(AC S o).testBit p).map λp=>⟨⟨2^S.n.toNat-1,p⟩,2^o⟩
theorem KF (S:Sp):(Gt S).length≤S.on.length*2^S.n.toNat:=by
 have h:=CN (c:=2^S.n.toNat) (f:=λo=>((List.range (2^S.n.toNat)).filter λp=>(AC S o).testBit p).map λp=>(⟨⟨2^S.n.toNat-1,p⟩,2^o⟩:Rw)) (List.range S.on.length) λo _=>by
  rw[aby]
  have:=acB (λp=>(AC S o).testBit p) (List.range (2^S.n.toNat))
  rw[List.length_range]at this
  exact this
 rw[List.length_range]at h
 exact h
theorem zR (h:p<2^n):p &&& (2^n-1)=p:=by rw[acf,act h]
theorem wq:x∈Gt S↔∃o p,o<S.on.length∧p<2^S.n.toNat∧(AC S o).testBit p=true∧x=⟨⟨2^S.n.toNat-1,p⟩,2^o⟩:=by
 unfold Gt
 rw[acN]
 constructor
 ·rintro⟨o,ho,hx⟩
  obtain⟨p,hp,rfl⟩:=aa6.1 hx
  obtain⟨h1,h2⟩:=abQ.1 hp
  exact⟨o,p,aba.1 ho,aba.1 h1,h2,rfl⟩
 ·rintro⟨o,p,ho,hp,hb,rfl⟩
  exact⟨o,aba.2 ho,aa6.2 ⟨p,abQ.2 ⟨aba.2 hp,hb⟩,rfl⟩⟩
theorem Kv (hr:dt S=true):gz S (Gt S)=true:=by
 obtain⟨h0,h8,h1,h4,h5,hin⟩:=dz.1 hr
 have hm:km S (Gt S)=true:=jV.2 λx hx=>by
  obtain⟨o,p,ho,hp,hb,rfl⟩:=wq.1 hx
  have hpos:=abo S.n.toNat
  exact fY.2 ⟨du.2 ⟨h0,h8,by show 2^S.n.toNat-1<2^S.n.toNat;omega,zR hp⟩,abo o,acn (by decide) ho⟩
 have h256:=fw h8
 refine eU.2 ⟨hr,hm,λo ho=>(ig hr hm ho).2 λp hp=>⟨λq=> ?_,λq=> ?_⟩⟩
 ·refine yi.2 ⟨_,wq.2 ⟨o,p,ho,hp,q,rfl⟩,?_,?_⟩
  ·show (2^o).testBit o=true
   rw[abh];simp
  ·show pa _ _ _=true
   unfold pa
   simp
 ·obtain⟨x,hx,b1,b2⟩:=yi.1 q
  obtain⟨o',p',ho',hp',hb',rfl⟩:=wq.1 hx
  have e1:o'=o:=by
   have:(2^o').testBit o=true:=b1
   rw[abh]at this
   exact of_decide_eq_true this
  have e2:p=p':=by
   have:=of_decide_eq_true (show decide (p &&& (2^S.n.toNat-1)=p' &&& (2^S.n.toNat-1))=true from b2)
   rw[zR hp,zR hp']at this
   exact this
  subst e1 e2
  exact dL.1 (hin _ ho).1 _ (by omega) hb'
theorem Q8 (hr:dt S=true) (h:F7 S l):l.length≤S.on.length*2^S.n.toNat:=go (h.min _ (Kv hr)) (KF S)
theorem Nc {l:List Rw} {y d:Rw} {j:Nat} (hi:i<l.length):(l.set i y).getD j d=if j=i then y else l.getD j d:=by
 rw[me,List.getElem?_set]
 by_cases h:i=j
 ·rw[if_pos h,if_pos (by omega),if_pos h.symm];rfl
 ·rw[if_neg h,if_neg (λe=>h e.symm),me]
theorem SR:DR (nI l) p o=DR l p o:=by
 rw[abA,yi,yi]
 constructor
 ·rintro⟨x,hx,r⟩;exact⟨x,(abQ.1 hx).1,r⟩
 ·rintro⟨x,hx,r⟩
  refine⟨x,abQ.2 ⟨hx,decide_eq_true ?_⟩,r⟩
  rcases Nat.eq_zero_or_pos x.o with e|e
  ·rw[e,abx]at r;cases r.1
  ·exact e
theorem KC (h:gz S l=true) (hi:i<l.length) (hb:(l.getD i ⟨⟨0,0⟩,0⟩).o.testBit k=true) (hn:gz S (nI (rX l i k))=false):
  ∃p,p<2^S.n.toNat∧pa (l.getD i ⟨⟨0,0⟩,0⟩).c.m (l.getD i ⟨⟨0,0⟩,0⟩).c.v p=true∧∀j,j<l.length→(l.getD j ⟨⟨0,0⟩,0⟩).o.testBit k=true→pa (l.getD j ⟨⟨0,0⟩,0⟩).c.m (l.getD j ⟨⟨0,0⟩,0⟩).c.v p=true→j=i:=by
 obtain⟨hr,hm,hc⟩:=eU.1 h
 refine Classical.byContradiction λhno=> ?_
 have hall:∀p,p<2^S.n.toNat→pa (l.getD i ⟨⟨0,0⟩,0⟩).c.m (l.getD i ⟨⟨0,0⟩,0⟩).c.v p=true→∃j,j<l.length∧(l.getD j ⟨⟨0,0⟩,0⟩).o.testBit k=true∧pa (l.getD j ⟨⟨0,0⟩,0⟩).c.m (l.getD j ⟨⟨0,0⟩,0⟩).c.v p=true∧¬j=i:=λp hp hh=>by
  refine Classical.byContradiction λhx=>hno ⟨p,hp,hh,λj hj h1 h2=> ?_⟩
  exact Classical.byContradiction λh3=>hx ⟨j,hj,h1,h2,h3⟩
 have hlen:(rX l i k).length=l.length:=by unfold rX;rw[List.length_set]
 have hget:∀j,(rX l i k).getD j ⟨⟨0,0⟩,0⟩=if j=i then mC (l.getD i ⟨⟨0,0⟩,0⟩) k else l.getD j ⟨⟨0,0⟩,0⟩:=λj=>Nc hi
 have hcv:∀o p,p<2^S.n.toNat→DR (rX l i k) p o=DR l p o:=λo p hp=>by
  rw[abA,sB,sB]
  constructor
  ·rintro⟨j,hj,r⟩
   rw[hlen]at hj
   refine⟨j,hj,?_⟩
   rw[hget]at r
   by_cases e:j=i
   ·subst e
    rw[if_pos rfl,th]at r
    have h1:((l.getD j ⟨⟨0,0⟩,0⟩).o-2^k).testBit o=true:=r.1
    rw[iT hb,th]at h1
    rw[th]
    exact⟨h1.1,r.2⟩
   ·rw[if_neg e]at r;exact r
  ·rintro⟨j,hj,r⟩
   by_cases e:j=i
   ·subst e
    rw[th]at r
    by_cases ek:k=o
    ·subst ek
     obtain⟨j2,h1,h2,h3,h4⟩:=hall p hp r.2
     refine⟨j2,by rw[hlen];exact h1,?_⟩
     rw[hget,if_neg h4,h2,h3];rfl
    ·refine⟨j,by rw[hlen];exact hj,?_⟩
     rw[hget,if_pos rfl,th]
     refine⟨?_,r.2⟩
     show ((l.getD j ⟨⟨0,0⟩,0⟩).o-2^k).testBit o=true
     rw[iT hb,r.1,decide_eq_false ek]
     rfl
   ·refine⟨j,by rw[hlen];exact hj,?_⟩
    rw[hget,if_neg e];exact r
 have hm2:km S (nI (rX l i k))=true:=jV.2 λx hx=>by
  obtain⟨h1,h2⟩:=abQ.1 hx
  obtain⟨j,hj,rfl⟩:=fi (d:=(⟨⟨0,0⟩,0⟩:Rw)) h1
  rw[hlen]at hj
  rw[hget]at h2 ⊢
  by_cases e:j=i
  ·subst e
   rw[if_pos rfl]at h2 ⊢
   obtain⟨a,b,c⟩:=fY.1 (j8.1 hm j hj)
   exact fY.2 ⟨a,of_decide_eq_true h2,abr (Nat.sub_le _ _) c⟩
  ·rw[if_neg e];exact j8.1 hm j hj
 have:gz S (nI (rX l i k))=true:=by
  refine eU.2 ⟨hr,hm2,λo ho=>(ig hr hm2 ho).2 λp hp=> ?_⟩
  rw[SR,hcv o p hp]
  exact(ig hr hm ho).1 (hc o ho) p hp
 rw[hn]at this
 cases this
theorem PK {x:Nat} (h:0<x):∃k,x.testBit k=true:=Classical.byContradiction λhn=>by
 have:x=0:=aaz λk=>by
  rw[abx]
  exact aa0.2 λhk=>hn ⟨k,hk⟩
 omega
theorem Ij (h:yd S l=true):l.length≤S.on.length*2^S.n.toNat:=by
 obtain⟨hc,hn⟩:=wT.1 h
 obtain⟨hr,hm,_⟩:=eU.1 hc
 have key:∀i,∃q:Nat×Nat,i<l.length→q.1<S.on.length∧q.2<2^S.n.toNat∧(l.getD i ⟨⟨0,0⟩,0⟩).o.testBit q.1=true∧pa (l.getD i ⟨⟨0,0⟩,0⟩).c.m (l.getD i ⟨⟨0,0⟩,0⟩).c.v q.2=true∧∀j,j<l.length→(l.getD j ⟨⟨0,0⟩,0⟩).o.testBit q.1=true→pa (l.getD j ⟨⟨0,0⟩,0⟩).c.m (l.getD j ⟨⟨0,0⟩,0⟩).c.v q.2=true→j=i:=λi=>by
  by_cases hi:i<l.length
  ·obtain⟨_,h1,h2⟩:=fY.1 (j8.1 hm i hi)
   obtain⟨k,hk⟩:=PK h1
   have hkl:k<S.on.length:=by
    rcases abO k S.on.length with g|g
    ·exact g
    ·have:=gF.1 h2 k g
     rw[hk]at this;cases this
   have hf:=hn i hi k hkl
   unfold ZU at hf
   rw[hk,abu]at hf
   obtain⟨p,a,b,c⟩:=KC hc hi hk hf
   exact⟨(k,p),λ_=>⟨hkl,a,hk,b,c⟩⟩
  ·exact⟨(0,0),λk=>absurd k hi⟩
 let g:Nat→Nat×Nat:=λi=>Classical.choose (key i)
 have hg:∀i,i<l.length→_:=λi hi=>Classical.choose_spec (key i) hi
 have h1:=tO (a:=(List.range l.length).map g) (b:=(List.range S.on.length).flatMap λo=>(List.range (2^S.n.toNat)).map λp=>(o,p)) ?_ ?_
 ·rw[aby,List.length_range]at h1
  refine go h1 ?_
  have h2:=CN (c:=2^S.n.toNat) (f:=λo=>(List.range (2^S.n.toNat)).map λp=>(o,p)) (List.range S.on.length) λo _=>by simp
  rw[List.length_range]at h2
  exact h2
 ·refine List.pairwise_map.2 ?_
  refine(List.nodup_range (n:=l.length)).imp_of_mem λ{a b} ha hb hab e=> ?_
  obtain⟨_,_,a3,a4,_⟩:=hg a (aba.1 ha)
  obtain⟨_,_,_,_,b5⟩:=hg b (aba.1 hb)
  have e1:Classical.choose (key a)=Classical.choose (key b):=e
  rw[e1]at a3 a4
  exact hab (b5 a (aba.1 ha) a3 a4)
 ·intro q hq
  obtain⟨i,hi,rfl⟩:=aa6.1 hq
  obtain⟨a1,a2,_⟩:=hg i (aba.1 hi)
  exact acN.2 ⟨_,aba.2 a1,aa6.2 ⟨_,aba.2 a2,rfl⟩⟩
theorem NQ (hr:dt S=true) (hm:km S l=true):iC l:=λx hx=>by
 obtain⟨a,b,c⟩:=fY.1 (jV.1 hm x hx)
 obtain⟨h0,h8,hm2,hv⟩:=du.1 a
 obtain⟨_,_,_,h4,_,_⟩:=dz.1 hr
 have h1:2^S.n.toNat≤2^8:=aa8 (by decide) (by omega)
 have h2:2^S.on.length≤2^4:=aa8 (by decide) h4
 have h3:x.c.v≤x.c.m:=by rw[←hv];exact aci
 exact⟨by omega,by omega,by omega⟩
theorem V1 {a b:Nat} (ha:a≤3) (hb:b≤4):a*2^b≤48:=by
 have h1:2^b≤2^4:=aa8 (by decide) hb
 have h2:a*2^b≤3*2^4:=acy ha h1
 exact h2
theorem G7 {R T:Nat} {how why sp:Int} (hr:dt S=true) (h4:S.n≤4) (h3:S.on.length≤3) (h:J7 R T S how why sp l):gz S l=true∧l.length≤48:=by
 have hn:=V1 h3 (show S.n.toNat≤4 by omega)
 rcases h with h|⟨_,rfl,_⟩
 ·exact⟨h.2.2.2.2.2.cov,go (Q8 hr h.2.2.2.2.2) hn⟩
 ·exact⟨Gp (wo hr),go (Ij (En (wo hr))) hn⟩
end
end
section
open Go Go.RowKit
theorem wm {f:Nat→Value} {w:World} {d:Option Nat} {ty:TypeId} {ps:String} {af:Array Edge} {g:Option (Nat×Bool)} {x0 x1 x2:Operand} {c0_0 c1_0 c2_0:Value} (h0:dk f x0=c0_0) (k0:c0_0.cells= #[c0_0]) (h1:dk f x1=c1_0) (k1:c1_0.cells= #[c1_0]) (h2:dk f x2=c2_0) (k2:c2_0.cells= #[c2_0]):
    (execOp (dk f) ⟨d, .build 24 #[(0,x0),(1,x1),(2,x2)],ty,ps,af,g⟩).run Tryz.prog w= .ok (.value (.agg #[c0_0,c1_0,c2_0, .slice none 0 0])) w:=by
  obtain⟨i0,hi0,hz0⟩:=Do.1 (show (Tryz.prog.info? 24).bind (·.zero)=_ from qu)
  obtain⟨j3,hj3,hs3⟩:=an.1 fN
  obtain⟨j22,hj22,hs22⟩:=an.1 wn
  simp[execOp,h0,k0,h1,k1,h2,k2,Instr.build,zeroValue,typeInfo,sizeOf,hi0,hz0,run_underlying Tryz.underlying24,Instr.fill,d7,hj3,hs3,hj22,hs22]
set_option maxHeartbeats 4000000 in
theorem u7 (S:Sp) (onV mayV:Value) (xa:Value) (l:List Rw) (w:World) (hon:dp fh 4 w onV S.on) (hmay:dp fh 4 w mayV S.may) (hl:dp gx 3 w xa l) (hlb:l.length≤1000000) (hlr:iC l) (h4:S.on.length≤20):
    Fn Tryz.prog 39 #[.agg #[.int .i64 S.n,onV,mayV],xa] w λv w'=>if dt S=true∧km S l=true then (if l.length≤64 then ∃lv vs,v= .tuple #[.agg #[.int .i64 1, .int .i64 S.n, .int .i64 (S.on.length:Int),lv], .int .i64 0]∧cH ik 3 37 w' w.heap.size lv vs∧f6 3 w.heap.size w' vs (l.map (O7 S.on.length))else v= .tuple #[.agg #[.int .i64 0, .int .i64 0, .int .i64 0, .slice none 0 0], .int .i64 3])else v= .tuple #[.agg #[.int .i64 0, .int .i64 0, .int .i64 0, .slice none 0 0], .int .i64 1]:=by
 refine cM (n:=67) Tryz.func39 rfl rfl rfl λhB=> ?_
 refine Zr<|Zy (dw (c:= #[_,_,_]) rfl rfl λR W3 aP T e=> ?_)
 replace hB:=Ze hB T
 refine Zy (cK qu rfl λU W6 V X d=> ?_)
 have A:=ZO V hB
 obtain⟨hB,e⟩:=X.k2 hB e
 refine ZZ rfl<|Zq<|cy<|Zr<|Zv (cz rfl ee rfl e)<|ZC (vs:=[.agg #[_,_,_]]) oC (iP S _ _ _ (Below.slT hB hon) (Below.slT hB hmay)) rfl λaQ aR Y Z=> ?_
 obtain⟨hB,e,d⟩:=Y.k3 hB e d
 obtain rfl:=Z
 refine Zv (eR rfl)<|ZX rfl (λC=> ?_) λC=> ?_
 refine Zs<|Zs<|Zs<|Zs<|Zb rfl<|Zb rfl<|ct<|cQ rfl<|Zr<|Zv (gS)<|Zy (cA rfl rfl dX rfl d rfl rfl λaS aa ab=> ?_)
 replace hB:=Zg hB aa A
 replace d:=ab
 refine ZZ rfl<|Zt<|eh rfl dX d rfl (v1:= .int .i64 1) rfl ⟨hB,?_⟩
 (rw[if_neg (λh=>by rw[kZ C]at h;exact Bool.noConfusion h.1)])
 refine Zv (cz rfl ee rfl e)<|Zw xa rfl<|ZC (vs:=[.agg #[_,_,_],xa]) J5 (yE S _ _ _ l _ (Below.slT hB hon) (Below.slT hB hmay) (Below.slT hB hl) Om hlr h4) rfl λaT aU ac ad=> ?_
 obtain⟨hB,e,d⟩:=ac.k3 hB e d
 obtain rfl:=ad
 refine Zv (eR rfl)<|Zb rfl<|Zb rfl<|ct<|ZQ rfl (λD=> ?_) λD=> ?_
 refine Zr<|Zv (gS)<|Zy (cA rfl rfl dX rfl d rfl rfl λaV ae af=> ?_)
 replace hB:=Zg hB ae A
 replace d:=af
 refine ZZ rfl<|Zt<|eh rfl dX d rfl (v1:= .int .i64 1) rfl ⟨hB,?_⟩
 (rw[if_neg (λh=>by rw[show km S l=false from kZ D]at h;exact Bool.noConfusion h.2)])
 have hr:dt S=true:=mN C
 obtain⟨hr0,hr8,hr1,hr4,hr5,_⟩:=dz.1 hr
 have hm:km S l=true:=mN D
 refine Zr<|Zw xa rfl<|Zv (de (v:=xa) rfl (Below.slT hB hl) dM)<|Zv (iG rfl rfl)<|Zb rfl<|ct<|ZQ rfl (λag=> ?_) λag=> ?_
 refine Zr<|Zv (gS)<|Zy (cA rfl rfl dX rfl d rfl rfl λaW ah ai=> ?_)
 replace hB:=Zg hB ah A
 replace d:=ai
 refine ZZ rfl<|Zt<|eh rfl dX d rfl (v1:= .int .i64 3) rfl ⟨hB,?_⟩
 (rw[if_pos ⟨hr,hm⟩,if_neg (by omega)])
 refine cx<|Zr<|Zf rfl iM<|Zl rfl cR e rfl<|Zf rfl gW<|ZL onV rfl eY e rfl<|Zv (de (v:=onV) rfl (Below.slT hB hon) ey)<|Zv (wm (h0:=rfl) (k0:=rfl) (h1:=rfl) (k1:=rfl) (h2:=rfl) (k2:=rfl) (c0_0:= .int .i64 1) (c1_0:= .int .i64 _) (c2_0:= .int .i64 _))<|Zy (cK qu rfl λaj aX I ak f=> ?_)
 have J:=ZO I hB
 have K:=Zn I d.lt
 obtain⟨hB,e,d⟩:=ak.k3 hB e d
 refine Zy (cA rfl rfl dX rfl f rfl rfl λaY E al=> ?_)
 replace hB:=Zg hB E J
 replace e:=At.grownAt e f E Dd
 replace d:=At.grownNe d K E
 replace f:=al
 refine ct<|Zq<|Zr<|Zw xa rfl<|Zv (de (v:=xa) rfl (Below.slT hB hl) dM)<|ZZ rfl<|cy ?_
 refine cY (σ:=(Nat)×(Value)×(List AA)) [8,10,35,65] (λ(k,lv,vs)=>[(35, .int .i64 (k:Int))]) (λsg W=>match sg with|(k,lv,vs)=>(Below w.heap.size w W)∧(At W R _ 59)∧(At W U _ 24)∧(At W aj #[.int .i64 1, .int .i64 S.n, .int .i64 (S.on.length:Int),lv] 24)∧(cH ik 3 37 W w.heap.size lv vs)∧(f6 3 w.heap.size W vs ((l.take k).map (O7 S.on.length)))∧(k≤l.length)∧(True)) (λ(k,lv,vs)=>l.length-k) ((0, .slice none 0 0,[])) ⟨rfl,trivial⟩ ⟨hB,e,d,f,cH.nil,f6.nil,(my _),trivial⟩ ?_
 rintro⟨k,lv,vs⟩ aZ y ⟨hB,e,d,f,hlv,hls,hk,_⟩ a0 ao
 refine Zr<|Zv (dq rfl rfl)<|ct<|Zq<|ZQ rfl (λap=> ?_) λap=> ?_
 refine cx<|Zq<|cy ?_
 have a1:=Below.slT hB hon
 have a2:=Below.slT hB hmay
 have B:=Below.slT hB hl
 have L:=hB
 replace hB:=Below.refl y.heap.size y
 refine Zr<|Zv (dm (v:=xa) rfl (Below.slT hB B) rfl dM Om Om)<|Zv (jc rfl dU (dp.cell (Below.slT hB B) eA ⟨⟨0,0⟩,0⟩ Om Om 0 rfl) (dp.cell (Below.slT hB B) eA ⟨⟨0,0⟩,0⟩ Om Om 1 rfl) (dp.cell (Below.slT hB B) eA ⟨⟨0,0⟩,0⟩ Om Om 2 rfl))<|Zy (cK jM rfl λaq a3 ar au g=> ?_)
 have av:=ZO ar hB
 replace hB:=Ze hB au
 refine Zy (cA rfl rfl dU rfl g rfl rfl λa4 aw ax=> ?_)
 replace hB:=Zg hB aw av
 replace g:=ax
 refine ct ?_
 obtain⟨a5,a6,ay⟩:=hlr.get (k:=k) (by omega)
 refine Zr<|Zf rfl gC<|Zv (iq rfl dh (At.cell g rfl) (At.cell g rfl))<|Zv (qm (h0:=rfl))<|Zy (cK oZ rfl λaz a7 aA aB i=> ?_)
 have M:=ZO aA hB
 obtain⟨hB,g⟩:=aB.k2 hB g
 refine Zy (cA rfl rfl f7 rfl i rfl rfl λa8 N aC=> ?_)
 replace hB:=Zg hB N M
 replace g:=At.grownAt g i N Dd
 replace i:=aC
 refine ct<|Zq<|Zr<|Zf rfl gD<|Zl rfl cR (On hB f) rfl<|ZZ rfl<|cy ?_
 refine cY (σ:=(Nat)×(Value)) [10,10,44,58] (λ(j,ov)=>[(44, .int .i64 (j:Int))]) (λsg W=>match sg with|(j,ov)=>(Below y.heap.size y W)∧(At W aq _ 158)∧(At W az #[.int .u8 ((l.getD k ⟨⟨0,0⟩,0⟩).c.m:Int), .int .u8 ((l.getD k ⟨⟨0,0⟩,0⟩).c.v:Int),ov] 37)∧(cH dT 1 3 W y.heap.size ov ((List.range j).map λq=>((((l.getD k ⟨⟨0,0⟩,0⟩)).o/2^q%2:Nat):Int)))∧(j≤S.on.length)∧(True)) (λ(j,ov)=>S.on.length-j) ((0, .slice none 0 0)) ⟨rfl,trivial⟩ ⟨hB,g,i,cH.nil,(my _),trivial⟩ ?_
 rintro⟨j,ov⟩ a9 ba ⟨hB,g,i,hov,hj,_⟩ bb aD
 refine Zr<|Zv (dq rfl rfl)<|ct<|Zq<|ZQ rfl (λaE=> ?_) λaE=> ?_
 refine cx<|Zq<|cy<|Zr<|Zi rfl<|ZZ rfl ?_
 have hdv:(l.getD k ⟨⟨0,0⟩,0⟩).o/2^((j:Nat):Int).toNat<iA .u8:=abr (abV _ _) ay
 refine eP (λa b=>a.grownBy b ov.ownBlock) fC (λaF aG=> ?_)
 obtain⟨hB,g,i,hov⟩:=aG.k4 hB g i hov
 have O:=hov
 have hS:=World.grownBy.refl aF ov.ownBlock
 refine Tf 0 rfl rfl gX hS<|Tk 1 rfl (λ_ hq=>cD (v:=ov) rfl fp (At.cell (At.grownOw i O hq Dd) rfl)) hS<|Tf 2 rfl rfl fF hS<|Tk 3 rfl (λ_ hq=>cD (v:= .int .u8 _) rfl dN (At.cell (At.grownOw g O hq Dd) rfl)) hS<|Ti 4 rfl rfl hS<|Tk 5 rfl (λ_ _=>qQ rfl rfl Om (by simp only[IntKind.bits];omega)) hS<|Tk 6 rfl (λ_ _=>m5 (n:=1) rfl rfl rfl (by exact hdv) Dd) hS<|Tk 7 rfl (λ_ _=>i7 rfl Tryz.underlying5 Tryz.underlying3 (by exact abr aci Dd)) hS<|To 8 rfl (eC (u:= .int .i64 _) rfl cV eL rfl Dd Dd λaH bc bd F aI=>⟨.inl (cB hS (dC.grown F ov.ownBlock)),?_⟩)
 obtain⟨hB,g,i,hov⟩:=F.k4 hB g i hov
 replace hS:=cB hS (dC.grown F ov.ownBlock)
 refine To 9 rfl (dR (v:=ov) (v2:= .slice (some ⟨aH,0,none⟩) 1 1) rfl rfl cV eL Dd hov (eK aI rfl) rfl (mV hB) (by rw[aby,List.length_range];omega) (by rw[aby,List.length_range];omega) λP bf z p=>⟨.inl (cB hS z),?_⟩)
 replace hS:=cB hS z
 replace p:=cH.snoc (enc:=dT) (x:=_) rfl rfl rfl rfl p
 replace hB:=ZG hB z hov
 replace g:=At.grownOw g hov z Dd
 replace i:=At.grownOw i hov z Dd
 refine Tf 10 rfl rfl gX hS<|To 11 rfl (db (v:=P) rfl rfl fp (dp.one p.sl) i fD λbg G aJ=>⟨.inr ka,?_⟩)
 replace hB:=Zg hB G M
 replace g:=At.grownAt g i G Dd
 replace p:=cH.grownAt p i G Dd
 replace i:=aJ
 replace i:At _ _ #[_,_,_] _:=i
 refine Td<|ZT rfl rfl rfl ?_
 exact aD _ _ ((j+1,P)) Za ⟨rfl,trivial⟩ ⟨hB,g,(by exact i),(by rw[←LE];exact p),Om,trivial⟩ (by show S.on.length-(j+1)<S.on.length-j;omega)
 refine cT ?_
 replace e:=On hB e
 replace d:=On hB d
 replace f:=On hB f
 replace hlv:=Below.ow hB hlv
 replace hls:=f6.below hB hls
 have hzs:=go (am _) (Below.size L)
 replace hov:=cH.mono hov hzs
 replace hB:=Below.trans L (Below.mono hB hzs)
 have hvl:vs.length=k:=by have:=hls.len;rw[aby,aa4]at this;omega
 have hj2:j=S.on.length:=by omega
 rw[hj2]at hov
 refine cI<|Zf rfl fW<|ZL lv rfl iU f rfl<|Zv (cz rfl f7 rfl i)<|Zy (eC (u:= .agg #[_,_,_]) rfl gY oQ rfl Dd Dd λaK bh bi aL aM=> ?_)
 obtain⟨e,d,f,hlv,hls,hB,hov⟩:=aL.k7 e d f hlv hls hB hov
 refine Zy (dR (v:=lv) (v2:= .slice (some ⟨aK,0,none⟩) 1 1) rfl rfl gY oQ Dd hlv (eK aM rfl) (oV (dp.one (cH.sl hov))) (mV hB) Om Om λQ bj r s=> ?_)
 replace s:=cH.snoc (enc:=ik) (x:=⟨(l.getD k ⟨⟨0,0⟩,0⟩).c,ov⟩) rfl rfl rfl rfl s
 replace e:=At.grownOw e hlv r Dd
 replace d:=At.grownOw d hlv r Dd
 replace f:=At.grownOw f hlv r Dd
 replace hls:=f6.grownOw hls hlv r Dd
 replace hB:=ZG hB r hlv
 replace hov:=cH.grownOw hov hlv r Dd
 refine Zf rfl fW<|Zy (db (v:=Q) rfl rfl iU (dp.one s.sl) f fD λbk t aN=> ?_)
 replace e:=At.grownAt e f t Dd
 replace d:=At.grownNe d K t
 replace hls:=f6.grownAt hls f t Dd
 replace hB:=Zg hB t J
 replace hov:=cH.grownAt hov f t Dd
 replace s:=cH.grownAt s f t Dd
 replace f:=aN
 replace f:At _ _ #[_,_,_,_] _:=f
 refine ct<|ZT rfl rfl rfl ?_
 exact ao _ _ ((k+1,Q,vs++[⟨(l.getD k ⟨⟨0,0⟩,0⟩).c,ov⟩])) Za ⟨rfl,trivial⟩ ⟨hB,e,d,(by exact f),(by exact s),(by rw[La Om];exact f6.snoc (l:=O7 S.on.length (l.getD k ⟨⟨0,0⟩,0⟩)) hls rfl hov),Om,trivial⟩ (by show l.length-(k+1)<l.length-k;omega)
 refine cT ?_
 obtain rfl:k=l.length:=by omega
 rw[aa7]at hls
 refine Zr<|Zv (cz rfl dX rfl f)<|Zy (cA rfl rfl dX rfl d rfl (by exact qv (dp.one (cH.sl hlv))) λbl H aO=> ?_)
 replace hB:=Zg hB H A
 replace hlv:=cH.grownAt hlv d H Dd
 replace hls:=f6.grownAt hls d H Dd
 replace d:=aO
 refine ZZ rfl<|Zt<|eh rfl dX d rfl (v1:= .int .i64 0) rfl ⟨hB,?_⟩
 (rw[if_pos ⟨hr,hm⟩,if_pos (by omega)];exact⟨_,_,rfl,hlv,hls⟩)
end
end Go.Proofs.YtedeonkjellcpaaGreatDoor
