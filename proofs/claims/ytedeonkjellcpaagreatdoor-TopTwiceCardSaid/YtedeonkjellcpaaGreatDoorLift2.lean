/- Words and walks of the row. No condition. -/
import Derived.Test.YtedeonkjellcpaaGreatDoorLiftT
namespace Go.Proofs.YtedeonkjellcpaaGreatDoor
open Go Go.RowKit
set_option autoImplicit true
set_option relaxedAutoImplicit true
set_option linter.unusedVariables false
set_option linter.unusedSimpArgs false
section
theorem wu {m u:Nat} {n:Int} {v:Value} (h:v=if dS m u n=true then .tuple #[el (rj m u n.toNat), .int .i64 0]else .tuple #[el 0, .int .i64 1]):
  ∃(sa:Nat) (er:Int),v= .tuple #[el sa, .int .i64 er]∧((dS m u n=true∧sa=rj m u n.toNat∧er=0)∨(dS m u n=false∧er=1)):=by
 grind
theorem WG {m u s sa:Nat} {n er:Int} (h:(dS m u n=true∧sa=rj m u n.toNat∧er=0)∨(dS m u n=false∧er=1)) (h0:er=0):dW sa s=tV m u s n:=by
 grind [Vp]
theorem Uu {m u s sa:Nat} {n er:Int} (h:(dS m u n=true∧sa=rj m u n.toNat∧er=0)∨(dS m u n=false∧er=1)) (h0:¬er=0):false=tV m u s n:=by
 grind [ZN]
theorem YF {m u m2 u2:Nat} (h:(m:Int)<(m2:Int)):true=z7 ⟨m,u⟩ ⟨m2,u2⟩:=by grind [lS]
theorem Yo {m u m2 u2:Nat} (_h:¬(m:Int)<(m2:Int)) (h2:(m:Int)=(m2:Int)):decide ((u:Int)<(u2:Int))=z7 ⟨m,u⟩ ⟨m2,u2⟩:=by
 rw[acb,lS,decide_eq_true_eq]
 grind
theorem ZM {m u m2 u2:Nat} (h:¬(m:Int)<(m2:Int)) (h2:¬(m:Int)=(m2:Int)):false=z7 ⟨m,u⟩ ⟨m2,u2⟩:=by
 symm
 refine aaT.2 λh3=> ?_
 grind [lS]
theorem Oj (hi:0<i) (h:(!z7 (l.getD ((i:Int)-1).toNat ⟨0,0⟩) c)=true):oG l c i=oG l c (i-1):=by
 obtain⟨j,rfl⟩:∃j,i=j+1:=⟨i-1,by omega⟩
 have e:((j+1:Nat):Int)-1=(j:Int):=by omega
 rw[e,my]at h
 simp only[oG]
 grind
theorem Ji (h:i=0∨(!z7 (l.getD ((i:Int)-1).toNat ⟨0,0⟩) c)=false):oG l c i=i:=by
 rcases h with rfl|h
 ·rfl
 ·cases i with
  |zero=>rfl
  |succ j=>
   have e:((j+1:Nat):Int)-1=(j:Int):=by omega
   rw[e,my]at h
   simp only[oG]
   rw[if_pos (by simpa using h)]
theorem tj {sz:Nat} {v:Value} {h:Nat} {α:Type} {l:List α} (e:((l.drop 0).take (h-0)).length=h-0):jn (fY sz v 0 h h)=((l.drop 0).take (h-0)).length:=e.symm
def jI (c:Cb) (i:Nat):Cb:=⟨lK c.m (i:Int),c.v &&& lK c.m (i:Int)⟩
def K9 (c:Cb) (i:Nat):Cb:=⟨c.m,c.v ^^^ 2^i⟩
def imp (s:Nat) (n:Int) (c:Cb):Prop:=tV c.m c.v s n=true
theorem gw:imp s n c↔dS c.m c.v n=true∧∀p,p<2^n.toNat→p &&& c.m=c.v→s.testBit p=true:=by
 unfold imp tV
 rw[so]
 grind [dB,fm,dJ,kg]
theorem fD {m v:Nat} (h:v &&& m=v) (j:Nat):v.testBit j=(v.testBit j&&m.testBit j):=by
 grind
theorem B5 {m v i p:Nat} (hi:i<8) (hb:m.testBit i=true) (hv:v &&& m=v):p &&& lK m (i:Int)=v &&& lK m (i:Int)↔(p &&& m=v∨p &&& m=v ^^^ 2^i):=by
 have hw:=λj=>fH (m:=m) hi j
 have hvb:=fD hv
 constructor
 ·intro h
  have hj:∀j,j≠i→(p.testBit j&&m.testBit j)=(v.testBit j&&m.testBit j):=λj hj=>by
   have:=congrArg (λx=>x.testBit j) h
   simp only[abd,hw,decide_eq_true hj,acx]at this
   exact this
  by_cases e:p.testBit i=v.testBit i
  ·left
   refine aaF λj=> ?_
   rw[abd,hvb j]
   by_cases hji:j=i
   ·subst hji;rw[e]
   ·exact hj j hji
  ·right
   refine aaF λj=> ?_
   rw[abd,Nat.testBit_xor,ab5]
   by_cases hji:j=i
   ·subst hji
    rw[hb]
    cases hp:p.testBit j<;>cases hq:v.testBit j<;>simp_all
   ·have:¬i=j:=λh=>hji h.symm
    rw[hj j hji,←hvb j]
    simp[this]
 ·rintro(h|h)
  ·refine aaF λj=> ?_
   have:=congrArg (λx=>x.testBit j) h
   simp only[abd]at this
   rw[abd,abd,hw,←Bool.and_assoc,this,←Bool.and_assoc,←hvb j]
  ·refine aaF λj=> ?_
   have:=congrArg (λx=>x.testBit j) h
   simp only[abd,Nat.testBit_xor,ab5]at this
   rw[abd,abd,hw,←Bool.and_assoc,this,←Bool.and_assoc,←hvb j]
   by_cases hji:j=i
   ·subst hji;simp
   ·have:¬i=j:=λh=>hji h.symm
    simp[this]
theorem FP {m v i:Nat} {n:Int} (h:dS m v n=true):dS (lK m (i:Int)) (v &&& lK m (i:Int)) n=true:=by
 grind [dB,zR,Nat.and_assoc]
theorem Hz {m v i:Nat} {n:Int} (h:dS m v n=true) (hb:m.testBit i=true):dS m (v ^^^ 2^i) n=true:=by
 obtain⟨h0,h8,hm,hv⟩:=dB.1 h
 refine dB.2 ⟨h0,h8,hm,aaF λj=> ?_⟩
 grind
theorem C6 (hr:dS c.m c.v n=true) (hi:i<n.toNat) (hb:c.m.testBit i=true):imp s n (jI c i)↔imp s n c∧imp s n (K9 c i):=by
 obtain⟨h0,h8,hm,hv⟩:=dB.1 hr
 have hw:=λp=>B5 (p:=p) (i:=i) (by omega) hb hv
 rw[gw,gw,gw]
 constructor
 ·rintro⟨h1,h2⟩
  exact⟨⟨hr,λp hp hpm=>h2 p hp ((hw p).2 (.inl hpm))⟩,⟨Hz hr hb,λp hp hpm=>h2 p hp ((hw p).2 (.inr hpm))⟩⟩
 ·rintro⟨⟨_,h1⟩,⟨_,h2⟩⟩
  refine⟨FP hr,λp hp hpm=> ?_⟩
  rcases(hw p).1 hpm with h|h
  ·exact h1 p hp h
  ·exact h2 p hp h
def pU (m:Nat):Nat→Nat
 |0=>0
 |k+1=>pU m k+if m.testBit k=true then 1 else 0
theorem zg (m:Nat):∀k,pU m k≤k
 |0=>am _
 |k+1=>by
  have:=zg m k
  simp only[pU]
  split<;>omega
theorem Ga {m i:Nat} (hi:i<8) (hb:m.testBit i=true):∀k,pU (lK m (i:Int)) k+(if i<k then 1 else 0)=pU m k
 |0=>by simp[pU]
 |k+1=>by
  have ih:=Ga hi hb k
  simp only[pU,fH hi]
  by_cases e:k=i
  ·subst e
   rw[if_neg (Nat.lt_irrefl _)]at ih
   simp[hb,←ih]
  ·rw[decide_eq_true e,acx]
   by_cases h2:i<k
   ·rw[if_pos h2]at ih
    simp only[show i<k+1 from by omega,if_true]
    omega
   ·rw[if_neg h2]at ih
    simp only[show ¬i<k+1 from by omega,if_false]
    omega
theorem CQ:∀k,pU m k=k→∀i,i<k→m.testBit i=true
 |0,_,i,hi=>absurd hi (Nat.not_lt_zero _)
 |k+1,h,i,hi=>by
  have:=zg m k
  simp only[pU]at h
  split at h
  ·rename_i hk
   rcases aaU.1 hi with h2|rfl
   ·exact CQ k (by omega) i h2
   ·exact hk
  ·omega
theorem uA:∀k,(∀i,i<k→m.testBit i=true)→pU m k=k
 |0,_=>rfl
 |k+1,h=>by
  have:=uA k (λi hi=>h i (by omega))
  simp only[pU,this,h k (acY _),if_true]
theorem LJ (h:pU m k<k):∃i,i<k∧m.testBit i=false:=by
 refine Decidable.byContradiction λhn=> ?_
 have:=uA (m:=m) k (λi hi=>by
  refine Decidable.byContradiction λh2=>hn ⟨i,hi,by simpa using h2⟩)
 omega
def uE (n:Int) (c:Cb):Nat:=pU c.m n.toNat
theorem NB {n:Int} {c:Cb} {i:Nat} (h8:n≤8) (hi:i<n.toNat) (hb:c.m.testBit i=true):uE n (jI c i)+1=uE n c:=by
 have h:=Ga (m:=c.m) (i:=i) (by omega) hb n.toNat
 rwa [if_pos hi]at h
theorem Cz {s:Nat} {n:Int} {d:Cb} (h:imp s n d) (hc:uE n d<n.toNat):∃c i,i<n.toNat∧c.m.testBit i=true∧imp s n c∧imp s n (K9 c i)∧d=jI c i∧uE n c=uE n d+1:=by
 obtain⟨i,hi,hb⟩:=LJ hc
 have hr:=(gw.1 h).1
 obtain⟨h0,h8,hm,hv⟩:=dB.1 hr
 have hvb:=fD hv
 have hi8:i<8:=by omega
 have hb2:(d.m ||| 2^i).testBit i=true:=by simp
 have e1:lK (d.m ||| 2^i) (i:Int)=d.m:=aaF λj=>by
  rw[fH hi8,acq,ab5]
  by_cases e:j=i
  ·subst e;simp[hb]
  ·have:¬i=j:=λh=>e h.symm
   simp[this,e]
 have hrc:dS (d.m ||| 2^i) d.v n=true:=by
  refine dB.2 ⟨h0,h8,Nat.or_lt_two_pow hm (ac3 (by decide) hi),aaF λj=> ?_⟩
  rw[abd,acq,hvb j]
  cases d.v.testBit j<;>cases d.m.testBit j<;>simp
 have hd:d=jI ⟨d.m ||| 2^i,d.v⟩ i:=by
  unfold jI
  simp only[e1,hv]
 have hw:=(C6 (s:=s) (c:=⟨d.m ||| 2^i,d.v⟩) hrc hi hb2).1 (hd▸h)
 refine⟨⟨d.m ||| 2^i,d.v⟩,i,hi,hb2,hw.1,hw.2,hd,?_⟩
 have:=NB (c:=⟨d.m ||| 2^i,d.v⟩) h8 hi hb2
 grind
def jz (now:List Cb) (c:Cb) (i:Nat):Prop:=c.m.testBit i=true∧K9 c i∈now
def jX (now:List Cb) (n:Int) (seen:List Cb) (d:Cb):Prop:=∃c,c∈seen∧∃i,i<n.toNat∧jz now c i∧d=jI c i
def gC (now:List Cb) (n:Int) (seen:List Cb) (d:Cb):Prop:=d∈seen∧∃i,i<n.toNat∧jz now d i
def pY (s:Nat) (n:Int) (t:Nat) (now:List Cb):Prop:=∀c,c∈now↔imp s n c∧uE n c+1=t
section
variable {s t:Nat} {n:Int} {now:List Cb}
theorem Ol (c:Cb) (i:Nat):uE n (K9 c i)=uE n c:=rfl
theorem Cq (h:pY s n t now) (hc:c∈now) (hi:i<n.toNat):jz now c i↔lF c.m c.v s n i=true:=by
 obtain⟨h1,h2⟩:=(h c).1 hc
 have hr:=(gw.1 h1).1
 unfold jz lF
 rw[so]
 constructor
 ·rintro⟨hb,hf⟩
  exact⟨hb,(C6 hr hi hb).2 ⟨h1,((h _).1 hf).1⟩⟩
 ·rintro⟨hb,hw⟩
  exact⟨hb,(h _).2 ⟨((C6 hr hi hb).1 hw).2,h2⟩⟩
theorem AY (h:pY s n t now) (hc:c∈now):gC now n now c↔iL c.m c.v s n=false:=by
 have h1:=((h c).1 hc).1
 rw[←Bool.not_eq_true,gF]
 constructor
 ·rintro⟨_,i,hi,hp⟩ ⟨_,h3⟩
  have:=h3 i hi
  rw[(Cq h hc hi).1 hp]at this
  cases this
 ·intro h2
  refine⟨hc,Classical.byContradiction λhn=>h2 ⟨h1,λi hi=> ?_⟩⟩
  refine aaT.2 λhs=>hn ⟨i,hi,(Cq h hc hi).2 hs⟩
theorem Hr (h8:n≤8) (h:pY s n (t+1) now) (ht:t≤n.toNat) (hn:∀d,d∈nl↔jX now n now d):pY s n t nl:=by
 intro d
 rw[hn]
 constructor
 ·rintro⟨c,hc,i,hi,hp,rfl⟩
  obtain⟨h1,h2⟩:=(h c).1 hc
  have hr:=(gw.1 h1).1
  refine⟨(C6 hr hi hp.1).2 ⟨h1,((h _).1 hp.2).1⟩,?_⟩
  have:=NB (c:=c) h8 hi hp.1
  omega
 ·rintro⟨h1,h2⟩
  obtain⟨c,i,hi,hb,hc,hf,hd,hcnt⟩:=Cz h1 (by omega)
  exact⟨c,(h c).2 ⟨hc,by omega⟩,i,hi,⟨hb,(h _).2 ⟨hf,by rw[Ol];omega⟩⟩,hd⟩
def Au (s:Nat) (n:Int) (t:Nat) (out:List Cb):Prop:=∀c,c∈out↔iL c.m c.v s n=true∧t≤uE n c
theorem Oe {out out2 ml:List Cb} (h:pY s n (t+1) now) (ho:Au s n (t+1) out) (hm:∀d,d∈ml↔gC now n now d) (h2:∀c,c∈out2↔c∈out∨(c∈now∧c∉ml)):Au s n t out2:=by
 intro c
 rw[h2,ho,hm]
 constructor
 ·rintro(⟨h3,h4⟩|⟨h3,h4⟩)
  ·exact⟨h3,by omega⟩
  ·rw[AY h h3,Bool.not_eq_false]at h4
   exact⟨h4,by have:=((h c).1 h3).2;omega⟩
 ·rintro⟨h3,h4⟩
  by_cases e:t+1≤uE n c
  ·exact .inl ⟨h3,e⟩
  ·have hc:c∈now:=(h c).2 ⟨(gF.1 h3).1,by omega⟩
   exact .inr ⟨hc,by rw[AY h hc,Bool.not_eq_false];exact h3⟩
theorem AX (ht:t≤n.toNat+1) (h:pY s n t []):∀(k:Nat) (c:Cb),imp s n c→uE n c+1+k=t→False
 |0,c,hc,e=>by have:=(h c).2 ⟨hc,e⟩;simp at this
 |k+1,c,hc,e=>by
  obtain⟨c',i,hi,hb,hc',hf,hd,hcnt⟩:=Cz hc (by omega)
  exact AX ht h k c' hc' (by omega)
theorem TB {out:List Cb} (ht:t≤n.toNat+1) (h:pY s n t []) (ho:Au s n t out) (hr:jq out):out=eE s n:=by
 refine AO hr (sk s n) λc=> ?_
 rw[ho,oP]
 constructor
 ·exact λh=>h.1
 ·intro hp
  refine⟨hp,Decidable.byContradiction λhlt=> ?_⟩
  exact AX ht h (t-(uE n c+1)) c (gF.1 hp).1 (by omega)
theorem P8:Au s n (n.toNat+1) []:=by
 intro c
 grind [zg,uE]
theorem Fz (hs:yv s n=true) (hk:∀c,c∈ks↔∃x∈ej s,c=⟨2^n.toNat-1,x.toNat⟩):pY s n (n.toNat+1) ks:=by
 unfold yv at hs
 simp only[so,decide_eq_true_eq]at hs
 obtain⟨h0,h8,hw⟩:=hs
 have hp8:=fm h8
 have hpt:∀p,p<256→s.testBit p=true→p<2^n.toNat:=λp hp h=>by
  have:=dJ.1 hw p hp h
  rw[fo]at this
  simpa using this
 intro c
 rw[hk]
 constructor
 ·rintro⟨x,hx,rfl⟩
  obtain⟨p,hp,hb,rfl⟩:=jC.1 hx
  have hlt:=hpt p hp hb
  have e:∀q,q<2^n.toNat→q &&& (2^n.toNat-1)=q:=λq hq=>by rw[acT,ada hq]
  refine⟨gw.2 ⟨dB.2 ⟨h0,h8,by have:=ace n.toNat;simp only;omega,e p hlt⟩,λq hq h=> ?_⟩,?_⟩
  ·simp only[my]at h
   rw[e q hq]at h
   rw[h];exact hb
  ·unfold uE
   rw[uA n.toNat (λi hi=>by rw[adx];simpa using hi)]
 ·rintro⟨h1,h2⟩
  have h3:=gw.1 h1
  obtain⟨_,_,hm,hv⟩:=dB.1 h3.1
  have hm2:c.m=2^n.toNat-1:=aaF λj=>by
   rw[adx]
   by_cases hj:j<n.toNat
   ·rw[CQ n.toNat (by unfold uE at h2;omega) j hj];simp[hj]
   ·rw[ac8 (ab0 hm (aaV (by decide) (by omega)))];simp[hj]
  have hlt:=(nR h3.1).2
  refine⟨(c.v:Int),jC.2 ⟨c.v,by omega,h3.2 c.v hlt hv,rfl⟩,?_⟩
  cases c
  grind
end
theorem FF {α:Type} [DecidableEq α]:∀{l l':List α},l.Nodup→(∀a∈l,a∈l')→l.length≤l'.length
 |[],_,_,_=>by simp
 |a::l,l',h,hs=>by
  obtain⟨h1,h2⟩:=List.nodup_cons.1 h
  have ha:=hs a fF
  have:=FF (l:=l) (l':=l'.erase a) h2 (λb hb=>by
   have hne:b≠a:=λe=>h1 (e▸hb)
   exact(List.mem_erase_of_ne hne).2 (hs b (by simp[hb])))
  rw[ado ha]at this
  have:=acl ha
  simp only[aaW]
  omega
theorem sM {n:Int} {v:Value} (h:v=if 0≤n∧n≤8 then .tuple #[el (fk n.toNat), .int .i64 0]else .tuple #[el 0, .int .i64 1]):
  ∃(sa:Nat) (er:Int),v= .tuple #[el sa, .int .i64 er]∧((0≤n∧n≤8∧sa=fk n.toNat∧er=0)∨(¬(0≤n∧n≤8)∧er=1)):=by
 grind
theorem J1 {s sa:Nat} {n er:Int} (h:(0≤n∧n≤8∧sa=fk n.toNat∧er=0)∨(¬(0≤n∧n≤8)∧er=1)) (h0:¬er=0):¬yv s n=true:=by
 rcases h with ⟨_,_,_,h2⟩|⟨h1,_⟩
 ·exact absurd h2 h0
 ·unfold yv
  grind
theorem KK {s sa:Nat} {n er:Int} (h:(0≤n∧n≤8∧sa=fk n.toNat∧er=0)∨(¬(0≤n∧n≤8)∧er=1)) (h0:¬¬er=0) (hw:(!dW s sa)=true):¬yv s n=true:=by
 rcases h with ⟨_,_,rfl,_⟩|⟨_,h2⟩
 ·unfold yv
  simp only[so,decide_eq_true_eq]
  intro h2
  rw[h2.2.2]at hw
  cases hw
 ·omega
theorem Nw {s sa:Nat} {n er:Int} (h:(0≤n∧n≤8∧sa=fk n.toNat∧er=0)∨(¬(0≤n∧n≤8)∧er=1)) (h0:¬¬er=0) (hw:(!dW s sa)=false):yv s n=true:=by
 grind [yv,decide_eq_true]
theorem lf (h:yv s n=true):0≤n∧n≤8:=by
 unfold yv at h
 grind
theorem Vn {P:Program} {f:Nat→Value} {w:World} {d:Option Nat} {ty t t2:TypeId} {ps:String} {af:Array Edge} {g:Option (Nat×Bool)} {x y:Operand} {n:Int}
  (hx:dm f x= .int .u8 (IntKind.u8.wrap (1*2^(min n.toNat IntKind.u8.bits)))) (hy:dm f y= .int .u8 1) (h0:0≤n) (h8:n≤8):
  (execOp (dm f) ⟨d, .binOp .sub t x y t2,ty,ps,af,g⟩).run P w= .ok (.value (.int .u8 ((2^n.toNat-1:Nat):Int))) w:=by
 rw[Og hx hy]
 have:∀k:Nat,k≤8→IntKind.u8.wrap (IntKind.u8.wrap (1*2^(min k IntKind.u8.bits))-1)=((2^k-1:Nat):Int):=λk hk=>by
  have:k=0∨k=1∨k=2∨k=3∨k=4∨k=5∨k=6∨k=7∨k=8:=by omega
  rcases this with rfl|rfl|rfl|rfl|rfl|rfl|rfl|rfl|rfl<;>decide
 grind
theorem Mq {M k p:Nat} {l:List Int} {ks:List Cb} (h:∀c,c∈ks↔∃j,j<k∧c=⟨M,(l.getD j 0).toNat⟩) (hp:l.getD k 0=(p:Int)):∀c,c∈jm ks ⟨M,p⟩↔∃j,j<k+1∧c=⟨M,(l.getD j 0).toNat⟩:=by
 intro c
 rw[gy,h]
 grind
theorem Ok {M k:Nat} {l:List Int} {ks:List Cb} (h:∀c,c∈ks↔∃j,j<k∧c=⟨M,(l.getD j 0).toNat⟩) (hk:k=l.length):∀c,c∈ks↔∃x∈l,c=⟨M,x.toNat⟩:=by
 intro c
 rw[h]
 constructor
 ·rintro⟨j,hj,rfl⟩
  exact⟨_,dF (by omega),rfl⟩
 ·rintro⟨x,hx,rfl⟩
  obtain⟨j,hj,rfl⟩:=List.mem_iff_getElem.1 hx
  exact⟨j,by omega,by simp[hj]⟩
section
variable {s t:Nat} {n:Int} {now seen nl ml out:List Cb}
theorem ER (l:List α):(fC l).length=l.length:=by simp[fC]
theorem F4 {α:Type} {l:List α} {k:α} {v:Bool} (h:(k,v)∈fC l):k∈l∧v=true:=by
 grind [fC]
theorem LH (h:pY s n t now) (h0:(0:Int)<((fC now).length:Int)):∃t',t=t'+1:=by
 rw[ER]at h0
 obtain⟨c,hc⟩:=List.exists_mem_of_length_pos (l:=now) (by omega)
 exact⟨_,((h c).1 hc).2.symm⟩
theorem IW {l:List Cb} (h0:¬(0:Int)<((fC l).length:Int)):l=[]:=by
 rw[ER]at h0
 simp_all
theorem yV (h:pY s n t now) (h8:n≤8) (hc:c∈now):c.m<256∧c.v<256:=by
 have h1:=nR (gw.1 ((h c).1 hc).1).1
 grind [fm]
theorem HN:∀d,d∈([]:List Cb)↔jX now n [] d:=by grind [jX]
theorem C8:∀d,d∈([]:List Cb)↔gC now n [] d:=by grind [gC]
theorem L8 (h:∀d,d∈nl↔jX now n seen d):∀d,d∈nl↔jX now n seen d∨∃q,q<0∧jz now kk q∧d=jI kk q:=by grind
theorem GM (h:∀d,d∈ml↔gC now n seen d):∀d,d∈ml↔gC now n seen d∨(d=kk∧∃q,q<0∧jz now kk q):=by grind
theorem Ob (h:∀d,d∈nl↔jX now n seen d∨∃q,q<i∧jz now kk q∧d=jI kk q) (hp:jz now kk i):
  ∀d,d∈jm nl (jI kk i)↔jX now n seen d∨∃q,q<i+1∧jz now kk q∧d=jI kk q:=by grind [gy,Nat.lt_succ_iff_lt_or_eq]
theorem Cr (h:∀d,d∈nl↔jX now n seen d∨∃q,q<i∧jz now kk q∧d=jI kk q) (hp:¬jz now kk i):
  ∀d,d∈nl↔jX now n seen d∨∃q,q<i+1∧jz now kk q∧d=jI kk q:=by grind
theorem Ht (h:∀d,d∈ml↔gC now n seen d∨(d=kk∧∃q,q<i∧jz now kk q)) (hp:jz now kk i):
  ∀d,d∈jm ml kk↔gC now n seen d∨(d=kk∧∃q,q<i+1∧jz now kk q):=by grind [gy]
theorem xP (h:∀d,d∈ml↔gC now n seen d∨(d=kk∧∃q,q<i∧jz now kk q)) (hp:¬jz now kk i):
  ∀d,d∈ml↔gC now n seen d∨(d=kk∧∃q,q<i+1∧jz now kk q):=by grind
theorem OT (h:∀d,d∈nl↔jX now n seen d∨∃q,q<i∧jz now kk q∧d=jI kk q) (hi:i=n.toNat):∀d,d∈nl↔jX now n (kk::seen) d:=by grind [jX,List.mem_cons_of_mem,List.mem_cons_self]
theorem HJ (h:∀d,d∈ml↔gC now n seen d∨(d=kk∧∃q,q<i∧jz now kk q)) (hi:i=n.toNat):∀d,d∈ml↔gC now n (kk::seen) d:=by grind [gC,List.mem_cons_of_mem,List.mem_cons_self]
theorem Cj (h1:((m/2^((i:Nat):Int).toNat &&& 1:Nat):Int)=1) (h2:(iN (fC now) ⟨m,v ^^^ 1*2^((i:Nat):Int).toNat⟩).getD false=true):jz now ⟨m,v⟩ i:=by
 rw[my]at h1 h2
 rw[mU,decide_eq_true_eq,abJ]at h2
 exact⟨qm.1 h1,h2⟩
theorem Cw (h1:¬((m/2^((i:Nat):Int).toNat &&& 1:Nat):Int)=1):¬jz now ⟨m,v⟩ i:=by
 rw[my]at h1
 exact λh=>h1 (qm.2 h.1)
theorem CA (h2:(iN (fC now) ⟨m,v ^^^ 1*2^((i:Nat):Int).toNat⟩).getD false=false):¬jz now ⟨m,v⟩ i:=by
 rw[my]at h2
 rw[mU,decide_eq_false_iff_not,abJ]at h2
 exact λh=>h2 h.2
theorem MD (h:∀d,d∈nl↔jX now n seen d) (hs:∀c,c∈seen↔c∈now):∀d,d∈nl↔jX now n now d:=by grind [jX]
theorem GQ (h:∀d,d∈ml↔gC now n seen d) (hs:∀c,c∈seen↔c∈now):∀d,d∈ml↔gC now n now d:=by grind [gC]
theorem G0 (h:eT jo Value.bool w it b (fC now) seen):∀c∈seen,c∈now:=λc hc=>by
 have:=h.sub c hc
 rwa [CM]at this
theorem Fa (h:eT jo Value.bool w it b (fC now) seen) (hd:∀p∈fC now,p.1∈seen):∀c,c∈seen↔c∈now:=λc=>
 ⟨G0 h c,λhc=>hd (c,true) (abS.2 ⟨c,hc,rfl⟩)⟩
theorem adE {α β:Type} [DecidableEq α] {enc:α→Value} {encV:β→Value} {w:World} {it b:Nat} {l:List (α×β)} {seen:List α} (h:eT enc encV w it b l seen):seen.length≤l.length:=by
 have:=FF h.nodup h.sub
 simpa using this
theorem XQ:∀c,c∈out↔c∈out∨(c∈([]:List Cb)∧c∉ml):=by grind
theorem TE (h:∀c,c∈out2↔c∈out∨(c∈seen∧c∉ml)) (hk:kk∉ml):∀c,c∈DF out2 kk↔c∈out∨(c∈kk::seen∧c∉ml):=by grind [NA]
theorem SR {out2:List Cb} {kk:Cb} (h:∀c,c∈out2↔c∈out∨(c∈seen∧c∉ml)) (hk:kk∈ml):∀c,c∈out2↔c∈out∨(c∈kk::seen∧c∉ml):=by grind
theorem Rl {out2:List Cb} (h:∀c,c∈out2↔c∈out∨(c∈seen∧c∉ml)) (hs:∀c,c∈seen↔c∈now):∀c,c∈out2↔c∈out∨(c∈now∧c∉ml):=by grind
theorem WY {out2:List Cb} {kk:Cb} (hL:pY s n (t+1) now) (hO:Au s n (t+1) out) (h:∀c,c∈out2↔c∈out∨(c∈seen∧c∉ml)) (hk:kk∈now) (hs:kk∉seen):kk∉out2:=λhm=>by
 rcases(h kk).1 hm with h1|h1
 ·have h2:=((hO kk).1 h1).2
  have h3:=((hL kk).1 hk).2
  omega
 ·exact hs h1.1
theorem Qv (hL:pY s n (t+1) now) (h8:n≤8) (hO:Au s n (t+1) out) (h:∀c,c∈out2↔c∈out∨(c∈seen∧c∉ml)) (hs:∀c∈seen,c∈now) (hR:jq out2):out2.length≤65536:=
 CU hR λc hc=>by
  rcases(h c).1 hc with h1|h1
  ·have h2:=nR (mN ((hO c).1 h1).1)
   have:=fm h8
   omega
  ·exact yV hL h8 (hs c h1.1)
theorem N5 (h:(!(iN (fC ml) ⟨kk.m,kk.v⟩).getD false)=true):kk∉ml:=by
 rw[mU]at h
 simpa using h
theorem Qt (h:(!(iN (fC ml) ⟨kk.m,kk.v⟩).getD false)=false):kk∈ml:=by
 rw[mU]at h
 simpa using h
end
theorem Sd {s:Nat} {n:Int} {v:Value} {w':World} {N:Nat} {T:TypeId} (h:if yv s n=true then ∃x,v= .tuple #[x, .int .i64 0]∧cH iI 2 T w' N x (eE s n)else v= .tuple #[.slice none 0 0, .int .i64 1]):
  ∃(x:Value) (er:Int) (l:List Cb),v= .tuple #[x, .int .i64 er]∧cH iI 2 T w' N x l∧((yv s n=true∧er=0∧l=eE s n)∨(yv s n=false∧er=1∧l=[])):=by
 by_cases ho:yv s n=true
 ·rw[if_pos ho]at h
  obtain⟨x,h1,h2⟩:=h
  exact⟨x,0,_,h1,h2, .inl ⟨ho,rfl,rfl⟩⟩
 ·rw[if_neg ho]at h
  exact⟨_,1,[],h,cH.nil, .inr ⟨by simpa using ho,rfl,rfl⟩⟩
theorem xw (h:n≤8):(eE s n).length≤65536:=by
 have h1:=xH s n (2^n.toNat)
 have h2:=fm h
 have h3:2^n.toNat*2^n.toNat≤256*256:=adf h2 h2
 unfold eE
 omega
end
section
theorem ot:jF a b=true↔∀j,a.m.testBit j=true→b.m.testBit j=true∧a.v.testBit j=b.v.testBit j:=by
 unfold jF
 rw[so,decide_eq_true_eq,decide_eq_true_eq]
 constructor
 ·rintro⟨h1,h2⟩ j hj
  have e1:=congrArg (λx=>x.testBit j) h1
  have e2:=congrArg (λx=>x.testBit j) h2
  simp only[ee,abd,Nat.testBit_xor,acn,hj,ack,acx]at e1 e2
  exact⟨by simpa using e1,by simpa using e2⟩
 ·intro h
  constructor
  ·refine aaF λj=> ?_
   rw[ee,acn]
   cases hj:a.m.testBit j with
   |false=>rfl
   |true=>rw[(h j hj).1];rfl
  ·refine aaF λj=> ?_
   rw[abd,Nat.testBit_xor,acn]
   cases hj:a.m.testBit j with
   |false=>simp
   |true=>rw[(h j hj).2];simp
theorem Iy (a:Cb):jF a a=true:=by grind [ot]
theorem E8 (h:jF a b=true) (k:jF b c=true):jF a c=true:=by
 grind [ot]
theorem Pt (hi:i<8):jF (jI c i) c=true:=ot.2 λj hj=>by
 have hj':(lK c.m (i:Int)).testBit j=true:=hj
 have hv:(jI c i).v.testBit j=(c.v &&& lK c.m (i:Int)).testBit j:=rfl
 rw[fH hi,so]at hj'
 refine⟨hj'.1,?_⟩
 rw[hv,abd,fH hi,hj'.1,hj'.2]
 simp
theorem mQ (ha:a.v &&& a.m=a.v) (h:jF a b=true) (hp:p &&& b.m=b.v):p &&& a.m=a.v:=by
 rw[ot]at h
 refine aaF λj=> ?_
 grind
def ma (l:List Cb) (n:Nat):Nat→Nat
 |0=>0
 |k+1=>ma l n k ||| rj (l.getD k ⟨0,0⟩).m (l.getD k ⟨0,0⟩).v n
theorem ve (hn:n≤8) (p:Nat):∀k,(ma l n k).testBit p=true↔∃j,j<k∧p<2^n∧p &&& (l.getD j ⟨0,0⟩).m=(l.getD j ⟨0,0⟩).v
 |0=>by simp[ma]
 |k+1=>by
  simp only[ma,acq,acr,ve hn p k,kg hn,so,decide_eq_true_eq]
  constructor
  ·rintro(⟨j,hj,h⟩|h)
   ·exact⟨j,by omega,h⟩
   ·exact⟨k,by omega,h⟩
  ·rintro⟨j,hj,h⟩
   rcases aaU.1 hj with hj|rfl
   ·exact .inl ⟨j,hj,h⟩
   ·exact .inr h
theorem fh {α:Type} {l:List α} {a d:α} (h:a∈l):∃j,j<l.length∧l.getD j d=a:=by
 obtain⟨j,hj,rfl⟩:=List.mem_iff_getElem.1 h
 exact⟨j,hj,by simp[hj]⟩
theorem O6 (h:i<(eE s n).length):iL ((eE s n).getD i ⟨0,0⟩).m ((eE s n).getD i ⟨0,0⟩).v s n=true:=oP.1 (dF h)
end
section
def uk (p i:Nat) (one:Bool):Nat:=if p.testBit i=one then p else p ^^^ 2^i
theorem sR (p i j:Nat):(p ^^^ 2^i).testBit j=if j=i then !p.testBit j else p.testBit j:=by
 grind
theorem nC (p i j:Nat) (one:Bool):(uk p i one).testBit j=if j=i then one else p.testBit j:=by
 grind [uk,sR]
theorem lM {one:Bool} (h:p.testBit i=one):uk p i one=p:=if_pos h
theorem gI:p<2^n↔∀j,n≤j→p.testBit j=false:=by
 grind [Nat.testBit_lt_two_pow,Nat.lt_of_lt_of_le,Nat.pow_le_pow_right,Nat.lt_pow_two_of_testBit]
theorem lB {one:Bool} (hi:i<n):uk p i one<2^n↔p<2^n:=by
 rw[gI,gI]
 constructor
 ·intro h j hj
  have:=h j hj
  rwa [nC,if_neg (by omega)]at this
 ·intro h j hj
  rw[nC,if_neg (by omega)]
  exact h j hj
theorem DV (hi:i<n) (h:p<2^n):p ^^^ 2^i<2^n:=Nat.xor_lt_two_pow h (ac3 (by decide) hi)
theorem su (p i j:Nat) (one:Bool):uk (p ^^^ 2^j) i one=if j=i then uk p i one else uk p i one ^^^ 2^j:=by
 refine aaF λq=> ?_
 grind [nC,sR]
theorem E5 (i:Nat) (h:i<8) (p:Nat) (hp:p<256):p ^^^ 2^i<256:=DV (n:=8) h hp
theorem wc {l:List Int} {F:Nat→Int→Nat} {hit:Int→Nat→Prop} (hF:∀o p,p∈l→∀q,((F o p).testBit q=true↔o.testBit q=true∨hit p q)):
  ∀(z q:Nat),((l.foldl F z).testBit q=true↔z.testBit q=true∨∃p,p∈l∧hit p q):=by
 induction l with
 |nil=>intro z q;simp
 |cons a l ih=>
  intro z q
  rw[adn,ih (λo p hp=>hF o p (abe _ hp)),hF z a (aaZ ..)]
  constructor
  ·rintro((h|h)|⟨p,h1,h2⟩)
   ·exact .inl h
   ·exact .inr ⟨a,aaZ ..,h⟩
   ·exact .inr ⟨p,abe _ h1,h2⟩
  ·rintro(h|⟨p,h1,h2⟩)
   ·exact .inl (.inl h)
   ·rcases ab9.1 h1 with rfl|h1
    ·exact .inl (.inr h2)
    ·exact .inr ⟨p,h1,h2⟩
theorem pf {s i q:Nat} {one:Bool}:(qX s i one).testBit q=true↔q<256∧s.testBit q=true∧q.testBit i=one:=by
 unfold qX
 rw[wc (hit:=λp q=>p.toNat.testBit i=one∧q=p.toNat)]
 ·simp only[acn,acZ,false_or]
  constructor
  ·rintro⟨p,hp,h1,h2⟩
   obtain⟨k,h3,h4,rfl⟩:=jC.1 hp
   rw[my]at h1 h2
   subst h2
   exact⟨h3,h4,h1⟩
  ·rintro⟨h1,h2,h3⟩
   exact⟨(q:Int),jC.2 ⟨q,h1,h2,rfl⟩,by simpa using h3,by simp⟩
 ·intro o p hp q
  obtain⟨k,h3,h4,rfl⟩:=jC.1 hp
  have e:(decide ((k:Int).toNat/2^i%2=1)==one)=true↔k.testBit i=one:=by
   rw[my,←RZ]
   cases k.testBit i<;>cases one<;>simp
  rw[my]at e ⊢
  by_cases hk:k.testBit i=one
  ·rw[if_pos (e.2 hk),mF h3]
   simp[hk,or_comm]
  all_goals grind
def kP (l:List Int) (h i k:Nat):Nat:=(l.take k).foldl (λo p=>mT o ((p.toNat ^^^ 2^i:Nat):Int)) h
def cS (s i:Nat) (one:Bool):Nat:=kP (ej (qX s i one)) (qX s i one) i (ej (qX s i one)).length
theorem xh (hk:k<l.length):kP l h i (k+1)=mT (kP l h i k) (((l.getD k 0).toNat ^^^ 2^i:Nat):Int):=by
 grind [kP,List.take_succ_eq_append_getElem,List.getElem?_eq_getElem]
theorem fS {s i p:Nat} {one:Bool} (hi:i<8):(cS s i one).testBit p=true↔p<256∧s.testBit (uk p i one)=true:=by
 unfold cS kP
 rw[aaY,wc (hit:=λx q=>q=x.toNat ^^^ 2^i)]
 ·rw[pf]
  constructor
  ·rintro(⟨h1,h2,h3⟩|⟨x,hx,rfl⟩)
   ·exact⟨h1,by rw[lM h3];exact h2⟩
   ·obtain⟨k,h3,h4,rfl⟩:=jC.1 hx
    obtain⟨_,h5,h6⟩:=pf.1 h4
    rw[my]
    exact⟨E5 i hi k h3,by rw[su,if_pos rfl,lM h6];exact h5⟩
  ·rintro⟨h1,h2⟩
   by_cases h3:p.testBit i=one
   ·exact .inl ⟨h1,by rwa [lM h3]at h2,h3⟩
   ·refine .inr ⟨((p ^^^ 2^i:Nat):Int),jC.2 ⟨p ^^^ 2^i,E5 i hi p h1,?_,rfl⟩,?_⟩
    ·have e:uk p i one=p ^^^ 2^i:=if_neg h3
     rw[e]at h2
     refine pf.2 ⟨E5 i hi p h1,h2,?_⟩
     rw[sR,if_pos rfl]
     cases hp:p.testBit i<;>cases one<;>simp_all
    ·rw[my,Nat.xor_assoc,Nat.xor_self,Nat.xor_zero]
 ·intro o x hx q
  obtain⟨k,h3,h4,rfl⟩:=jC.1 hx
  rw[my,mF (E5 i hi k h3)]
  simp[or_comm]
theorem gM {one:Bool} (hi:i<8) (hp:p<256):(cS s i one).testBit p=s.testBit (uk p i one):=by
 rw[acb,fS hi]
 simp[hp]
def Bc (s t:Nat):Bool:=decide (wd s 0=wd t 0∧wd s 1=wd t 1∧wd s 2=wd t 2∧wd s 3=wd t 3)
theorem tB:Bc s t=true↔∀p,p<256→s.testBit p=t.testBit p:=by
 unfold Bc
 rw[decide_eq_true_eq]
 constructor
 ·rintro⟨h0,h1,h2,h3⟩ p hp
  have key:∀i,wd s i=wd t i→p/64=i→s.testBit p=t.testBit p:=λi h e=>by
   have h5:=congrArg (λx=>x.testBit (p%64)) h
   simp only[iz]at h5
   have e2:64*i+p%64=p:=by omega
   rw[e2]at h5
   simpa [Nat.mod_lt] using h5
  have:p/64=0∨p/64=1∨p/64=2∨p/64=3:=by omega
  rcases this with e|e|e|e
  ·exact key 0 h0 e
  ·exact key 1 h1 e
  ·exact key 2 h2 e
  ·exact key 3 h3 e
 all_goals grind [Qs]
def i7 (i one:Nat) (c:Cb):Cb:=⟨c.m ||| 1*2^i,c.v ||| one*2^i⟩
def u6 (n:Nat) (on0 on1:Nat) (a b:List Cb):Nat:=(0 ||| andNot on0 (ma a n a.length)) ||| andNot on1 (ma b n b.length)
def eL (n:Nat):Nat→Nat→Nat→Nat→List Cb
 |0,_,_,_=>[]
 |f+1,on,may,i=>
  if Bc on 0=true then []else if Bc may (fk n)=true then [⟨0,0⟩]else
  let a:=eL n f (andNot (cS on i false) (cS may i true)) (cS may i false) (i+1)
  let b:=eL n f (andNot (cS on i true) (cS may i false)) (cS may i true) (i+1)
  (a.map (i7 i 0)++b.map (i7 i 1))++eL n f (u6 n (cS on i false) (cS on i true) a b) (cS may i false &&& cS may i true) (i+1)
structure oI (n on may i:Nat):Prop where
 le:i≤n
 sub:∀p,p<256→on.testBit p=true→may.testBit p=true
 out:∀p,p<256→may.testBit p=true→p<2^n
 free:∀p j,p<256→j<i→on.testBit (p ^^^ 2^j)=on.testBit p
 freeM:∀p j,p<256→j<i→may.testBit (p ^^^ 2^j)=may.testBit p
theorem LT {n on may:Nat} (h:∀p,p<256→on.testBit p=true→may.testBit p=true) (k:∀p,p<256→may.testBit p=true→p<2^n):oI n on may 0:=
 ⟨me _,h,k,λ_ j _ hj=>absurd hj (Nat.not_lt_zero j),λ_ j _ hj=>absurd hj (Nat.not_lt_zero j)⟩
theorem FU {s:Nat}:∀(n:Nat),(∀p j,p<2^n→j<n→s.testBit (p ^^^ 2^j)=s.testBit p)→∀p,p<2^n→s.testBit p=s.testBit 0
 |0,_,p,hp=>by
  have:p=0:=by simpa using hp
  rw[this]
 |n+1,h,p,hp=>by
  have hle:2^n≤2^(n+1):=aaV (by decide) (by omega)
  have ih:=FU n λp j hp hj=>h p j (ab0 hp hle) (by omega)
  by_cases hb:p.testBit n=true
  ·rw[←h p n hp (by omega)]
   refine ih _ (gI.2 λj hj=> ?_)
   rw[sR]
   split
   ·rename_i e;subst e;rw[hb];rfl
   ·exact gI.1 hp j (by omega)
  ·refine ih p (gI.2 λj hj=> ?_)
   by_cases e:j=n
   ·subst e;simpa using hb
   ·exact gI.1 hp j (by omega)
theorem gm (h:n≤8):2^n≤256:=by
 have:2^n≤2^8:=aaV (by decide) h
 simpa using this
theorem oI.end {n on may:Nat} (h8:n≤8) (h:oI n on may n):Bc on 0=true∨Bc may (fk n)=true:=by
 have hp:=gm h8
 have h1:=FU n λp j hq hj=>h.freeM p j (by omega) hj
 by_cases h0:may.testBit 0=true
 ·right
  rw[tB]
  intro p hp2
  rw[fo]
  by_cases hpn:p<2^n
  ·rw[h1 p hpn,h0];simp[hpn]
  ·cases hm:may.testBit p with
   |false=>simp[hpn]
   |true=>exact absurd (h.out p hp2 hm) hpn
 ·left
  rw[tB]
  intro p hp2
  rw[acn]
  refine aaT.2 λho=> ?_
  have hm:=h.sub p hp2 ho
  exact h0 (by rw[←h1 p (h.out p hp2 hm)];exact hm)
def hold (c:Cb) (p:Nat):Prop:=p &&& c.m=c.v
theorem Gd:hold c p↔∀j,(p.testBit j&&c.m.testBit j)=c.v.testBit j:=by
 unfold hold
 constructor
 ·intro h j;rw[←h,abd]
 ·intro h;exact aaF λj=>by rw[abd];exact h j
theorem G7 (h:c.m.testBit j=false):hold c (p ^^^ 2^j)↔hold c p:=by
 grind [Gd,sR]
theorem zh {one:Bool} (h:c.m.testBit i=false):hold c (uk p i one)↔hold c p:=by
 unfold uk
 split
 ·exact Iff.rfl
 ·exact G7 h
theorem kl (c:Cb) (i one j:Nat):(i7 i one c).m.testBit j=(c.m.testBit j||decide (j=i)):=by
 show (c.m ||| 1*2^i).testBit j=_
 grind
theorem o4 (c:Cb) (i j:Nat):(i7 i 0 c).v.testBit j=c.v.testBit j:=by
 show (c.v ||| 0*2^i).testBit j=_
 grind
theorem o0 (c:Cb) (i j:Nat):(i7 i 1 c).v.testBit j=(c.v.testBit j||decide (j=i)):=by
 show (c.v ||| 1*2^i).testBit j=_
 grind
theorem wl {i p one:Nat} (h1:one=0∨one=1) (hv:c.v &&& c.m=c.v) (h:c.m.testBit i=false):hold (i7 i one c) p↔p.testBit i=decide (one=1)∧hold c p:=by
 have hvi:c.v.testBit i=false:=by rw[fD hv,h,acM]
 grind [Gd,kl,o4,o0]
def jN (n may i:Nat) (l:List Cb):Prop:=∀c,c∈l→c.m<2^n∧c.v &&& c.m=c.v∧(∀j,j<i→c.m.testBit j=false)∧∀p,p<2^n→hold c p→may.testBit p=true
def JK (n on:Nat) (l:List Cb):Prop:=∀p,p<2^n→on.testBit p=true→∃c,c∈l∧hold c p
theorem tq (hn:n≤8) (p:Nat):(ma l n l.length).testBit p=true↔p<2^n∧∃c,c∈l∧hold c p:=by
 rw[ve hn]
 constructor
 ·rintro⟨j,hj,h1,h2⟩
  exact⟨h1,_,dF hj,h2⟩
 ·rintro⟨h1,c,hc,h2⟩
  obtain⟨j,hj,rfl⟩:=fh (d:=⟨0,0⟩) hc
  exact⟨j,hj,h1,h2⟩
section
variable {n on may i:Nat}
theorem oI.side (h8:n≤8) (h:oI n on may i) (hi:i<n) (x:Bool):oI n (andNot (cS on i x) (cS may i (!x))) (cS may i x) (i+1):=by
 have hi8:i<8:=by omega
 refine⟨hi,λp hp hq=> ?_,λp hp hq=> ?_,λp j hp hj=> ?_,λp j hp hj=> ?_⟩
 ·rw[ee,so]at hq
  obtain⟨h1,h2⟩:=(fS hi8).1 hq.1
  exact(fS hi8).2 ⟨hp,h.sub _ ((lB (n:=8) hi8).2 hp) h2⟩
 ·obtain⟨h1,h2⟩:=(fS hi8).1 hq
  exact(lB hi).1 (h.out _ ((lB (n:=8) hi8).2 hp) h2)
 ·have hpj:p ^^^ 2^j<256:=E5 j (by omega) p hp
  simp only[ee,gM hi8 hp,gM hi8 hpj,su]
  split
  ·rfl
  ·rename_i hne
   have hlt:∀y,uk p i y<256:=λy=>(lB (n:=8) hi8).2 hp
   rw[h.free _ j (hlt _) (by omega),h.freeM _ j (hlt _) (by omega)]
 ·have hpj:p ^^^ 2^j<256:=E5 j (by omega) p hp
  simp only[gM hi8 hp,gM hi8 hpj,su]
  split
  ·rfl
  ·rename_i hne
   have hlt:∀y,uk p i y<256:=λy=>(lB (n:=8) hi8).2 hp
   rw[h.freeM _ j (hlt _) (by omega)]
theorem kv:(u6 n on0 on1 a b).testBit p=((on0.testBit p&& !(ma a n a.length).testBit p)||(on1.testBit p&& !(ma b n b.length).testBit p)):=by
 grind [u6,ee]
theorem GA (h8:n≤8) (hj:j<n) (h:∀c,c∈l→c.m.testBit j=false):(ma l n l.length).testBit (p ^^^ 2^j)=(ma l n l.length).testBit p:=by
 rw[acb,tq h8,tq h8]
 have hlt:p ^^^ 2^j<2^n↔p<2^n:=by
  constructor
  ·intro h2
   have:=DV hj h2
   rwa [Nat.xor_assoc,Nat.xor_self,Nat.xor_zero]at this
  ·exact DV hj
 grind [G7]
theorem oI.rest (h8:n≤8) (h:oI n on may i) (hi:i<n) (ha:jN n (cS may i false) (i+1) a) (hb:jN n (cS may i true) (i+1) b)
  (ca:JK n (andNot (cS on i false) (cS may i true)) a) (cb:JK n (andNot (cS on i true) (cS may i false)) b):
  oI n (u6 n (cS on i false) (cS on i true) a b) (cS may i false &&& cS may i true) (i+1):=by
 have hi8:i<8:=by omega
 have hlt:∀p y,p<256→uk p i y<256:=λp y hp=>(lB (n:=8) hi8).2 hp
 refine⟨hi,λp hp hq=> ?_,λp hp hq=> ?_,λp j hp hj=> ?_,λp j hp hj=> ?_⟩
 ·rw[kv,acr,so,so]at hq
  rw[abd,so]
  have one:∀(x:Bool) (l:List Cb),(cS on i x).testBit p=true→(!(ma l n l.length).testBit p)=true→JK n (andNot (cS on i x) (cS may i (!x))) l→(cS may i x).testBit p=true∧(cS may i (!x)).testBit p=true:=by
   intro x l h1 h2 hc
   have hm:(cS may i x).testBit p=true:=by
    rw[gM hi8 hp]at h1 ⊢
    exact h.sub _ (hlt p x hp) h1
   refine⟨hm,Classical.byContradiction λhn=> ?_⟩
   have hpn:p<2^n:=by
    rw[gM hi8 hp]at hm
    exact(lB hi).1 (h.out _ (hlt p x hp) hm)
   have:=hc p hpn (by rw[ee,h1,aaT.2 hn];rfl)
   rw[(tq h8 p).2 ⟨hpn,this⟩]at h2
   cases h2
  rcases hq with ⟨h1,h2⟩|⟨h1,h2⟩
  ·exact one false a h1 h2 ca
  ·exact(one true b h1 h2 cb).symm
 ·rw[abd,so]at hq
  obtain⟨h1,h2⟩:=(fS hi8).1 hq.1
  exact(lB hi).1 (h.out _ (hlt p _ hp) h2)
 ·have hpj:p ^^^ 2^j<256:=E5 j (by omega) p hp
  rw[kv,kv,GA h8 (by omega) (λc hc=>(ha c hc).2.2.1 j hj),GA h8 (by omega) (λc hc=>(hb c hc).2.2.1 j hj)]
  simp only[gM hi8 hp,gM hi8 hpj,su]
  split
  ·rfl
  ·rename_i hne
   rw[h.free _ j (hlt p _ hp) (by omega),h.free _ j (hlt p _ hp) (by omega)]
 ·have hpj:p ^^^ 2^j<256:=E5 j (by omega) p hp
  simp only[abd,gM hi8 hp,gM hi8 hpj,su]
  split
  ·rfl
  ·rename_i hne
   rw[h.freeM _ j (hlt p _ hp) (by omega),h.freeM _ j (hlt p _ hp) (by omega)]
theorem Ha {a:List Cb} {one:Nat} {c:Cb}:c∈a.map (i7 i one)↔∃d,d∈a∧i7 i one d=c:=abS
theorem JL (h8:n≤8) (hi:i<n) {a:List Cb} {one:Nat} {x:Bool} (h1:(one=0∧x=false)∨(one=1∧x=true)) (ha:jN n (cS may i x) (i+1) a) (_hf:∀p j,p<256→j<i→may.testBit (p ^^^ 2^j)=may.testBit p):
  jN n may i (a.map (i7 i one)):=by
 intro c hc
 obtain⟨d,hd,rfl⟩:=Ha.1 hc
 obtain⟨k1,k2,k3,k4⟩:=ha d hd
 have ho:one=0∨one=1:=h1.elim (λh=> .inl h.1) (λh=> .inr h.1)
 have hx:x=decide (one=1):=by rcases h1 with ⟨rfl,rfl⟩|⟨rfl,rfl⟩<;>rfl
 refine⟨gI.2 λj hj=> ?_,aaF λj=> ?_,λj hj=> ?_,λp hp hh=> ?_⟩
 ·rw[kl,gI.1 k1 j hj,decide_eq_false (by omega)];rfl
 ·rw[abd,kl]
  have hvb:=fD k2 j
  rcases ho with rfl|rfl
  ·rw[o4,hvb];cases d.v.testBit j<;>cases d.m.testBit j<;>simp
  ·rw[o0,hvb];cases d.v.testBit j<;>cases d.m.testBit j<;>simp
 ·rw[kl,k3 j (by omega),decide_eq_false (by omega)];rfl
 all_goals grind [wl,Nat.lt_of_lt_of_le,gm,gM,lM]
theorem jN.app (ha:jN n may i a) (hb:jN n may i b):jN n may i (a++b):=λc hc=>(aaQ.1 hc).elim (ha c) (hb c)
theorem lW (h8:n≤8):∀(f on may i:Nat),oI n on may i→n+1-i≤f→jN n may i (eL n f on may i)∧JK n on (eL n f on may i)
 |0,on,may,i,h,hf=>by have:=h.le;omega
 |f+1,on,may,i,h,hf=>by
  rw[eL]
  split
  ·rename_i h0
   rw[tB]at h0
   refine⟨λc hc=>(nomatch hc),λp hp ho=> ?_⟩
   rw[h0 p (ab0 hp (gm h8)),acn]at ho
   cases ho
  ·rename_i h0
   split
   ·rename_i h1
    rw[tB]at h1
    refine⟨λc hc=> ?_,λp hp ho=>⟨⟨0,0⟩,by simp,by simp[hold]⟩⟩
    rw[aaG]at hc
    subst hc
    refine⟨ace n,rfl,λj _=>acn j,λp hp _=> ?_⟩
    rw[h1 p (ab0 hp (gm h8)),fo]
    simp[hp]
   ·rename_i h1
    have hi:i<n:=Nat.lt_of_le_of_ne h.le λe=>by
     subst e
     rcases h.end h8 with h2|h2
     ·exact h0 h2
     ·exact h1 h2
    have hi8:i<8:=by omega
    dsimp only
    obtain⟨a1,a2⟩:=lW h8 f _ _ _ (h.side h8 hi false) (by omega)
    obtain⟨b1,b2⟩:=lW h8 f _ _ _ (h.side h8 hi true) (by omega)
    simp only[Bool.not_false,Bool.not_true]at a1 a2 b1 b2
    generalize eL n f (andNot (cS on i false) (cS may i true)) (cS may i false) (i+1)=a at*
    generalize eL n f (andNot (cS on i true) (cS may i false)) (cS may i true) (i+1)=b at*
    obtain⟨c1,c2⟩:=lW h8 f _ _ _ (h.rest h8 hi a1 b1 a2 b2) (by omega)
    generalize eL n f (u6 n (cS on i false) (cS on i true) a b) (cS may i false &&& cS may i true) (i+1)=c at*
    refine⟨jN.app (jN.app (JL h8 hi (.inl ⟨rfl,rfl⟩) a1 h.freeM) (JL h8 hi (.inr ⟨rfl,rfl⟩) b1 h.freeM)) λd hd=> ?_,λp hp ho=> ?_⟩
    ·obtain⟨k1,k2,k3,k4⟩:=c1 d hd
     refine⟨k1,k2,λj hj=>k3 j (by omega),λp hp hh=> ?_⟩
     have hp8:p<256:=ab0 hp (gm h8)
     have:=k4 p hp hh
     rw[abd,gM hi8 hp8,gM hi8 hp8,so]at this
     cases hb:p.testBit i with
     |false=>rw[lM hb]at this;exact this.1
     |true=>rw[lM hb]at this;exact this.2
    ·have hp8:p<256:=ab0 hp (gm h8)
     have key:∀(x:Bool) (one:Nat) (l:List Cb),p.testBit i=x→((one=0∧x=false)∨(one=1∧x=true))→jN n (cS may i x) (i+1) l→
       ((ma l n l.length).testBit p=true→∃d,d∈l.map (i7 i one)∧hold d p):=by
      intro x one l hb h1 hl hpt
      obtain⟨_,d,hd,hh⟩:=(tq h8 p).1 hpt
      have ho:one=0∨one=1:=h1.elim (λh=> .inl h.1) (λh=> .inr h.1)
      have hx:x=decide (one=1):=by rcases h1 with ⟨rfl,rfl⟩|⟨rfl,rfl⟩<;>rfl
      obtain⟨k1,k2,k3,k4⟩:=hl d hd
      exact⟨_,Ha.2 ⟨d,hd,rfl⟩,(wl ho k2 (k3 i (by omega))).2 ⟨by rw[hb,hx],hh⟩⟩
     cases hb:p.testBit i with
     |false=>
      have hon:(cS on i false).testBit p=true:=by rw[gM hi8 hp8,lM hb];exact ho
      by_cases hpt:(ma a n a.length).testBit p=true
      ·obtain⟨d,hd,hh⟩:=key false 0 a hb (.inl ⟨rfl,rfl⟩) a1 hpt
       exact⟨d,by simp only[aaQ];exact .inl (.inl hd),hh⟩
      ·obtain⟨d,hd,hh⟩:=c2 p hp (by rw[kv,hon,aaT.2 hpt];rfl)
       exact⟨d,by simp only[aaQ];exact .inr hd,hh⟩
     |true=>
      have hon:(cS on i true).testBit p=true:=by rw[gM hi8 hp8,lM hb];exact ho
      by_cases hpt:(ma b n b.length).testBit p=true
      ·obtain⟨d,hd,hh⟩:=key true 1 b hb (.inr ⟨rfl,rfl⟩) b1 hpt
       exact⟨d,by simp only[aaQ];exact .inl (.inr hd),hh⟩
      ·obtain⟨d,hd,hh⟩:=c2 p hp (by rw[kv,hon,aaT.2 hpt];simp)
       exact⟨d,by simp only[aaQ];exact .inr hd,hh⟩
theorem jr:∀(f on may i:Nat),(eL n f on may i).length≤3^f
 |0,_,_,_=>by simp[eL]
 |f+1,on,may,i=>by
  rw[eL]
  have h3:3^(f+1)=3^f+3^f+3^f:=by rw[acF];omega
  have h0:0<3^f:=Nat.pow_pos (by decide)
  split
  ·simp
  ·split
   ·simp;omega
   ·have h4:=jr f (andNot (cS on i false) (cS may i true)) (cS may i false) (i+1)
    have h5:=jr f (andNot (cS on i true) (cS may i false)) (cS may i true) (i+1)
    simp only[An,acj]
    generalize eL n f (andNot (cS on i false) (cS may i true)) (cS may i false) (i+1)=a at*
    generalize eL n f (andNot (cS on i true) (cS may i false)) (cS may i true) (i+1)=b at*
    have h6:=jr f (u6 n (cS on i false) (cS on i true) a b) (cS may i false &&& cS may i true) (i+1)
    omega
end
def oo (x y:Nat):Array Value:= #[wv x 0,wv x 1,wv x 2,wv x 3,wv y 0,wv y 1,wv y 2,wv y 3]
def pj (s i k:Nat):Array Value:=oo (if 0<k then cS s i false else 0) (if 1<k then cS s i true else 0)
theorem Ge (s i:Nat):(#[.int .u64 0, .int .u64 0, .int .u64 0, .int .u64 0, .int .u64 0, .int .u64 0, .int .u64 0, .int .u64 0]:Array Value)=pj s i 0:=by
 simp[pj,oo,wd]
theorem wQ (h:At w b #[.int .u64 0, .int .u64 0, .int .u64 0, .int .u64 0, .int .u64 0, .int .u64 0, .int .u64 0, .int .u64 0] T):At w b (pj s i 0) T:=by
 grind [Ge]
theorem sC (s i k:Nat):(pj s i k).size=8:=rfl
theorem ue (hk:k<2):
  ((pj s i k).toList.take (0+k*4)++(#[wv (cS s i (decide ((k:Int)=1))) 0,wv (cS s i (decide ((k:Int)=1))) 1,wv (cS s i (decide ((k:Int)=1))) 2,wv (cS s i (decide ((k:Int)=1))) 3]:Array Value).toList++
   (pj s i k).toList.drop (0+k*4+(#[wv (cS s i (decide ((k:Int)=1))) 0,wv (cS s i (decide ((k:Int)=1))) 1,wv (cS s i (decide ((k:Int)=1))) 2,wv (cS s i (decide ((k:Int)=1))) 3]:Array Value).toList.length)).toArray=pj s i (k+1):=by
 have:k=0∨k=1:=by omega
 rcases this with rfl|rfl<;>rfl
theorem yJ (h:((wd s 0:Nat):Int)=((wd t 0:Nat):Int)∧((wd s 1:Nat):Int)=((wd t 1:Nat):Int)∧((wd s 2:Nat):Int)=((wd t 2:Nat):Int)∧((wd s 3:Nat):Int)=((wd t 3:Nat):Int)):Bc s t=true:=by
 unfold Bc
 grind
theorem uV (h:Bc s t=true):((wd s 0:Nat):Int)=((wd t 0:Nat):Int)∧((wd s 1:Nat):Int)=((wd t 1:Nat):Int)∧((wd s 2:Nat):Int)=((wd t 2:Nat):Int)∧((wd s 3:Nat):Int)=((wd t 3:Nat):Int):=by
 unfold Bc at h
 grind
theorem QX {n on may i:Nat} (h8:n≤8) (h:oI n on may i) (h0:¬Bc on 0=true) (h1:¬Bc may (fk n)=true):i<n:=Nat.lt_of_le_of_ne h.le λe=>by
 subst e
 rcases h.end h8 with h2|h2
 ·exact h0 h2
 ·exact h1 h2
theorem GR {l:List Cb} {i q k:Nat} (h:k<l.length):(l.take (k+1)).map (i7 i q)=(l.take k).map (i7 i q)++[i7 i q (l.getD k ⟨0,0⟩)]:=by
 grind [List.take_succ_eq_append_getElem,List.getElem?_eq_getElem]
theorem SS {s k:Nat} {i:Int} {one:Bool} {H:Nat} (h:(if 0≤i∧i<8 then qX s i.toNat one else 0)=H) (hk:(k:Int)<((ej H).length:Int)):0≤i∧i<8:=by
 refine Classical.byContradiction λhn=> ?_
 rw[if_neg hn]at h
 subst h
 have e:ej 0=[]:=by simp[ej]
 grind
theorem Pu {s:Nat} {i:Int} {one:Bool} {H:Nat} (h:(if 0≤i∧i<8 then qX s i.toNat one else 0)=H):kP (ej H) H i.toNat (ej H).length=if 0≤i∧i<8 then cS s i.toNat one else 0:=by
 split at h
 ·rename_i hi
  rw[if_pos hi,cS,h]
 ·rename_i hi
  rw[if_neg hi]
  subst h
  have e:ej 0=[]:=by simp[ej]
  rw[e];rfl
theorem Mb (h:imp s n d) (hr:dS c.m c.v n=true) (hh:jF d c=true):imp s n c:=by
 grind [gw,mQ,dB]
theorem LP (hi:i<8) (h:jF c d=true):jF (jI c i) (jI d i)=true:=by
 rw[ot]at h ⊢
 intro j hj
 have hj':(lK c.m (i:Int)).testBit j=true:=hj
 rw[fH hi,so]at hj'
 grind [jI,lK,fH]
theorem GK (h:imp s n c):∀i:Nat,(i:Int)≤n→imp s n (fc s n c i)∧jF (fc s n c i) c=true∧∀j,j<i→(fc s n c i).m.testBit j=true→¬imp s n (jI (fc s n c i) j)
 |0,_=>⟨h,Iy c,λj hj=>absurd hj (Nat.not_lt_zero j)⟩
 |i+1,hi=>by
  obtain⟨h1,h2,h3⟩:=GK h i (by omega)
  obtain⟨h0,h8,_,_⟩:=dB.1 (gw.1 h).1
  by_cases hw:imp s n (jI (fc s n c i) i)
  ·have e:fc s n c (i+1)=jI (fc s n c i) i:=GI hw
   rw[e]
   have hho:jF (jI (fc s n c i) i) (fc s n c i)=true:=Pt (by omega)
   refine⟨hw,E8 hho h2,λj hj hm=> ?_⟩
   have hm':(lK (fc s n c i).m (i:Int)).testBit j=true:=hm
   rw[fH (by omega),so,decide_eq_true_eq]at hm'
   intro hn
   refine h3 j (by omega) hm'.1 (Mb hn (FP (gw.1 h1).1) (LP (by omega) hho))
  ·have e:fc s n c (i+1)=fc s n c i:=G9 (aaT.2 hw)
   rw[e]
   refine⟨h1,h2,λj hj hm=> ?_⟩
   rcases aaU.1 hj with hj|rfl
   ·exact h3 j hj hm
   ·exact hw
theorem ul (h:imp s n c):iL (lD s n c).m (lD s n c).v s n=true∧jF (lD s n c) c=true:=by
 obtain⟨h0,h8,_,_⟩:=dB.1 (gw.1 h).1
 obtain⟨h1,h2,h3⟩:=GK h n.toNat (by omega)
 refine⟨gF.2 ⟨h1,λi hi=> ?_⟩,h2⟩
 unfold lF
 rw[Bool.and_eq_false_iff]
 by_cases hm:(lD s n c).m.testBit i=true
 ·exact .inr (aaT.2 (h3 i hi hm))
 all_goals grind
def kE (s:Nat) (n:Int) (l:List Cb):Nat→List Cb
 |0=>[]
 |k+1=>jm (kE s n l k) (lD s n (l.getD k ⟨0,0⟩))
abbrev I7 (s:Nat) (n:Int) (l:List Cb):List Cb:=kE s n l l.length
theorem sD (s:Nat) (n:Int) (l:List Cb):∀k,(kE s n l k).length≤k
 |0=>by simp[kE]
 |k+1=>go (si _ _) (by have:=sD s n l k;omega)
theorem sA:∀k,c∈kE s n l k↔∃j,j<k∧c=lD s n (l.getD j ⟨0,0⟩)
 |0=>by simp[kE]
 |k+1=>by
  rw[kE,gy,sA k]
  constructor
  ·rintro(⟨j,hj,h⟩|h)
   ·exact⟨j,by omega,h⟩
   ·exact⟨k,by omega,h⟩
  ·rintro⟨j,hj,h⟩
   rcases aaU.1 hj with hj|rfl
   ·exact .inl ⟨j,hj,h⟩
   ·exact .inr h
end
section
theorem K6 {α:Type} {enc:α→List Value} {sz:Nat} {T:TypeId} {ok:Bool} {e1:Int} {L:List α} {v:Value} {w':World} {N:Nat} (h:if ok=true then ∃x,v= .tuple #[x, .int .i64 0]∧cH enc sz T w' N x L else v= .tuple #[.slice none 0 0, .int .i64 e1]):
  ∃(x:Value) (er:Int) (l:List α),v= .tuple #[x, .int .i64 er]∧cH enc sz T w' N x l∧((ok=true∧er=0∧l=L)∨(ok=false∧er=e1∧l=[])):=by
 by_cases ho:ok=true
 ·rw[if_pos ho]at h
  obtain⟨x,h1,h2⟩:=h
  exact⟨x,0,_,h1,h2, .inl ⟨ho,rfl,rfl⟩⟩
 ·rw[if_neg ho]at h
  exact⟨_,e1,[],h,cH.nil, .inr ⟨by simpa using ho,rfl,rfl⟩⟩
def BO (on may:Nat) (n:Int):Bool:=yv may n&&dW on may
theorem kL {on may:Nat}:BO on may n=true↔yv may n=true∧dW on may=true:=by unfold BO;rw[so]
theorem RE {on may sa:Nat} {n er:Int} (h:(0≤n∧n≤8∧sa=fk n.toNat∧er=0)∨(¬(0≤n∧n≤8)∧er=1)) (h0:¬er=0):¬BO on may n=true:=λhk=>J1 h h0 (kL.1 hk).1
theorem SZ {on may:Nat} (h:(!dW on may)=true):¬BO on may n=true:=by grind [kL]
theorem SL {on may sa:Nat} {n er:Int} (h:(0≤n∧n≤8∧sa=fk n.toNat∧er=0)∨(¬(0≤n∧n≤8)∧er=1)) (h0:¬¬er=0) (hw:(!dW may sa)=true):¬BO on may n=true:=λhk=>KK h h0 hw (kL.1 hk).1
theorem V6 {on may sa:Nat} {n er:Int} (h:(0≤n∧n≤8∧sa=fk n.toNat∧er=0)∨(¬(0≤n∧n≤8)∧er=1)) (h0:¬¬er=0) (h1:(!dW on may)=false) (hw:(!dW may sa)=false):BO on may n=true:=
 kL.2 ⟨Nw h h0 hw,by simpa using h1⟩
theorem Db {on may:Nat} {n:Nat} (h:BO on may (n:Int)=true):n≤8∧oI n on may 0:=by
 grind [kL,lf,dW,fk,yv,decide_eq_true,LT,dJ,fo]
abbrev kf (on may:Nat) (n:Int):List Cb:=eL n.toNat (n.toNat+1) on may 0
theorem VN (h:n≤8):3^(n+1)≤19683:=by
 have:3^(n+1)≤3^9:=aaV (by decide) (by omega)
 simpa using this
theorem FN {on may:Nat} (h:n≤8):(kf on may n).length≤19683:=by grind [Nat.le_trans,jr,VN]
theorem yn {on may:Nat} (h:BO on may n=true) (hc:c∈kf on may n):tV c.m c.v may n=true∧c.m<256∧c.v<256∧c.v &&& c.m=c.v:=by
 obtain⟨h0,h8⟩:=lf (kL.1 h).1
 obtain⟨n,rfl⟩:=ab2 h0
 obtain⟨h8',hg⟩:=Db h
 obtain⟨k1,k2,k3,k4⟩:=(lW h8' (n+1) on may 0 hg (by omega)).1 c hc
 have hp:=gm h8'
 have hle:c.v≤c.m:=by rw[←k2];exact acX
 refine⟨gw.2 ⟨dB.2 ⟨h0,h8,k1,k2⟩,λp hp hh=>k4 p hp hh⟩,by omega,by omega,k2⟩
theorem AB {α:Type} [DecidableEq α] {l:List α} {k:α} (h:k∈l):jm l k=l:=if_pos h
theorem Fu {α:Type} [DecidableEq α] {l:List α} {k:α} (h:k∉l):jm l k=l++[k]:=if_neg h
theorem Vy {ok:Bool} {er:Int} {l L:List Cb} (h:(ok=true∧er=0∧l=L)∨(ok=false∧er=1∧l=[])) (h0:¬er=0):¬ok=true∧er=1:=by
 grind
theorem NW {ok:Bool} {er:Int} {l L:List Cb} (h:(ok=true∧er=0∧l=L)∨(ok=false∧er=1∧l=[])) (h0:¬¬er=0):ok=true∧l=L:=by
 grind
end
section
structure Sp where
 n:Int
 on:List Nat
 may:List Nat
def zn (S:Sp) (k:Nat):Nat:=S.on.getD k 0
def jZ (S:Sp) (k:Nat):Nat:=S.may.getD k 0
def dt (S:Sp):Bool:=
 decide (0≤S.n)&&(decide (S.n≤8)&&(decide (1≤S.on.length)&&(decide (S.on.length≤4)&&(decide (S.on.length=S.may.length)&&
  (List.range S.on.length).all λk=>dW (zn S k) (jZ S k)&&dW (jZ S k) (fk S.n.toNat)))))
theorem dw:dt S=true↔0≤S.n∧S.n≤8∧1≤S.on.length∧S.on.length≤4∧S.on.length=S.may.length∧∀k,k<S.on.length→dW (zn S k) (jZ S k)=true∧dW (jZ S k) (fk S.n.toNat)=true:=by
 unfold dt
 grind
theorem nF (h:¬(0≤S.n∧S.n≤8∧1≤S.on.length∧S.on.length≤4∧S.on.length=S.may.length)):Value.bool false= .bool (dt S):=
 congrArg Value.bool (aaT.2 λhr=>h (by
  obtain⟨h1,h2,h3,h4,h5,_⟩:=dw.1 hr
  exact⟨h1,h2,h3,h4,h5⟩)).symm
theorem yC (hk:k<S.on.length) (h:¬(dW (zn S k) (jZ S k)=true∧dW (jZ S k) (fk S.n.toNat)=true)):Value.bool false= .bool (dt S):=
 congrArg Value.bool (aaT.2 λhr=>h ((dw.1 hr).2.2.2.2.2 k hk)).symm
theorem Kn (h:0≤S.n∧S.n≤8∧1≤S.on.length∧S.on.length≤4∧S.on.length=S.may.length) (hk:∀k,k<S.on.length→dW (zn S k) (jZ S k)=true∧dW (jZ S k) (fk S.n.toNat)=true):Value.bool true= .bool (dt S):=by grind [dw]
def mh (S:Sp) (c:Cb):Nat→Nat
 |0=>0
 |k+1=>if tV c.m c.v (jZ S k) S.n=true then mh S c k ||| 1*2^k else mh S c k
abbrev qZ (S:Sp) (c:Cb):Nat:=mh S c S.may.length
theorem Vs (h:tV c.m c.v (jZ S k) S.n=true):mh S c k ||| 1*2^k=mh S c (k+1):=(if_pos h).symm
theorem VQ (h:tV c.m c.v (jZ S k) S.n=false):mh S c k=mh S c (k+1):=(if_neg (by rw[h];decide)).symm
theorem ji:∀k,(mh S c k).testBit j=true↔j<k∧tV c.m c.v (jZ S j) S.n=true
 |0=>by simp[mh]
 |k+1=>by
  rw[mh]
  split
  ·rename_i h
   rw[abJ,acq,ab5,acr,ji k,decide_eq_true_eq]
   constructor
   ·rintro(⟨h1,h2⟩|rfl)
    ·exact⟨by omega,h2⟩
    ·exact⟨by omega,h⟩
   ·rintro⟨h1,h2⟩
    rcases aaU.1 h1 with h1|h1
    ·exact .inl ⟨h1,h2⟩
    ·exact .inr h1.symm
  ·rename_i h
   rw[ji k]
   constructor
   ·rintro⟨h1,h2⟩;exact⟨by omega,h2⟩
   ·rintro⟨h1,h2⟩
    rcases aaU.1 h1 with h1|rfl
    ·exact⟨h1,h2⟩
    ·exact absurd h2 h
theorem wV (S:Sp) (c:Cb) (k:Nat):mh S c k<2^k:=gI.2 λj hj=>aaT.2 λh=>by
 have:=((ji k).1 h).1
 omega
theorem P0 (h:k≤4):2^k≤16:=by
 have h2:2^k≤2^4:=aaV (by decide) h
 simpa using h2
def rF (S:Sp) (x:Rw):Bool:=dt S&&(decide (0<x.o)&&decide (andNot x.o (qZ S x.c)=0))
theorem zm:andNot a b=0↔∀j,a.testBit j=true→b.testBit j=true:=by
 constructor
 ·intro h j hj
  have h2:=congrArg (λx=>x.testBit j) h
  simp only[ee,acn,hj,ack]at h2
  simpa using h2
 ·intro h
  refine aaF λj=> ?_
  grind [ee]
theorem ir:rF S x=true↔dt S=true∧0<x.o∧∀j,x.o.testBit j=true→j<S.may.length∧tV x.c.m x.c.v (jZ S j) S.n=true:=by
 unfold rF
 rw[so,so,decide_eq_true_eq,decide_eq_true_eq,zm]
 grind [ji]
theorem rD (h:rF S x=true):x.o<2^S.may.length∧x.o<16:=by
 obtain⟨h1,_,h3⟩:=ir.1 h
 obtain⟨_,_,_,h4,h5,_⟩:=dw.1 h1
 have:x.o<2^S.may.length:=gI.2 λj hj=>aaT.2 λhb=>by have:=(h3 j hb).1;omega
 grind [P0]
theorem uu (h:0<a):∃j,a.testBit j=true:=Classical.byContradiction λhn=>by
 have:a=0:=aaF λj=>by rw[acn];exact aaT.2 λhb=>hn ⟨j,hb⟩
 omega
theorem D9 (h:a.testBit j=true):0<a:=by grind
theorem gE (h:rF S x=true):dS x.c.m x.c.v S.n=true:=by
 grind [ir,uu,w7]
def uo (a b:Rw):Bool:=jF a.c b.c&&decide (andNot b.o a.o=0)
theorem qd:uo a b=true↔jF a.c b.c=true∧∀j,b.o.testBit j=true→a.o.testBit j=true:=by
 unfold uo
 rw[so,decide_eq_true_eq,zm]
def mb (S:Sp) (o:Nat):Nat→Nat
 |0=>fk S.n.toNat
 |k+1=>if o.testBit k=true then mb S o k &&& jZ S k else mb S o k
abbrev ia (S:Sp) (o:Nat):Nat:=mb S o S.may.length
theorem U4 (h:o.testBit k=true):mb S o k &&& jZ S k=mb S o (k+1):=(if_pos h).symm
theorem Vd (h:¬o.testBit k=true):mb S o k=mb S o (k+1):=(if_neg h).symm
theorem mC:∀k,(mb S o k).testBit p=true↔p<2^S.n.toNat∧∀j,j<k→o.testBit j=true→(jZ S j).testBit p=true
 |0=>by simp[mb,fo]
 |k+1=>by
  rw[mb]
  split
  ·rename_i h
   rw[abd,so,mC k]
   constructor
   ·rintro⟨⟨h1,h2⟩,h3⟩
    refine⟨h1,λj hj ho=> ?_⟩
    rcases aaU.1 hj with hj|rfl
    ·exact h2 j hj ho
    ·exact h3
   ·rintro⟨h1,h2⟩
    exact⟨⟨h1,λj hj ho=>h2 j (by omega) ho⟩,h2 k (by omega) h⟩
  ·rename_i h
   rw[mC k]
   constructor
   ·rintro⟨h1,h2⟩
    refine⟨h1,λj hj ho=> ?_⟩
    rcases aaU.1 hj with hj|rfl
    ·exact h2 j hj ho
    ·exact absurd ho h
   ·rintro⟨h1,h2⟩
    exact⟨h1,λj hj ho=>h2 j (by omega) ho⟩
theorem NU (hr:dt S=true) (o:Nat):yv (ia S o) S.n=true:=by
 obtain⟨h0,h8,_⟩:=dw.1 hr
 unfold yv
 rw[decide_eq_true h0,decide_eq_true h8,ack,ack,dJ]
 grind [fo,mC]
theorem zq {S:Sp} {c:Cb} {o:Nat}:tV c.m c.v (ia S o) S.n=true↔dS c.m c.v S.n=true∧∀j,j<S.may.length→o.testBit j=true→tV c.m c.v (jZ S j) S.n=true:=by
 have e1:=gw (s:=ia S o) (n:=S.n) (c:=c)
 have e2:=λj=>gw (s:=jZ S j) (n:=S.n) (c:=c)
 grind [imp,mC]
theorem kK:rF S x=true↔dt S=true∧0<x.o∧x.o<2^S.may.length∧tV x.c.m x.c.v (ia S x.o) S.n=true:=by
 constructor
 ·intro h
  obtain⟨h1,h2,h3⟩:=ir.1 h
  exact⟨h1,h2,(rD h).1,zq.2 ⟨gE h,λj _ hj=>(h3 j hj).2⟩⟩
 ·rintro⟨h1,h2,h3,h4⟩
  refine ir.2 ⟨h1,h2,λj hj=> ?_⟩
  have hlt:j<S.may.length:=Classical.byContradiction λhn=>by
   rw[gI.1 h3 j (by omega)]at hj;cases hj
  grind [zq]
def w4 (S:Sp) (x:Rw):Nat→List Cb
 |0=>[]
 |k+1=>if ¬jI x.c k=x.c∧rF S ⟨jI x.c k,x.o⟩=true then w4 S x k++[jI x.c k]else w4 S x k
theorem CS:∀k,(w4 S x k).length=0↔∀i,i<k→¬(¬jI x.c i=x.c∧rF S ⟨jI x.c i,x.o⟩=true)
 |0=>by simp[w4]
 |k+1=>by
  have ih:=CS (S:=S) (x:=x) k
  rw[w4]
  split
  ·rename_i h
   simp only[An,aaW,acG]
   constructor
   ·intro h2;omega
   ·intro h2;exact absurd h (h2 k (by omega))
  ·rename_i h
   rw[ih]
   constructor
   ·intro h2 i hi
    rcases aaU.1 hi with hi|rfl
    ·exact h2 i hi
    ·exact h
   ·intro h2 i hi;exact h2 i (by omega)
def rM (S:Sp) (x:Rw):Bool:=rF S x&&(decide (qZ S x.c=x.o)&&decide ((w4 S x S.n.toNat).length=0))
theorem Ki (hi:i<8) (hv:c.v &&& c.m=c.v):jI c i=c↔c.m.testBit i=false:=by
 have hw:=λj=>fH (m:=c.m) hi j
 constructor
 ·intro h
  have h1:lK c.m (i:Int)=c.m:=congrArg Cb.m h
  have:=hw i
  rw[h1]at this
  cases hb:c.m.testBit i with
  |false=>rfl
  |true=>rw[hb]at this;simp at this
 ·intro h
  have h1:lK c.m (i:Int)=c.m:=aaF λj=>by
   rw[hw]
   by_cases e:j=i
   ·subst e;rw[h];rfl
   ·simp[e]
  unfold jI
  rw[h1,hv]
theorem fT:rM S x=true↔rF S x=true∧qZ S x.c=x.o∧iL x.c.m x.c.v (ia S x.o) S.n=true:=by
 unfold rM
 rw[so,so,decide_eq_true_eq,decide_eq_true_eq,CS]
 constructor
 ·rintro⟨h1,h2,h3⟩
  refine⟨h1,h2,gF.2 ⟨(kK.1 h1).2.2.2,λi hi=>aaT.2 λhs=> ?_⟩⟩
  obtain⟨h0,h8,hm,hv⟩:=dB.1 (gE h1)
  unfold lF at hs
  rw[so]at hs
  refine h3 i hi ⟨λhe=> ?_,kK.2 ⟨(kK.1 h1).1,(kK.1 h1).2.1,(kK.1 h1).2.2.1,hs.2⟩⟩
  rw[(Ki (by omega) hv).1 he]at hs
  cases hs.1
 ·rintro⟨h1,h2,h3⟩
  refine⟨h1,h2,λi hi ⟨g1,g2⟩=> ?_⟩
  obtain⟨h0,h8,hm,hv⟩:=dB.1 (gE h1)
  have hs:=(gF.1 h3).2 i hi
  unfold lF at hs
  have hb:x.c.m.testBit i=true:=Classical.byContradiction λhn=>g1 ((Ki (by omega) hv).2 (aaT.2 hn))
  have hw:tV (lK x.c.m (i:Int)) (x.c.v &&& lK x.c.m (i:Int)) (ia S x.o) S.n=true:=(kK.1 g2).2.2.2
  grind
def eo (S:Sp) (x:Rw):Nat→Cb
 |0=>x.c
 |i+1=>if rF S ⟨jI (eo S x i) i,x.o⟩=true then jI (eo S x i) i else eo S x i
def xQ (S:Sp) (x:Rw):Rw:=⟨eo S x S.n.toNat,qZ S (eo S x S.n.toNat)⟩
theorem JS (h:rF S ⟨jI (eo S x i) i,x.o⟩=true):jI (eo S x i) i=eo S x (i+1):=(if_pos h).symm
theorem K4 (h:rF S ⟨jI (eo S x i) i,x.o⟩=false):eo S x i=eo S x (i+1):=(if_neg (by rw[h];decide)).symm
theorem BM (h:rF S x=true):∀i,eo S x i=fc (ia S x.o) S.n x.c i
 |0=>rfl
 |i+1=>by
  have ih:=BM h i
  obtain⟨h1,h2,h3,_⟩:=kK.1 h
  have e:rF S ⟨jI (fc (ia S x.o) S.n x.c i) i,x.o⟩=tV (jI (fc (ia S x.o) S.n x.c i) i).m (jI (fc (ia S x.o) S.n x.c i) i).v (ia S x.o) S.n:=by
   rw[acb]
   exact⟨λk=>(kK.1 k).2.2.2,λk=>kK.2 ⟨h1,h2,h3,k⟩⟩
  rw[eo,ih,e]
  rfl
theorem vG (h:x.c.m<256∧x.c.v<256):∀i,(eo S x i).m<256∧(eo S x i).v<256
 |0=>h
 |i+1=>by
  have ih:=vG (S:=S) h i
  rw[eo]
  split
  ·exact⟨ab8 (zR _ _) ih.1,ab8 Nat.and_le_left ih.2⟩
  ·exact ih
theorem oS {S:Sp} {x:Rw} (h:rF S x=true):rM S (xQ S x)=true∧uo (xQ S x) x=true:=by
 obtain⟨h1,h2,h3,h4⟩:=kK.1 h
 have hg:=ul (s:=ia S x.o) (n:=S.n) (c:=x.c) h4
 have e:eo S x S.n.toNat=lD (ia S x.o) S.n x.c:=BM h S.n.toNat
 have hsub:∀j,x.o.testBit j=true→(qZ S (eo S x S.n.toNat)).testBit j=true:=λj hj=>by
  have hlt:j<S.may.length:=Classical.byContradiction λhn=>by
   rw[gI.1 h3 j (by omega)]at hj;cases hj
  rw[ji,e]
  exact⟨hlt,(zq.1 (gF.1 hg.1).1).2 j hlt hj⟩
 have hin:rF S (xQ S x)=true:=ir.2 ⟨h1,(uu h2).elim λj hj=>D9 (hsub j hj),λj hj=>(ji _).1 hj⟩
 refine⟨fT.2 ⟨hin,rfl,gF.2 ⟨(kK.1 hin).2.2.2,λi hi=>aaT.2 λhs=> ?_⟩⟩,qd.2 ⟨by show jF (eo S x S.n.toNat) x.c=true;rw[e];exact hg.2,hsub⟩⟩
 unfold lF at hs
 rw[so]at hs
 have hk:=(gF.1 hg.1).2 i hi
 unfold lF at hk
 rw[←e]at hk
 have hw:tV (lK (eo S x S.n.toNat).m (i:Int)) ((eo S x S.n.toNat).v &&& lK (eo S x S.n.toNat).m (i:Int)) (ia S x.o) S.n=true:=by
  have:=(zq (S:=S) (c:=jI (eo S x S.n.toNat) i) (o:=qZ S (eo S x S.n.toNat))).1 hs.2
  exact(zq (S:=S) (c:=jI (eo S x S.n.toNat) i) (o:=x.o)).2 ⟨this.1,λj hj ho=>this.2 j hj (hsub j ho)⟩
 have hb:(eo S x S.n.toNat).m.testBit i=true:=hs.1
 grind
def EJ (a b:Rw):Bool:=decide (a.o<b.o)||(decide (a.o=b.o)&&z7 a.c b.c)
theorem tn:EJ a b=true↔a.o<b.o∨a.o=b.o∧(a.c.m<b.c.m∨a.c.m=b.c.m∧a.c.v<b.c.v):=by
 unfold EJ
 rw[acr,so,decide_eq_true_eq,decide_eq_true_eq,lS]
def sZ (l:List Rw):Prop:=l.Pairwise λa b=>EJ a b=true
theorem Av (a:Rw):EJ a a=false:=aaT.2 λh=>by rw[tn]at h;omega
theorem Mf (h:EJ a b=true) (k:EJ b c=true):EJ a c=true:=by
 rw[tn]at*;omega
def jt (S:Sp) (o:Nat):Nat→List Rw
 |0=>[]
 |k+1=>if qZ S ((eE (ia S o) S.n).getD k ⟨0,0⟩)=o then jt S o k++[⟨(eE (ia S o) S.n).getD k ⟨0,0⟩,o⟩]else jt S o k
abbrev FB (S:Sp) (o:Nat):List Rw:=jt S o (eE (ia S o) S.n).length
def kC (S:Sp):Nat→List Rw
 |0=>[]
 |o+1=>if o=0 then []else kC S o++FB S o
abbrev eZ (S:Sp):List Rw:=kC S (2^S.may.length)
theorem Oo (h:qZ S ((eE (ia S o) S.n).getD k ⟨0,0⟩)=o):jt S o k++[⟨(eE (ia S o) S.n).getD k ⟨0,0⟩,o⟩]=jt S o (k+1):=(if_pos h).symm
theorem PY (h:¬qZ S ((eE (ia S o) S.n).getD k ⟨0,0⟩)=o):jt S o k=jt S o (k+1):=(if_neg h).symm
theorem Ic (h:0<o):kC S o++FB S o=kC S (o+1):=(if_neg (by omega)).symm
theorem uf (S:Sp) (o:Nat):∀k,(jt S o k).length≤k
 |0=>by simp[jt]
 |k+1=>by
  have:=uf S o k
  rw[jt]
  split<;>simp<;>omega
theorem w5 (h8:S.n≤8):∀o,(kC S o).length≤o*65536
 |0=>by simp[kC]
 |o+1=>by
  have ih:=w5 h8 o
  have h1:=uf S o (eE (ia S o) S.n).length
  have h2:=xw (s:=ia S o) h8
  rw[kC]
  split
  ·simp
  ·simp only[An];show (kC S o).length+(jt S o (eE (ia S o) S.n).length).length≤_;omega
theorem oy:∀k,x∈jt S o k↔∃j,j<k∧x=⟨(eE (ia S o) S.n).getD j ⟨0,0⟩,o⟩∧qZ S x.c=o
 |0=>by simp[jt]
 |k+1=>by
  rw[jt]
  split
  ·rename_i h
   rw[aaQ,aaG,oy k]
   constructor
   ·rintro(⟨j,hj,r⟩|rfl)
    ·exact⟨j,by omega,r⟩
    ·exact⟨k,by omega,rfl,h⟩
   ·rintro⟨j,hj,r,r2⟩
    rcases aaU.1 hj with hj|rfl
    ·exact .inl ⟨j,hj,r,r2⟩
    ·exact .inr r
  ·rename_i h
   rw[oy k]
   constructor
   ·rintro⟨j,hj,r⟩;exact⟨j,by omega,r⟩
   ·rintro⟨j,hj,r,r2⟩
    rcases aaU.1 hj with hj|rfl
    ·exact⟨j,hj,r,r2⟩
    ·subst r;exact absurd r2 h
theorem LA (hr:dt S=true) (h0:0<o) (ho:o<2^S.may.length):x∈FB S o↔rM S x=true∧x.o=o:=by
 unfold FB
 rw[oy]
 constructor
 ·rintro⟨j,hj,rfl,h2⟩
  have hp:=oP.1 (dF (d:=⟨0,0⟩) hj)
  have hin:rF S ⟨(eE (ia S o) S.n).getD j ⟨0,0⟩,o⟩=true:=kK.2 ⟨hr,h0,ho,(gF.1 hp).1⟩
  exact⟨fT.2 ⟨hin,h2,hp⟩,rfl⟩
 ·rintro⟨h1,rfl⟩
  obtain⟨g1,g2,g3⟩:=fT.1 h1
  obtain⟨j,hj,he⟩:=fh (d:=⟨0,0⟩) (oP.2 g3)
  have he':(eE (ia S x.o) S.n).getD j ⟨0,0⟩=x.c:=he
  exact⟨j,hj,by rw[he'],g2⟩
theorem BI (hr:dt S=true):∀o,o≤2^S.may.length→(x∈kC S o↔rM S x=true∧x.o<o)
 |0,_=>by simp[kC]
 |o+1,ho=>by
  rw[kC]
  split
  ·rename_i h
   subst h
   constructor
   ·intro h;cases h
   ·rintro⟨h1,h2⟩
    have:=(ir.1 (fT.1 h1).1).2.1
    omega
  ·rename_i h
   rw[aaQ,BI hr o (by omega),LA hr (by omega) (by omega)]
   constructor
   ·rintro(⟨h1,h2⟩|⟨h1,h2⟩)
    ·exact⟨h1,by omega⟩
    ·exact⟨h1,by omega⟩
   ·rintro⟨h1,h2⟩
    rcases aaU.1 h2 with h2|h2
    ·exact .inl ⟨h1,h2⟩
    ·exact .inr ⟨h1,h2⟩
theorem vk (hr:dt S=true):x∈eZ S↔rM S x=true:=by
 rw[BI hr _ (am _)]
 grind [rD,fT]
theorem Ik (h:jq l) (hij:i<j) (hj:j<l.length):z7 (l.getD i ⟨0,0⟩) (l.getD j ⟨0,0⟩)=true:=by
 have:=acJ.1 h i j (by omega) hj hij
 grind
theorem tS (S:Sp) (o:Nat):∀k,k≤(eE (ia S o) S.n).length→sZ (jt S o k)
 |0,_=>by simp[jt,sZ]
 |k+1,hk=>by
  have ih:=tS S o k (by omega)
  rw[jt]
  split
  ·refine List.pairwise_append.2 ⟨ih,by simp,λa ha b hb=> ?_⟩
   rw[aaG]at hb
   subst hb
   obtain⟨j,hj,rfl,_⟩:=(oy k).1 ha
   have:=Ik (sk (ia S o) S.n) hj (by omega)
   unfold EJ
   rw[this]
   simp
  ·exact ih
theorem K7 (h:x∈FB S o):x.o=o:=by
 grind [oy]
theorem KM:∀o,x∈kC S o→x.o<o
 |0,h=>by simp[kC]at h
 |o+1,h=>by
  rw[kC]at h
  split at h
  ·cases h
  ·rcases aaQ.1 h with h|h
   ·have:=KM o h;omega
   ·have:=K7 h;omega
theorem qr (S:Sp):∀o,sZ (kC S o)
 |0=>by simp[kC,sZ]
 |o+1=>by
  have ih:=qr S o
  rw[kC]
  split
  ·simp[sZ]
  ·refine List.pairwise_append.2 ⟨ih,tS S o _ (am _),λa ha b hb=> ?_⟩
   have h1:=KM o ha
   have h2:=K7 hb
   rw[tn]
   omega
def qu (l:List Rw) (x:Rw):Nat→Nat
 |0=>0
 |i+1=>if EJ x (l.getD i ⟨⟨0,0⟩,0⟩)=true then qu l x i else i+1
def Le (l:List Rw) (x:Rw):List Rw:=l.take (qu l x l.length)++x::l.drop (qu l x l.length)
def fq (l:List Rw):Nat→List Rw
 |0=>[]
 |k+1=>Le (fq l k) (l.getD k ⟨⟨0,0⟩,0⟩)
theorem JX (l:List Rw) (x:Rw):∀k,qu l x k≤k
 |0=>by simp[qu]
 |k+1=>by
  have:=JX l x k
  rw[qu]
  split<;>omega
theorem Mt (h0:0<i) (h:EJ x (l.getD (i-1) ⟨⟨0,0⟩,0⟩)=true):qu l x i=qu l x (i-1):=by
 obtain⟨j,rfl⟩:∃j,i=j+1:=⟨i-1,by omega⟩
 rw[qu,if_pos (by simpa using h)];rfl
theorem EZ (h:i=0∨EJ x (l.getD (i-1) ⟨⟨0,0⟩,0⟩)=false):qu l x i=i:=by
 rcases h with rfl|h
 ·rfl
 ·cases i with
  |zero=>rfl
  |succ j=>rw[qu,if_neg (by simp at h;simp[h])]
theorem Qm (l:List Rw) (x:Rw):(Le l x).length=l.length+1:=by
 grind [JX,Le]
theorem qq (l:List Rw):∀k,(fq l k).length=k
 |0=>rfl
 |k+1=>by rw[fq,Qm,qq l k]
theorem xN (h:sZ l):∀k,k≤l.length→fq l k=l.take k
 |0,_=>rfl
 |k+1,hk=>by
  have ih:=xN h k (by omega)
  have e:l.getD k ⟨⟨0,0⟩,0⟩=l[k]:=by simp[show k<l.length by omega]
  have hp:qu (l.take k) l[k] (l.take k).length=(l.take k).length:=EZ (by
   by_cases h0:(l.take k).length=0
   ·exact .inl h0
   ·right
    have hl:(l.take k).length=k:=by simp;omega
    rw[hl]at h0 ⊢
    have hlt:=acJ.1 h (k-1) k (by omega) (by omega) (by omega)
    have e2:(l.take k).getD (k-1) ⟨⟨0,0⟩,0⟩=l[k-1]:=by
     simp[Do,List.getElem?_take,show k-1<k by omega,th (show k-1<l.length by omega)]
    rw[e2]
    refine aaT.2 λhb=> ?_
    have:=Mf hlt hb
    rw[Av]at this
    cases this)
  rw[fq,ih,e,Le,hp,aaY,List.drop_length,adb (by omega)]
theorem Ma (S:Sp):fq (eZ S) (eZ S).length=eZ S:=by
 rw[xN (qr S _) _ (am _),aaY]
def nT (l:List Rw) (n o:Nat):Nat→Nat
 |0=>0
 |k+1=>if (l.getD k ⟨⟨0,0⟩,0⟩).o.testBit o=true then nT l n o k ||| rj (l.getD k ⟨⟨0,0⟩,0⟩).c.m (l.getD k ⟨⟨0,0⟩,0⟩).c.v n else nT l n o k
theorem XI (h:(l.getD k ⟨⟨0,0⟩,0⟩).o.testBit o=true):nT l n o k ||| rj (l.getD k ⟨⟨0,0⟩,0⟩).c.m (l.getD k ⟨⟨0,0⟩,0⟩).c.v n=nT l n o (k+1):=(if_pos h).symm
theorem XJ (h:¬(l.getD k ⟨⟨0,0⟩,0⟩).o.testBit o=true):nT l n o k=nT l n o (k+1):=(if_neg h).symm
def Xj (x:Rw) (o p:Nat):Prop:=x.o.testBit o=true∧hold x.c p
theorem lH (hn:n≤8) (p:Nat):∀k,k≤l.length→((nT l n o k).testBit p=true↔p<2^n∧∃j,j<k∧Xj (l.getD j ⟨⟨0,0⟩,0⟩) o p)
 |0,_=>by simp[nT]
 |k+1,hk=>by
  have ih:=lH (l:=l) (o:=o) hn p k (by omega)
  rw[nT]
  split
  ·rename_i h
   rw[acq,acr,ih,kg hn,so,decide_eq_true_eq,decide_eq_true_eq]
   constructor
   ·rintro(⟨h1,j,hj,r⟩|⟨h1,h2⟩)
    ·exact⟨h1,j,by omega,r⟩
    ·exact⟨h1,k,by omega,h,h2⟩
   ·rintro⟨h1,j,hj,r⟩
    rcases aaU.1 hj with hj|rfl
    ·exact .inl ⟨h1,j,hj,r⟩
    ·exact .inr ⟨h1,r.2⟩
  ·rename_i h
   rw[ih]
   constructor
   ·rintro⟨h1,j,hj,r⟩;exact⟨h1,j,by omega,r⟩
   ·rintro⟨h1,j,hj,r⟩
    rcases aaU.1 hj with hj|rfl
    ·exact⟨h1,j,hj,r⟩
    ·exact absurd r.1 h
def Qd (S:Sp) (x:Rw):Bool:=dS x.c.m x.c.v S.n&&(decide (0<x.o)&&decide (x.o<2^S.on.length))
def km (S:Sp) (l:List Rw):Bool:=l.all (Qd S)
def Ep (S:Sp) (l:List Rw) (o:Nat):Bool:=dW (zn S o) (nT l S.n.toNat o l.length)&&dW (nT l S.n.toNat o l.length) (jZ S o)
def gH (S:Sp) (l:List Rw):Bool:=dt S&&(km S l&&(List.range S.on.length).all (Ep S l))
theorem eW:gH S l=true↔dt S=true∧km S l=true∧∀o,o<S.on.length→Ep S l o=true:=by
 unfold gH
 grind
theorem j6:km S l=true↔∀k,k<l.length→Qd S (l.getD k ⟨⟨0,0⟩,0⟩)=true:=by
 unfold km
 rw[aa1]
 constructor
 ·intro h k hk;exact h _ (dF hk)
 ·intro h x hx
  obtain⟨k,hk,rfl⟩:=fh (d:=⟨⟨0,0⟩,0⟩) hx
  exact h k hk
theorem f7:Qd S x=true↔dS x.c.m x.c.v S.n=true∧0<x.o∧x.o<2^S.on.length:=by
 unfold Qd
 grind
end
section
theorem lA (h:(!b)=false):b=true:=by grind
theorem kh (h:(!b)=true):b=false:=by grind
theorem Re (h:b=true):Value.bool true= .bool b:=by rw[h]
theorem x8 (h:¬b=true):Value.bool false= .bool b:=by grind
theorem zx {n er:Int} {sa:Nat} (h:(0≤n∧n≤8∧sa=fk n.toNat∧er=0)∨(¬(0≤n∧n≤8)∧er=1)) (h0:¬¬er=0):0≤n∧n≤8∧sa=fk n.toNat:=by
 omega
theorem XM {n er:Int} {sa:Nat} (h:(0≤n∧n≤8∧sa=fk n.toNat∧er=0)∨(¬(0≤n∧n≤8)∧er=1)) (h0:¬er=0):¬(0≤n∧n≤8):=by
 omega
theorem YC {S:Sp} {m u o:Nat} (h1:dt S=true) (h2:(0:Int)<(o:Int)):decide (((andNot o (qZ S ⟨m,u⟩):Nat):Int)=0)=rF S ⟨⟨m,u⟩,o⟩:=by
 unfold rF
 grind
theorem ZA {S:Sp} {m u o:Nat} (h2:¬(0:Int)<(o:Int)):¬rF S ⟨⟨m,u⟩,o⟩=true:=by grind [ir]
theorem Z9 (h2:dt S=false):¬rF S x=true:=by grind [ir]
theorem RB {a b k:Nat} (ha:a<2^k):a+2^k=a ||| 2^k:=by
 have h:=acu ha 1
 grind
theorem Un (h:a.testBit k=false):a+2^k=a ||| 2^k:=by
 have e:a=2^(k+1)*(a/2^(k+1))+a%2^(k+1):=(Nat.div_add_mod a _).symm
 have hlow:a%2^(k+1)<2^k:=by
  refine gI.2 λj hj=> ?_
  rw[Nat.testBit_mod_two_pow]
  by_cases hjk:j=k
  ·subst hjk;rw[h,acM]
  ·rw[decide_eq_false (by omega),acs]
 have hlt:a%2^(k+1)+2^k<2^(k+1):=by have:=acF 2 k;omega
 have e2:a+2^k=2^(k+1)*(a/2^(k+1))+(a%2^(k+1)+2^k):=by omega
 rw[e2,acu hlt,RB (b:=0) hlow,←Nat.or_assoc,←acu (Nat.mod_lt _ (ace _)),←e]
theorem Ye {m u o m2 u2 o2:Nat} (h:¬(o:Int)=(o2:Int)):decide ((o:Int)<(o2:Int))=EJ ⟨⟨m,u⟩,o⟩ ⟨⟨m2,u2⟩,o2⟩:=by
 rw[acb,tn,decide_eq_true_eq]
 grind
theorem aaw {m u o m2 u2 o2:Nat} (h:¬¬(o:Int)=(o2:Int)) (h2:¬(m:Int)=(m2:Int)):decide ((m:Int)<(m2:Int))=EJ ⟨⟨m,u⟩,o⟩ ⟨⟨m2,u2⟩,o2⟩:=by
 rw[acb,tn,decide_eq_true_eq]
 grind
theorem aai {m u o m2 u2 o2:Nat} (h:¬¬(o:Int)=(o2:Int)) (h2:¬¬(m:Int)=(m2:Int)):decide ((u:Int)<(u2:Int))=EJ ⟨⟨m,u⟩,o⟩ ⟨⟨m2,u2⟩,o2⟩:=by
 rw[acb,tn,decide_eq_true_eq]
 grind
theorem H3 (h0:0<i) (h:EJ x (l.getD ((i:Int)-1).toNat ⟨⟨0,0⟩,0⟩)=true):qu l x i=qu l x (i-1):=
 Mt h0 (by rwa [show ((i:Int)-1).toNat=i-1 by omega]at h)
theorem CG (h:i=0∨EJ x (l.getD ((i:Int)-1).toNat ⟨⟨0,0⟩,0⟩)=false):qu l x i=i:=
 EZ (by rwa [show ((i:Int)-1).toNat=i-1 by omega]at h)
theorem zL {sz:Nat} {v:Value} {h:Nat} {α:Type} {l:List α} (e:((l.drop 0).take (h-0)).length=h-0):jn (fY sz v 0 h h)=((l.drop 0).take (h-0)).length:=e.symm
theorem OM (h8:n≤8) (hi:i<(eE s n).length):((eE s n).getD i ⟨0,0⟩).m<256∧((eE s n).getD i ⟨0,0⟩).v<256:=by
 have:=nR (mN (O6 hi))
 grind [fm]
theorem KL (h:((o/2^((i:Nat):Int).toNat &&& 1:Nat):Int)=1):o.testBit i=true:=qm.1 h
theorem Js (h:¬((o/2^((i:Nat):Int).toNat &&& 1:Nat):Int)=1):¬o.testBit i=true:=by grind
theorem Pv {a b:Nat} (h:(a:Int)=(b:Int)):a=b:=by omega
end
section
open Go Go.RowKit Go.ChangeShapes Go.WideShapes Go.ChangeAt Go.Joins Go.Deep
section
variable {H:Type} {encH:TypeId×Value→H} {P:Program} {w:World} {base:Nat} {held:Bool} {r:Reach} {b0:Nat} {t e:TypeId}
theorem open_pair (hs:P.underlying t=some (.struct #[f0,f1])) (hone:oneCellFields P #[f0,f1]=true) (hC:P.cellsOf t=2) (h0:P.underlying f0.type=some (.int .i64)) (h1:P.underlying f1.type=some (.int .i64))
  (hv:Value.okWide P w r b0 t v) (h:DataW.Trod encH P w base (λ_=>true) held t v d p):∃a b:Int,v= .agg #[.int .i64 a, .int .i64 b]:=by
 obtain⟨v0,v1,y0,y1,n,rfl,_,_,g0,g1⟩:=open_agg2 hs hone hC hv h
 obtain⟨z0,e0,_,_⟩:=DataW.trod_int h0 g0
 obtain⟨z1,e1,_,_⟩:=DataW.trod_int h1 g1
 simp only[List.cons.injEq,and_true]at e0 e1
 subst e0 e1
 exact⟨z0,z1,rfl⟩
instance:Inhabited Rw:=⟨⟨⟨0,0⟩,0⟩⟩
instance:Inhabited Cb:=⟨⟨0,0⟩⟩
end
end
end Go.Proofs.YtedeonkjellcpaaGreatDoor
