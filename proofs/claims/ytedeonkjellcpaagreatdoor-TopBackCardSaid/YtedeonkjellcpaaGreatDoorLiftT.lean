/- Plain words for cubes within a set, and for primes. No program in it. Cubes, lines and tables as texts. No program in it. How tables and strings read that are arguments of the statements; a row whose listed variables are laid. -/
import Derived.Test.YtedeonkjellcpaaGreatDoorFrame
import Derived.LaidMore
import Derived.Lay
import Derived.SizedLaws
import Derived.MakeChecks
import Derived.Stop.LaidErr
import Derived.Lib.LaidTab
import Derived.Shelf.Vars
import Derived.Stop.Joined
namespace Go.Proofs.YtedeonkjellcpaaGreatDoor
set_option linter.unusedVariables false
set_option linter.unusedSimpArgs false
section
open Go Go.RowKit
def xz (s:Nat) (n:Int):Bool:=decide (0≤n)&&(decide (n≤8)&&eO s (fh n.toNat))
def sR (m v s:Nat) (n:Int):Bool:=dC m v n&&eO (oH m v n.toNat) s
theorem dw {m v:Nat} {n:Int}:dC m v n=true↔0≤n∧n≤8∧m<2^n.toNat∧v &&& m=v:=by
 unfold dC
 simp only[we,decide_eq_true_eq,qC]
theorem vV {m v s:Nat} {n:Int} (h:sR m v s n=true):dC m v n=true:=(we _ _▸h:_∧_).1
theorem Uu {m v s:Nat} {n:Int} (h:dC m v n=true):eO (oH m v n.toNat) s=sR m v s n:=by
 rw[sR,h];rfl
theorem Ys {m v s:Nat} {n:Int} (h:dC m v n=false):false=sR m v s n:=by
 rw[sR,h];rfl
theorem fz {m i:Nat} (hi:i<8) (j:Nat):(lI m (i:Int)).testBit j=(m.testBit j&&decide (j≠i)):=by
 unfold lI
 rw[if_pos (by omega),dU,so,aas]
 congr 1
 by_cases e:i=j
 ·subst e;simp
 ·have:¬j=i:=λh=>e h.symm
  simp[e,this]
theorem yn (m:Nat) (i:Int):lI m i≤m:=by
 unfold lI
 split
 ·exact rX _ _
 ·exact am _
abbrev YB (m v:Nat) (i:Int):Value:= .agg #[.int .u8 ((lI m i:Nat):Int), .int .u8 ((v &&& lI m i:Nat):Int)]
def lC (m v s:Nat) (n:Int) (i:Nat):Bool:=m.testBit i&&sR (lI m (i:Int)) (v &&& lI m (i:Int)) s n
def iD (m v s:Nat) (n:Int):Bool:=sR m v s n&&(List.range n.toNat).all λi=> !lC m v s n i
theorem gy {m v s:Nat} {n:Int}:iD m v s n=true↔sR m v s n=true∧∀i,i<n.toNat→lC m v s n i=false:=by
 unfold iD
 rw[we,aaj]
 simp only[aam,Bool.not_eq_true']
theorem oA {m i:Nat}:(((m/2^i &&& 1:Nat):Int)=1)↔m.testBit i=true:=by
 rw[px,kC,decide_eq_true_eq]
 omega
def eY (s:Nat) (n:Int) (c:Cb):Nat→Cb
 |0=>c
 |i+1=>
  let d:=eY s n c i
  if sR (lI d.m (i:Int)) (d.v &&& lI d.m (i:Int)) s n=true then ⟨lI d.m (i:Int),d.v &&& lI d.m (i:Int)⟩else d
theorem DF {s i:Nat} {n:Int} {c:Cb} (h:sR (lI (eY s n c i).m (i:Int)) ((eY s n c i).v &&& lI (eY s n c i).m (i:Int)) s n=true):
  eY s n c (i+1)=⟨lI (eY s n c i).m (i:Int),(eY s n c i).v &&& lI (eY s n c i).m (i:Int)⟩:=by
 simp only[eY];rw[if_pos h]
theorem Eg {s i:Nat} {n:Int} {c:Cb} (h:sR (lI (eY s n c i).m (i:Int)) ((eY s n c i).v &&& lI (eY s n c i).m (i:Int)) s n=false):eY s n c (i+1)=eY s n c i:=by
 simp only[eY];rw[if_neg (by rw[h];decide)]
theorem Bm {s:Nat} {n:Int} {c:Cb} (h:c.m<256∧c.v<256):∀i,(eY s n c i).m<256∧(eY s n c i).v<256
 |0=>h
 |i+1=>by
  have ih:=Bm (s:=s) (n:=n) h i
  simp only[eY]
  split
  ·exact⟨aaw (yn _ _) ih.1,aaw Nat.and_le_left ih.2⟩
  ·exact ih
def lK (s:Nat) (n:Int) (c:Cb):Cb:=eY s n c n.toNat
def yo (a b:Cb):Bool:=decide (a.m<b.m)||decide (a.m=b.m)&&decide (a.v<b.v)
def yK (c:Cb):Nat:=c.m*256+c.v
def kx (s:Nat) (n:Int) (m:Nat):Nat→List Cb
 |0=>[]
 |k+1=>if iD m k s n=true then kx s n m k++[⟨m,k⟩]else kx s n m k
def mf (s:Nat) (n:Int):Nat→List Cb
 |0=>[]
 |k+1=>mf s n k++kx s n k (2^n.toNat)
def ej (s:Nat) (n:Int):List Cb:=mf s n (2^n.toNat)
theorem wK (s:Nat) (n:Int) (m:Nat):∀k,(kx s n m k).length≤k
 |0=>by simp[kx]
 |k+1=>by
  have:=wK s n m k
  simp only[kx]
  split<;>simp<;>omega
theorem wt (s:Nat) (n:Int):∀k,(mf s n k).length≤k*2^n.toNat
 |0=>by simp[mf]
 |k+1=>by
  have:=wt s n k
  have h2:=wK s n k (2^n.toNat)
  simp only[mf,An,aaR,aap]
  omega
theorem oh {s m:Nat} {n:Int} {c:Cb}:∀k,c∈kx s n m k↔c.m=m∧c.v<k∧iD c.m c.v s n=true
 |0=>by simp[kx]
 |k+1=>by
  have ih:=oh (s:=s) (m:=m) (n:=n) (c:=c) k
  obtain⟨cm,cv⟩:=c
  simp only[kx]
  split
  ·rename_i h
   simp only[Z6,Z8,ih,Cb.mk.injEq]
   constructor
   ·rintro(⟨h1,h2,h3⟩|⟨rfl,rfl⟩)
    ·exact⟨h1,Nat.lt_succ_of_lt h2,h3⟩
    ·exact⟨rfl,abn _,h⟩
   ·rintro⟨h1,h2,h3⟩
    rcases aac.1 h2 with h2|h2
    ·exact .inl ⟨h1,h2,h3⟩
    ·exact .inr ⟨h1,h2⟩
  ·rename_i h
   rw[ih]
   constructor
   ·rintro⟨h1,h2,h3⟩;exact⟨h1,Nat.lt_succ_of_lt h2,h3⟩
   ·rintro⟨h1,h2,h3⟩
    refine⟨h1,?_,h3⟩
    rcases aac.1 h2 with h2|h2
    ·exact h2
    ·subst h1;subst h2;exact absurd h3 h
theorem qW {s:Nat} {n:Int} {c:Cb}:∀k,c∈mf s n k↔c.m<k∧c.v<2^n.toNat∧iD c.m c.v s n=true
 |0=>by simp[mf]
 |k+1=>by
  simp only[mf,Z6,qW k,oh]
  constructor
  ·rintro(⟨h1,h2,h3⟩|⟨h1,h2,h3⟩)
   ·exact⟨by omega,h2,h3⟩
   ·exact⟨by omega,h2,h3⟩
  ·rintro⟨h1,h2,h3⟩
   rcases aac.1 h1 with h1|h1
   ·exact .inl ⟨h1,h2,h3⟩
   ·exact .inr ⟨h1,h2,h3⟩
theorem mq {m v:Nat} {n:Int} (h:dC m v n=true):m<2^n.toNat∧v<2^n.toNat:=by
 have h1:=dw.1 h
 have h2:v &&& m≤m:=abm
 rw[h1.2.2.2]at h2
 exact⟨h1.2.2.1,by omega⟩
theorem kP {m v s:Nat} {n:Int} (h:iD m v s n=true):dC m v n=true:=vV (gy.1 h).1
theorem oy {s:Nat} {n:Int} {c:Cb}:c∈ej s n↔iD c.m c.v s n=true:=by
 unfold ej
 rw[qW]
 exact⟨λh=>h.2.2,λh=>⟨(mq (kP h)).1,(mq (kP h)).2,h⟩⟩
def jm (l:List Cb):Prop:=l.Pairwise λa b=>yo a b=true
theorem lr {a b:Cb}:yo a b=true↔a.m<b.m∨a.m=b.m∧a.v<b.v:=by
 simp[yo]
theorem AK {a b c:Cb} (h:yo a b=true) (k:yo b c=true):yo a c=true:=by
 rw[lr]at*
 omega
theorem tI (a:Cb):yo a a=false:=by
 refine aah.2 λh=> ?_
 rw[lr]at h
 omega
theorem KF {a b:Cb} (h:yo a b=false) (hne:a≠b):yo b a=true:=by
 rw[lr]
 have h1:¬(a.m<b.m∨a.m=b.m∧a.v<b.v):=λk=>by rw[lr.2 k]at h;cases h
 have h2:¬(a.m=b.m∧a.v=b.v):=λ⟨k,k2⟩=>hne (by cases a;cases b;simp_all)
 omega
theorem rl (s:Nat) (n:Int) (m:Nat):∀k,jm (kx s n m k)
 |0=>by simp[kx,jm]
 |k+1=>by
  have ih:=rl s n m k
  simp only[kx]
  split
  ·refine abP.2 ⟨ih,by simp,λa ha b hb=> ?_⟩
   simp at hb
   subst hb
   have:=(oh k).1 ha
   rw[lr]
   exact .inr ⟨this.1,this.2.1⟩
  ·exact ih
theorem qL (s:Nat) (n:Int):∀k,jm (mf s n k)
 |0=>by simp[mf,jm]
 |k+1=>by
  refine abP.2 ⟨qL s n k,rl s n k _,λa ha b hb=> ?_⟩
  have h1:=(qW k).1 ha
  have h2:=(oh _).1 hb
  rw[lr]
  exact .inl (by omega)
theorem rz (s:Nat) (n:Int):jm (ej s n):=qL s n _
theorem yA:∀{l l':List Cb},jm l→jm l'→(∀c,c∈l↔c∈l')→l=l'
 |[],[],_,_,_=>rfl
 |[],b::r,_,_,h=>by have:=(h b).2 gj;simp at this
 |a::l,[],_,_,h=>by have:=(h a).1 gj;simp at this
 |a::l,b::r,h1,h2,h=>by
  obtain⟨p1,q1⟩:=aaW.1 h1
  obtain⟨p2,q2⟩:=aaW.1 h2
  have hab:a=b:=by
   refine Decidable.byContradiction λhne=> ?_
   have ha:a∈r:=((aaq.1 ((h a).1 gj)).resolve_left hne)
   have hb:b∈l:=((aaq.1 ((h b).2 gj)).resolve_left (λe=>hne e.symm))
   have:=AK (p1 b hb) (p2 a ha)
   rw[tI]at this
   cases this
  subst hab
  congr 1
  refine yA q1 q2 λc=> ?_
  constructor
  ·intro hc
   rcases aaq.1 ((h c).1 (by simp[hc]))with e|hc'
   ·subst e;have:=p1 c hc;rw[tI]at this;cases this
   ·exact hc'
  ·intro hc
   rcases aaq.1 ((h c).2 (by simp[hc]))with e|hc'
   ·subst e;have:=p2 c hc;rw[tI]at this;cases this
   ·exact hc'
def ob (l:List Cb) (c:Cb):Nat→Nat
 |0=>0
 |i+1=>if yo (l.getD i ⟨0,0⟩) c=true then i+1 else ob l c i
def B8 (l:List Cb) (c:Cb):List Cb:=l.take (ob l c l.length)++c::l.drop (ob l c l.length)
theorem JL (l:List Cb) (c:Cb):∀k,ob l c k≤k
 |0=>by simp[ob]
 |k+1=>by
  have:=JL l c k
  simp only[ob]
  split<;>omega
theorem L4 {l:List Cb} {c d:Cb}:d∈B8 l c↔d=c∨d∈l:=by
 unfold B8
 rw[Z6,aaq]
 conv=>rhs;rw[←List.take_append_drop (ob l c l.length) l,Z6]
 constructor
 ·rintro(h|h|h)
  ·exact .inr (.inl h)
  ·exact .inl h
  ·exact .inr (.inr h)
 ·rintro(h|h|h)
  ·exact .inr (.inl h)
  ·exact .inl h
  ·exact .inr (.inr h)
theorem BA (l:List Cb) (c:Cb):∀k,(∀j,ob l c k≤j→j<k→yo (l.getD j ⟨0,0⟩) c=false)∧(ob l c k=0∨yo (l.getD (ob l c k-1) ⟨0,0⟩) c=true)
 |0=>by simp[ob]
 |k+1=>by
  have ih:=BA l c k
  simp only[ob]
  split
  ·rename_i h
   exact⟨λj h1 h2=>by omega, .inr (by simpa using h)⟩
  ·rename_i h
   refine⟨λj h1 h2=> ?_,ih.2⟩
   rcases aac.1 h2 with h2|rfl
   ·exact ih.1 j h1 h2
   ·exact aah.2 h
theorem FZ {l:List Cb} {c:Cb} (h:jm l) (hc:c∉l):jm (B8 l c):=by
 obtain⟨h1,h2⟩:=BA l c l.length
 have hp:=JL l c l.length
 have hg:=aa2.1 h
 unfold B8
 generalize ob l c l.length=k at*
 have hlow:∀a∈l.take k,yo a c=true:=λa ha=>by
  obtain⟨i,hi,rfl⟩:=List.mem_iff_getElem.1 ha
  rw[aal]at hi
  rw[List.getElem_take]
  rcases h2 with h2|h2
  ·omega
  ·have hk:l.getD (k-1) ⟨0,0⟩=l[k-1]'(by omega):=by simp[show k-1<l.length by omega]
   rw[hk]at h2
   by_cases e:i=k-1
   ·subst e;exact h2
   ·exact AK (hg i (k-1) (by omega) (by omega) (by omega)) h2
 have hhigh:∀a∈l.drop k,yo c a=true:=λa ha=>by
  obtain⟨i,hi,rfl⟩:=List.mem_iff_getElem.1 ha
  rw[aa5]at hi
  rw[List.getElem_drop]
  have h3:=h1 (k+i) (by omega) (by omega)
  have hk:l.getD (k+i) ⟨0,0⟩=l[k+i]'(by omega):=by simp[show k+i<l.length by omega]
  rw[hk]at h3
  exact KF h3 (λe=>hc (e▸List.getElem_mem _))
 have hs:jm (l.take k++l.drop k):=by rw[List.take_append_drop];exact h
 obtain⟨s1,s2,s3⟩:=abP.1 hs
 refine abP.2 ⟨s1,aaW.2 ⟨hhigh,s2⟩,λa ha b hb=> ?_⟩
 rcases aaq.1 hb with rfl|hb
 ·exact hlow a ha
 ·exact s3 a ha b hb
theorem NV {a b:Cb} (ha:a.v<256) (hb:b.v<256) (h:yo a b=true):yK a<yK b:=by
 rw[lr]at h
 unfold yK
 omega
theorem zz:∀(l:List Cb) (B:Nat),jm l→(∀c∈l,c.v<256)→(∀c∈l,B≤yK c∧yK c<65536)→l.length+B≤65536∨l=[]
 |[],_,_,_,_=> .inr rfl
 |a::l,B,h,hv,hb=>by
  obtain⟨p,q⟩:=aaW.1 h
  have h1:=hb a gj
  rcases zz l (yK a+1) q (λc hc=>hv c (by simp[hc])) (λc hc=>⟨NV (hv a gj) (hv c (by simp[hc])) (p c hc),(hb c (by simp[hc])).2⟩)with h2|rfl
  ·left;simp;omega
  ·left;simp;omega
theorem CX {l:List Cb} (h:jm l) (hm:∀c∈l,c.m<256∧c.v<256):l.length≤65536:=by
 rcases zz l 0 h (λc hc=>(hm c hc).2) (λc hc=>⟨my _,by have:=hm c hc;unfold yK;omega⟩)with h|rfl
 ·omega
 ·simp
def jx (a b:Cb):Bool:=decide (andNot a.m b.m=0)&&decide ((a.v ^^^ b.v) &&& a.m=0)
theorem Su {m u k:Nat} (h:((k &&& m:Nat):Int)=(u:Int)):ou m u (k+1)=mX (ou m u k) (k:Int):=if_pos (by omega)
theorem QX {m u k:Nat} (h:¬((k &&& m:Nat):Int)=(u:Int)):ou m u (k+1)=ou m u k:=if_neg (by omega)
theorem Pj {m u:Nat} {n:Int} (h0:0≤n) (h8:n≤8) (h:(m:Int)<((1*2^n.toNat:Nat):Int)):decide (((andNot u m:Nat):Int)=0)=dC m u n:=by
 unfold dC
 rw[decide_eq_true h0,decide_eq_true h8,decide_eq_true (show m<2^n.toNat by omega),aaA]
 simp only[aax,decide_eq_true_eq]
 omega
theorem LF {m u:Nat} {n:Int} (h:¬(m:Int)<((1*2^n.toNat:Nat):Int)):false=dC m u n:=by
 unfold dC
 rw[decide_eq_false (show ¬m<2^n.toNat by omega)]
 simp
end
section
open Go Go.RowKit
def ss (b:Nat):Bool:=b==45||b==48||b==49
def Ge (s:List UInt8):Nat→Nat
 |0=>0
 |k+1=>if iY s k=48∨iY s k=49 then Ge s k ||| 1*2^k else Ge s k
def Ff (s:List UInt8):Nat→Nat
 |0=>0
 |k+1=>if iY s k=49 then Ff s k ||| 1*2^k else Ff s k
def Aw (s:List UInt8):Cb:=⟨Ge s s.length,Ff s s.length⟩
def nO (s:List UInt8):Bool:=decide (s.length≤8)&&(List.range s.length).all λi=>ss (iY s i)
section
variable {s:List UInt8} {i r n:Nat}
theorem H0 (s:List UInt8):∀k,Ge s k<2^k
 |0=>by simp[Ge]
 |k+1=>by
  have h:=H0 s k
  have e:2^(k+1)=2*2^k:=by rw[aa4];omega
  rw[Ge]
  split
  ·exact Nat.or_lt_two_pow (by omega) (by rw[aap];exact abv (by decide) (abn k))
  ·omega
theorem LM (s:List UInt8):∀k,Ff s k<2^k
 |0=>by simp[Ff]
 |k+1=>by
  have h:=LM s k
  have e:2^(k+1)=2*2^k:=by rw[aa4];omega
  rw[Ff]
  split
  ·exact Nat.or_lt_two_pow (by omega) (by rw[aap];exact abv (by decide) (abn k))
  ·omega
theorem Tu (h:iY s i=48∨iY s i=49):Ge s i ||| 1*2^i=Ge s (i+1):=(if_pos h).symm
theorem WD (h:¬(iY s i=48∨iY s i=49)):Ge s i=Ge s (i+1):=(if_neg h).symm
theorem XB (h:iY s i=49):Ff s i ||| 1*2^i=Ff s (i+1):=(if_pos h).symm
theorem T1 (h:¬iY s i=49):Ff s i=Ff s (i+1):=(if_neg h).symm
theorem Io (h8:s.length≤8) (h:∀q,q<s.length→ss (iY s q)=true):nO s=true:=by
 unfold nO
 rw[decide_eq_true h8,aax]
 exact aaj.2 λq hq=>h q (aam.1 hq)
theorem Qw (h:¬s.length≤8):nO s=false:=by unfold nO;rw[decide_eq_false h,aaJ]
theorem Uh (hi:i<s.length) (h:ss (iY s i)=false):nO s=false:=by
 unfold nO
 rw[Bool.and_eq_false_iff]
 refine .inr (aah.2 λk=> ?_)
 rw[aaj.1 k i (aam.2 hi)]at h
 cases h
theorem Jz (h:(iY s i<128∧r=iY s i∧n=i+1)∨(128≤iY s i∧128≤r∧r≤2147483647)) (h1:¬(r:Int)=49) (h0:¬(r:Int)=48) (hd:¬(r:Int)=45):ss (iY s i)=false:=by
 unfold ss
 have e1:¬iY s i=45:=by omega
 have e2:¬iY s i=48:=by omega
 have e3:¬iY s i=49:=by omega
 simp[e1,e2,e3]
theorem A7 (h:iY s i=49∨iY s i=48∨iY s i=45):ss (iY s i)=true:=by rcases h with h|h|h<;>rw[h]<;>rfl
end
structure uI where
 c:Cb
 o:Value
structure Ln where
 c:Cb
 os:List Int
 deriving DecidableEq
structure Tb where
 kind:Int
 ni:Int
 no:Int
 ls:List Ln
 deriving DecidableEq
def iH (x:uI):List Value:=[.int .u8 (x.c.m:Int), .int .u8 (x.c.v:Int),x.o]
theorem ex (x:uI):(iH x).length=3:=rfl
abbrev fL:uI:=⟨⟨0,0⟩,undef⟩
abbrev eV:Ln:=⟨⟨0,0⟩,[]⟩
structure jX (w:World) (vs:List uI) (ls:List Ln):Prop where
 len:vs.length=ls.length
 c:∀i,i<ls.length→(vs.getD i fL).c=(ls.getD i eV).c
 o:∀i,i<ls.length→dh dJ 1 w (vs.getD i fL).o (ls.getD i eV).os
theorem jX.below {w W:World} {vs:List uI} {ls:List Ln} (h:Go.RowKit.Below w.heap.size w W) (k:jX w vs ls):jX W vs ls:=⟨k.len,k.c,λi hi=>Below.slT h (k.o i hi)⟩
theorem mN {a b:Int} {v:Value} (h:v.oneCell'=true):(#[Value.int .u8 a, .int .u8 b,v]:Array Value).toList.all Value.oneCell'=true:=by
 simp only[aa7,abL,h]
 rfl
theorem Hk {b:Bool} (h:(!b)=false):b=true:=by cases b<;>simp_all
theorem Mn {b:Bool} (h:(!b)=true):b=false:=by cases b<;>simp_all
def EK (no:Int) (l:Ln):Bool:=decide ((l.os.length:Int)=no)&&l.os.all λx=>decide (0≤x)&&decide (x<3)
def oN (ni no:Int) (l:Ln):Bool:=dC l.c.m l.c.v ni&&EK no l
def fc (T:Tb):Bool:=decide (0≤T.kind∧T.kind≤3∧0≤T.ni∧T.ni≤8∧1≤T.no∧T.no≤4∧T.ls.length≤64)&&T.ls.all (oN T.ni T.no)
section
variable {T:Tb} {k j:Nat}
theorem iN (h:¬(0≤T.kind∧T.kind≤3∧0≤T.ni∧T.ni≤8∧1≤T.no∧T.no≤4∧T.ls.length≤64)):Value.bool false= .bool (fc T):=by
 unfold fc;rw[decide_eq_false h,aaJ]
theorem oT {α:Type} {l:List α} {k:Nat} {d:α} (h:k<l.length):l.getD k d∈l:=by
 rw[me,th h];exact List.getElem_mem h
theorem nI (hk:k<T.ls.length) (h:oN T.ni T.no (T.ls.getD k eV)=false):Value.bool false= .bool (fc T):=by
 unfold fc
 congr 1
 rw[eq_comm,Bool.and_eq_false_iff]
 refine .inr (aah.2 λq=> ?_)
 rw[aaj.1 q _ (oT hk)]at h
 cases h
theorem DP {α:Type} {l:List α} {d:α} {p:α→Bool} (h:∀q,q<l.length→p (l.getD q d)=true):l.all p=true:=by
 refine aaj.2 λx hx=> ?_
 obtain⟨i,hi,rfl⟩:=abV hx
 have:=h i hi
 rw[me,th hi]at this
 exact this
theorem DY (h:0≤T.kind∧T.kind≤3∧0≤T.ni∧T.ni≤8∧1≤T.no∧T.no≤4∧T.ls.length≤64) (hq:∀q,q<T.ls.length→oN T.ni T.no (T.ls.getD q eV)=true):Value.bool true= .bool (fc T):=by
 unfold fc;rw[decide_eq_true h,aax,DP hq]
theorem WX {ni no:Int} {l:Ln} (h:dC l.c.m l.c.v ni=false):oN ni no l=false:=by unfold oN;rw[h,aaJ]
theorem X3 {ni no:Int} {l:Ln} (h:¬(l.os.length:Int)=no):oN ni no l=false:=by unfold oN EK;rw[decide_eq_false h,aaJ,aaB]
theorem VV {ni no:Int} {l:Ln} (hj:j<l.os.length) (h:¬(0≤l.os.getD j 0∧l.os.getD j 0<3)):oN ni no l=false:=by
 unfold oN EK
 have:(l.os.all λx=>decide (0≤x)&&decide (x<3))=false:=aah.2 λq=>h (by
  have:=aaj.1 q _ (oT (d:=0) hj)
  simpa using this)
 rw[this,aaB,aaB]
theorem WS {ni no:Int} {l:Ln} (h1:dC l.c.m l.c.v ni=true) (h2:(l.os.length:Int)=no) (h:∀q,q<l.os.length→0≤l.os.getD q 0∧l.os.getD q 0<3):oN ni no l=true:=by
 unfold oN EK
 rw[h1,decide_eq_true h2,aax,aax]
 exact DP (d:=0) λq hq=>by simpa using h q hq
end
section
variable {T:Tb} {k:Nat}
end
section
variable {T U:Tb} {k j:Nat} {vs us:List uI} {w:World}
theorem mH (h:T≠U):Value.bool false= .bool (decide (T=U)):=by rw[decide_eq_false h]
theorem Tv (h:T=U):Value.bool true= .bool (decide (T=U)):=by rw[decide_eq_true h]
theorem wM (h:¬(T.kind=U.kind∧T.ni=U.ni∧T.no=U.no∧T.ls.length=U.ls.length)):T≠U:=λe=>h (by rw[e];exact⟨rfl,rfl,rfl,rfl⟩)
theorem ve (h:T.ls.getD k eV≠U.ls.getD k eV):T≠U:=λe=>h vu
theorem Dq (h1:(vs.getD k fL).c=(T.ls.getD k eV).c) (h2:(us.getD k fL).c=(U.ls.getD k eV).c) (h:¬(((vs.getD k fL).c.m:Int)=((us.getD k fL).c.m:Int)∧((vs.getD k fL).c.v:Int)=((us.getD k fL).c.v:Int))):T.ls.getD k eV≠U.ls.getD k eV:=λe=>h (by rw[h1,h2,e];exact⟨rfl,rfl⟩)
theorem vG (h1:(vs.getD k fL).c=(T.ls.getD k eV).c) (h2:(us.getD k fL).c=(U.ls.getD k eV).c) (h:¬¬(((vs.getD k fL).c.m:Int)=((us.getD k fL).c.m:Int)∧((vs.getD k fL).c.v:Int)=((us.getD k fL).c.v:Int))):(T.ls.getD k eV).c=(U.ls.getD k eV).c:=by
 obtain⟨a,b⟩:=aaa h
 rw[←h1,←h2]
 generalize (vs.getD k fL).c=x at*
 generalize (us.getD k fL).c=y at*
 cases x;cases y
 simp only[Cb.mk.injEq]
 simp only at a b
 omega
theorem Dg (h:¬((T.ls.getD k eV).os.length:Int)=((U.ls.getD k eV).os.length:Int)):T.ls.getD k eV≠U.ls.getD k eV:=λe=>h vu
theorem HP (h:¬(T.ls.getD k eV).os.getD j 0=(U.ls.getD k eV).os.getD j 0):T.ls.getD k eV≠U.ls.getD k eV:=λe=>h vu
theorem AG {α:Type} {d:α} {l m:List α} (h:l.length=m.length) (hq:∀q,q<l.length→l.getD q d=m.getD q d):l=m:=by
 refine List.ext_getElem h λi h1 h2=> ?_
 have:=hq i h1
 rw[me,me,th h1,th h2]at this
 exact this
theorem HO {a b:Ln} (h1:a.c=b.c) (h2:a.os.length=b.os.length) (h3:∀q,q<a.os.length→a.os.getD q 0=b.os.getD q 0):a=b:=by
 cases a;cases b
 simp only[Ln.mk.injEq]
 exact⟨h1,AG h2 h3⟩
theorem LX (h:T.kind=U.kind∧T.ni=U.ni∧T.no=U.no∧T.ls.length=U.ls.length) (hq:∀q,q<T.ls.length→T.ls.getD q eV=U.ls.getD q eV):T=U:=by
 cases T;cases U
 obtain⟨h1,h2,h3,h4⟩:=h
 simp only[Tb.mk.injEq]
 exact⟨h1,h2,h3,AG h4 hq⟩
end
end
section
open Go Go.RowKit Go.ChangeShapes Go.WideShapes Go.ChangeAt Go.Joins Go.Deep
instance:Inhabited uI:=⟨⟨⟨0,0⟩,undef⟩⟩
section
variable {H:Type} {encH:TypeId×Value→H} {P:Program} {w:World} {base:Nat} {held:Bool} {r:Reach} {b0:Nat} {t e:TypeId}
theorem Pg {f0 f1:Field} (hs:P.underlying t=some (.struct #[f0,f1])) (ho0:f0.offset=0) (ho1:f1.offset=1) (hc0:P.cellsOf f0.type=1) (hc1:P.cellsOf f1.type=1) (h0:P.underlying f0.type=some (.int .u8)) (h1:P.underlying f1.type=some (.int .u8))
  {n:Nat} {cs:List Value} {y:DataW H×List MemPlace} (hl:cs.length=2) (h:DataW.trod encH P w base (λ_=>true) held n t cs=some y):∃c:Cb,cs=im c∧(c.m<256∧c.v<256):=by
 match cs,hl with
 |[a,b],_=>
  obtain⟨y0,y1,n,hx,_,g0,g1⟩:=trod_struct2 hs h
  rw[ho0,hc0]at g0
  rw[ho1,hc1]at g1
  obtain⟨n0,e0,_,w0⟩:=DataW.trod_int h0 g0
  obtain⟨n1,e1,_,w1⟩:=DataW.trod_int h1 g1
  simp at e0 e1
  subst e0 e1
  obtain⟨k0,rfl,l0⟩:=IP w0
  obtain⟨k1,rfl,l1⟩:=IP w1
  exact⟨⟨k0,k1⟩,rfl,l0,l1⟩
def ZU (w:World) (x:uI):Prop:=x.c.m<256∧x.c.v<256∧∃os:List Int,dh dJ 1 w x.o os
theorem Sg {f0 f1 g0 g1:Field} {q:TypeId} (hs:P.underlying t=some (.struct #[f0,f1])) (ho0:f0.offset=0) (ho1:f1.offset=2) (hc0:P.cellsOf f0.type=2) (hc1:P.cellsOf f1.type=1) (h1:P.underlying f1.type=some (.slice q)) (hq:P.underlying q=some (.int .i64)) (hcq:P.cellsOf q=1)
  (hs2:P.underlying f0.type=some (.struct #[g0,g1])) (hp0:g0.offset=0) (hp1:g1.offset=1) (hd0:P.cellsOf g0.type=1) (hd1:P.cellsOf g1.type=1) (k0:P.underlying g0.type=some (.int .u8)) (k1:P.underlying g1.type=some (.int .u8))
  {n:Nat} {cs:List Value} {y:DataW H×List MemPlace} (hl:cs.length=3) (h:DataW.trod encH P w base (λ_=>true) held n t cs=some y):∃x:uI,cs=iH x∧ZU w x:=by
 match cs,hl with
 |[a,b,c],_=>
  obtain⟨y0,y1,n,hx,_,q0,q1⟩:=trod_struct2 hs h
  rw[ho0,hc0]at q0
  rw[ho1,hc1]at q1
  obtain⟨cb,e0,l0,l1⟩:=Pg hs2 hp0 hp1 hd0 hd1 k0 k1 gj q0
  have q1':DataW.trod encH P w base (λ_=>true) held n f1.type [c]=some y1:=by simpa using q1
  obtain⟨os,ho,_⟩:=open_sl (α:=Int) (enc:=dJ) h1 hcq (by decide) dI (λn cs y hl hh=>U7 hq hl hh) q1'
  simp[im]at e0
  obtain⟨rfl,rfl⟩:=e0
  exact⟨⟨cb,c⟩,rfl,l0,l1,os,ho⟩
theorem TZ:∀(vs:List uI),(∀x,x∈vs→ZU w x)→∃ls,jX w vs ls∧∀i,i<ls.length→(ls.getD i eV).c.m<256∧(ls.getD i eV).c.v<256
 |[],_=>⟨[],⟨rfl,λi hi=>(by cases hi),λi hi=>(by cases hi)⟩,λi hi=>by cases hi⟩
 |v::vs,h=>by
  obtain⟨ls,hL,hb⟩:=TZ vs (λx hx=>h x (aai _ hx))
  obtain⟨h1,h2,os,ho⟩:=h v (aab ..)
  refine⟨⟨v.c,os⟩::ls,⟨by simp[hL.len],λi hi=> ?_,λi hi=> ?_⟩,λi hi=> ?_⟩
  ·cases i with
   |zero=>rfl
   |succ i=>exact hL.c i (by simpa using hi)
  ·cases i with
   |zero=>exact ho
   |succ i=>exact hL.o i (by simpa using hi)
  ·cases i with
   |zero=>exact⟨h1,h2⟩
   |succ i=>exact hb i (by simpa using hi)
theorem RJ {fuel:Nat} {v:Value} {x:DataW H×List MemPlace} (ht:P.underlying t=some (.slice e)) (h:DataW.trod encH P w base (λ_=>true) held fuel t [v]=some x):iZ v≤9223372036854775807:=by
 rcases open_slice ht h with ⟨h0,_⟩|⟨a,len,cap,m,n,D,Pl,h1,hb,hl,hm,hmm,hx,hel⟩
 ·simp only[List.cons.injEq,and_true]at h0
  subst h0
  exact my _
 ·simp only[List.cons.injEq,and_true]at h1
  subst h1
  show cap≤9223372036854775807
  simpa [maxLen] using hm
theorem open_table {v:Value} {d:DataW H} {p:List MemPlace} {f0 f1 f2 f3 l0 l1 g0 g1:Field} {eL q:TypeId} (hs:P.underlying t=some (.struct #[f0,f1,f2,f3])) (hone:oneCellFields P #[f0,f1,f2,f3]=true) (hC:P.cellsOf t=4) (h0:P.underlying f0.type=some (.int .i64)) (h1:P.underlying f1.type=some (.int .i64)) (h2:P.underlying f2.type=some (.int .i64)) (h3:P.underlying f3.type=some (.slice eL))
  (hcL:P.cellsOf eL=3) (hsL:P.underlying eL=some (.struct #[l0,l1])) (ho0:l0.offset=0) (ho1:l1.offset=2) (hc0:P.cellsOf l0.type=2) (hc1:P.cellsOf l1.type=1) (hl1:P.underlying l1.type=some (.slice q)) (hq:P.underlying q=some (.int .i64)) (hcq:P.cellsOf q=1)
  (hs2:P.underlying l0.type=some (.struct #[g0,g1])) (hp0:g0.offset=0) (hp1:g1.offset=1) (hd0:P.cellsOf g0.type=1) (hd1:P.cellsOf g1.type=1) (k0:P.underlying g0.type=some (.int .u8)) (k1:P.underlying g1.type=some (.int .u8))
  (hv:Value.okWide P w r b0 t v) (h:DataW.Trod encH P w base (λ_=>true) held t v d p):
  ∃(T:Tb) (lv:Value) (vs:List uI),v= .agg #[.int .i64 T.kind, .int .i64 T.ni, .int .i64 T.no,lv]∧dh iH 3 w lv vs∧jX w vs T.ls∧(∀i,i<T.ls.length→(T.ls.getD i eV).c.m<256∧(T.ls.getD i eV).c.v<256)∧vs.length≤9223372036854775807:=by
 obtain⟨v0,v1,v2,v3,y0,y1,y2,y3,n,rfl,_,_,a0,a1,a2,a3⟩:=open_agg4 hs hone hC hv h
 obtain⟨z0,e0,_,_⟩:=DataW.trod_int h0 a0
 obtain⟨z1,e1,_,_⟩:=DataW.trod_int h1 a1
 obtain⟨z2,e2,_,_⟩:=DataW.trod_int h2 a2
 simp only[List.cons.injEq,and_true]at e0 e1 e2
 subst e0 e1 e2
 have hlim:=RJ h3 a3
 obtain⟨vs,b1,b2⟩:=open_sl (α:=uI) (enc:=iH) h3 hcL (by decide) ex (λn cs y hl hh=>Sg hsL ho0 ho1 hc0 hc1 hl1 hq hcq hs2 hp0 hp1 hd0 hd1 k0 k1 hl hh) a3
 obtain⟨ls,c1,c2⟩:=TZ vs b2
 exact⟨⟨z0,z1,z2,ls⟩,v3,vs,rfl,b1,c1,c2,an (Sl.eqv b1).2.1 hlim⟩
end
theorem KA {H:Type} {enc:TypeId×Value→H} {a:Assume} {C:Checked} {os:Os} {f:FuncId} {fn:Func} {s:ChangeSpec} {conds:List PathCond} {apart fresh handsOn again:Bool} {laid:List (String×DataW Unit)}
  (own:ownKnob C.prog.godebug=none) (started:os.Started) (noInit:C.prog.inits.idxOf? f=none) (hfn:C.prog.funcs[f]? =some fn)
  (witness:∃(w:World) (tape:Tape) (i:Input),w.os=os∧(w.forCall tape i).Shaped C.prog∧i.vars=[]∧Input.okWide C.prog (w.forCall tape i) .any w.heap.size f i∧
   ((s.pre enc C.prog fn conds apart (w.forCall tape i).memory i.args∧laidMetH C.prog laid (w.forCall tape i).memory)∧sizedMet enc C.prog fn (OpenSpec.ofChange s) apart (w.forCall tape i).memory i.args)∧a.holds C.prog (lone (Frame.enter C.prog f i.args .normal) [] (w.forCall tape i)))
  (contract:∀(W:World) (base:Nat) (args:Array Value) (ds gs:List (DataW H)) (before:List MemPlace),
   (∀(j:Nat) t v,fn.params[j]? =some t→args[j]? =some v→Value.okWide C.prog W .any base t v)→
   DataW.Whole enc C.prog fn.params.toList s.vars apart W args.toList ds gs before→laidMetH C.prog laid W→W.ShapedOpen C.prog→
   Calls C.prog f args W λe W'=>∃v,e= .returned v∧s.post enc C.prog fn apart fresh handsOn again W args v W'):
  ReturnsInHanded a C os f .any (λw args=>(s.pre enc C.prog fn conds apart w args∧laidMetH C.prog laid w)∧sizedMet enc C.prog fn (OpenSpec.ofChange s) apart w args) (s.post enc C.prog fn apart fresh handsOn again):=by
 refine returnsInHanded_of_calls own started noInit witness ?_
 intro w tape i _ hsh _ hok hpre _
 obtain⟨_,_,_,fn',hfn',_,_,_,_,hval⟩:=hok
 have e:fn'=fn:=Z9 (hfn'.symm.trans hfn)
 subst e
 obtain⟨⟨⟨ds,gs,before,hw,_⟩,hx⟩,_⟩:=hpre
 have hw':=DataW.Whole.of_heap (w':=w.forCall tape i) (by rfl) hw
 refine(contract (w.forCall tape i) w.heap.size i.args ds gs before hval hw' (laidMetH.of_heap (by rfl) hx) hsh).mono λe W' ⟨v,he,hp⟩=> ?_
 subst he
 exact ChangeSpec.post_blind hp
end
end Go.Proofs.YtedeonkjellcpaaGreatDoor
