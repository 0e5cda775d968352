/- Primes as members: what both halves have, and what one alone has, with a literal. No program in it. What is needed for more deeds with families: what single items cost, and how a deed of many steps stands. No program in it. Members above and below those of another family: item by item. No program in -/
import Derived.Test.YtedeonkjellcpaaGreatDoorMin
namespace Go.Proofs.YtedeonkjellcpaaGreatDoor
set_option linter.unusedVariables false
set_option linter.unusedSimpArgs false
section
open Go Go.RowKit
def oV (m v:Nat):Nat→Nat
 |0=>0
 |k+1=>oV m v k+(if m.testBit k=true then 2^(2*k+(if v.testBit k=true then 1 else 0))else 0)
def uj (c:Cb):Nat:=oV c.m c.v 8
theorem V0 (k:Nat):2^(2*k)+2^(2*k)+2^(2*k)+2^(2*k)=2^(2*(k+1)):=by
 grind
theorem Q3 (k:Nat):2^(2*k+1)=2^(2*k)+2^(2*k):=by omega
theorem Ct (m v:Nat):∀k,oV m v k<2^(2*k)
 |0=>by simp[oV]
 |k+1=>by
  have ih:=Ct m v k
  have h1:=V0 k
  have h2:=Q3 k
  rw[oV]
  split
  ·split
   ·rw[h2];omega
   ·rw[abl];omega
  ·omega
theorem NL {x a e t:Nat} (hx:x<2^a) (ha:a≤e):(x+2^e).testBit t=(x.testBit t||decide (t=e)):=by
 have hlt:x<2^e:=aao hx (aaf (by decide) ha)
 have h:=abx hlt 1
 grind
theorem qI (m v:Nat):∀(k j b:Nat),b<2→((oV m v k).testBit (2*j+b)=true↔j<k∧m.testBit j=true∧v.testBit j=decide (b=1))
 |0,j,b,_=>by simp[oV]
 |k+1,j,b,hb=>by
  have ih:=qI m v k j b hb
  rw[oV]
  by_cases hm:m.testBit k=true
  ·rw[if_pos hm]
   generalize hv:(if v.testBit k=true then 1 else 0:Nat)=d
   have hd:d<2∧v.testBit k=decide (d=1):=by
    subst hv
    split
    ·rename_i h;exact⟨by omega,by rw[h];rfl⟩
    ·rename_i h;exact⟨by omega,by simpa using h⟩
   rw[NL (Ct m v k) (by omega),aaU,ih,decide_eq_true_iff]
   constructor
   ·rintro(⟨h1,h2,h3⟩|h)
    ·exact⟨by omega,h2,h3⟩
    ·obtain rfl:j=k:=by omega
     obtain rfl:b=d:=by omega
     exact⟨by omega,hm,hd.2⟩
   ·rintro⟨h1,h2,h3⟩
    by_cases e:j=k
    ·subst e
     rw[hd.2]at h3
     have:(d=1)↔(b=1):=decide_eq_decide.1 h3
     exact .inr (by omega)
    ·exact .inl ⟨by omega,h2,h3⟩
  ·rw[if_neg hm,abl,ih]
   constructor
   ·rintro⟨h1,h2⟩;exact⟨by omega,h2⟩
   ·rintro⟨h1,h2,h3⟩
    refine⟨?_,h2,h3⟩
    by_cases e:j=k
    ·subst e;exact absurd h2 hm
    ·omega
theorem Dr {c d:Cb} (h:uj c=uj d) {j:Nat} (hj:j<8) (hc:c.m.testBit j=true):d.m.testBit j=true∧d.v.testBit j=c.v.testBit j:=by
 unfold uj at h
 cases hv:c.v.testBit j with
 |false=>
  have h1:=(qI c.m c.v 8 j 0 (by decide)).2 ⟨hj,hc,hv⟩
  rw[h]at h1
  exact((qI d.m d.v 8 j 0 (by decide)).1 h1).2
 |true=>
  have h1:=(qI c.m c.v 8 j 1 (by decide)).2 ⟨hj,hc,hv⟩
  rw[h]at h1
  exact((qI d.m d.v 8 j 1 (by decide)).1 h1).2
theorem ON {c d:Cb} (hc:c.m<256) (hd:d.m<256) (vc:c.v &&& c.m=c.v) (vd:d.v &&& d.m=d.v) (h:uj c=uj d):c=d:=by
 have hi:∀(a:Nat),a<256→∀j,8≤j→a.testBit j=false:=λa ha j hj=>(gz (n:=8)).1 ha j hj
 have em:c.m=d.m:=Z7 λj=>by
  rcases aa0 j 8 with hj|hj
  ·cases e1:c.m.testBit j with
   |true=>exact(Dr h hj e1).1.symm
   |false=>
    cases e2:d.m.testBit j with
    |false=>rfl
    |true=>rw[(Dr h.symm hj e2).1]at e1;cases e1
  ·rw[hi _ hc j hj,hi _ hd j hj]
 have ev:c.v=d.v:=Z7 λj=>by
  rcases aa0 j 8 with hj|hj
  ·cases e1:c.m.testBit j with
   |true=>exact(Dr h hj e1).2.symm
   |false=>rw[eU vc,eU vd,←em,e1,aaB,aaB]
  ·rw[eU vc,eU vd,hi _ hc j hj,hi _ hd j hj,aaB,aaB]
 cases c;cases d
 grind
theorem FE (m v i:Nat) (h:∀j,j<i→m.testBit j=false):∀k,2^(2*i)∣oV m v k
 |0=>Nat.dvd_zero _
 |k+1=>by
  rw[oV]
  refine Nat.dvd_add (FE m v i h k) ?_
  split
  ·rename_i hk
   refine abM 2 ?_
   have:¬k<i:=λq=>by rw[h k q]at hk;cases hk
   omega
  ·exact Nat.dvd_zero _
theorem Bc {c:Cb} {i one:Nat} (h1:one=0∨one=1) (hm:c.m.testBit i=false) (hv:c.v.testBit i=false):∀k,oV (iV i one c).m (iV i one c).v k=oV c.m c.v k+(if i<k then 2^(2*i+one)else 0)
 |0=>by simp[oV]
 |k+1=>by
  have ih:=Bc h1 hm hv k
  have lm:=ka c i one k
  have lv:(iV i one c).v.testBit k=(c.v.testBit k||(decide (k=i)&&decide (one=1))):=by
   rcases h1 with rfl|rfl
   ·rw[oE];simp
   ·rw[od];simp
  rw[oV,oV,ih,lm,lv]
  by_cases e:k=i
  ·subst e
   rcases h1 with rfl|rfl<;>simp[hm,hv]
  ·rw[decide_eq_false e,abS,aaJ,abS]
   by_cases q:i<k
   ·have q2:i<k+1:=by omega
    rw[if_pos q,if_pos q2]
    omega
   ·have q2:¬i<k+1:=by omega
    rw[if_neg q,if_neg q2]
    omega
structure Rt (n:Nat) (c:Cb):Prop where
 m:c.m<2^n
 v:c.v &&& c.m=c.v
def LB (n s:Nat) (c:Cb):Prop:=∀p,p<2^n→hold c p→s.testBit p=true
theorem Vc {n:Nat} (h8:n≤8) {c:Cb}:dC c.m c.v (n:Int)=true↔Rt n c:=by
 rw[dw,so]
 exact⟨λh=>⟨h.2.2.1,h.2.2.2⟩,λh=>⟨by omega,by omega,h.m,h.v⟩⟩
theorem H6 {n i:Nat} {c:Cb} (hi:i<8) (h:Rt n c):Rt n (jF c i):=by
 refine⟨gz.2 λj hj=> ?_,?_⟩
 ·show (lI c.m (i:Int)).testBit j=false
  rw[fz hi,gz.1 h.m j hj,aaJ]
 ·show (c.v &&& lI c.m (i:Int)) &&& lI c.m (i:Int)=_
  rw[Nat.and_assoc,Nat.and_self]
  rfl
theorem gP {n s:Nat} (h8:n≤8) {c:Cb}:iD c.m c.v s (n:Int)=true↔Rt n c∧LB n s c∧∀i,i<n→c.m.testBit i=true→¬LB n s (jF c i):=by
 have hw:∀d:Cb,sR d.m d.v s (n:Int)=true↔Rt n d∧LB n s d:=λd=>by
  have:=gm (s:=s) (n:=(n:Int)) (c:=d)
  rw[Vc h8,so]at this
  exact this
 rw[gy,hw,so]
 constructor
 ·rintro⟨⟨h1,h2⟩,h3⟩
  refine⟨h1,h2,λi hi hb hq=> ?_⟩
  have h4:=h3 i hi
  unfold lC at h4
  rw[hb,aax]at h4
  have h5:=(hw (jF c i)).2 ⟨H6 (by omega) h1,hq⟩
  have h6:sR (lI c.m (i:Int)) (c.v &&& lI c.m (i:Int)) s (n:Int)=true:=h5
  rw[h4]at h6
  cases h6
 ·rintro⟨h1,h2,h3⟩
  refine⟨⟨h1,h2⟩,λi hi=>aah.2 λh4=> ?_⟩
  unfold lC at h4
  obtain⟨h5,h6⟩:=abu.1 h4
  grind [jF]
def vq (n s x:Nat):Prop:=∃c:Cb,iD c.m c.v s (n:Int)=true∧x=uj c
structure wr (n s i:Nat):Prop where
 le:i≤n
 out:∀p,p<256→s.testBit p=true→p<2^n
 free:∀p j,p<256→j<i→s.testBit (p ^^^ 2^j)=s.testBit p
theorem Oo {n s:Nat} (h:∀p,p<256→s.testBit p=true→p<2^n):wr n s 0:=⟨my _,h,λ_ j _ hj=>absurd hj (Nat.not_lt_zero j)⟩
section
variable {n s t i:Nat}
theorem wr.good (h:wr n s i):n6 n 0 s i:=⟨h.le,λp _ hq=>(by rw[aaF]at hq;cases hq),h.out,λp j _ _=>(by rw[aaF,aaF]),h.free⟩
theorem wr.side (h8:n≤8) (h:wr n s i) (hi:i<n) (x:Bool):wr n (cQ s i x) (i+1):=by
 have g:=h.good.side h8 hi x
 exact⟨g.le,g.out,g.freeM⟩
theorem wr.and (h:wr n s i) (k:wr n t i):wr n (s &&& t) i:=by
 refine⟨h.le,λp hp hq=> ?_,λp j hp hj=> ?_⟩
 ·rw[aad,we]at hq
  exact h.out p hp hq.1
 ·rw[aad,aad,h.free p j hp hj,k.free p j hp hj]
theorem wr.lt (h8:n≤8) (h:wr n s i) (h0:¬z8 s 0=true) (h1:¬z8 s (fh n)=true):i<n:=by
 rcases aa0 i n with k|k
 ·exact k
 ·obtain rfl:i=n:=by have:=h.le;omega
  have g:n6 i s s i:=⟨h.le,λ_ _ q=>q,h.out,h.free,h.free⟩
  rcases g.end h8 with q|q
  all_goals grind
theorem QV {c:Cb} {j:Nat} (hj:j<8) (hv:c.v &&& c.m=c.v) (hb:c.m.testBit j=false):jF c j=c:=by
 have e:lI c.m (j:Int)=c.m:=Z7 λq=>by
  rw[fz hj]
  by_cases k:q=j
  ·subst k;rw[hb];rfl
  ·simp[k]
 show Cb.mk (lI c.m (j:Int)) (c.v &&& lI c.m (j:Int))=c
 rw[e,hv]
theorem DR (h8:n≤8) {c:Cb} (hc:Rt n c) {j:Nat} (hj:j<n) (hf:∀p,p<2^n→s.testBit (p ^^^ 2^j)=s.testBit p) (h:LB n s c):LB n s (jF c j):=by
 intro p hp hh
 by_cases hb:c.m.testBit j=true
 ·have hh':p &&& lI c.m (j:Int)=c.v &&& lI c.m (j:Int):=hh
  rcases(BC (by omega) hb hc.v).1 hh' with k|k
  ·exact h p hp k
  ·rw[←hf p hp]
   refine h _ (Dm hj hp) ?_
   unfold hold
   refine Z7 λq=> ?_
   have e:=congrArg (λx=>x.testBit q) k
   simp only[aad,sm]at e ⊢
   by_cases e2:q=j
   ·subst e2
    rw[if_pos rfl]
    rw[if_pos rfl,hb,aaZ]at e
    rw[hb,aaZ,e,Bool.not_not]
   ·rw[if_neg e2]at e ⊢
    exact e
 ·refine h p hp ?_
  have e:jF c j=c:=QV (by omega) hc.v (by simpa using hb)
  grind
theorem sS (h8:n≤8) (h:wr n s i) {c:Cb} (hp:iD c.m c.v s (n:Int)=true) {j:Nat} (hj:j<i):c.m.testBit j=false:=by
 obtain⟨h1,h2,h3⟩:=(gP h8).1 hp
 have hle:=h.le
 have h256:=fY h8
 refine aah.2 λhb=>h3 j (by omega) hb ?_
 exact DR h8 h1 (by omega) (λp hp=>h.free p j (by omega) hj) h2
theorem uz (h8:n≤8) (h:wr n s i) {x:Nat} (hx:vq n s x):2^(2*i)∣x:=by
 obtain⟨c,hc,rfl⟩:=hx
 exact FE _ _ _ (λj hj=>sS h8 h hc hj) 8
theorem Ca (h8:n≤8) {x:Nat} (hx:vq n s x):x<2^(2*n):=by
 obtain⟨c,hc,rfl⟩:=hx
 obtain⟨h1,_,_⟩:=(gP h8).1 hc
 have key:∀d,oV c.m c.v (n+d)=oV c.m c.v n:=λd=>by
  induction d with
  |zero=>rfl
  |succ d ih=>rw[←Nat.add_assoc,oV,gz.1 h1.m (n+d) (by omega),ih];simp
 unfold uj
 rw[show 8=n+(8-n)by omega,key]
 exact Ct _ _ _
theorem X9 (h8:n≤8) (h:z8 s 0=true) (x:Nat):¬vq n s x:=by
 rintro⟨c,hc,rfl⟩
 obtain⟨h1,h2,_⟩:=(gP h8).1 hc
 have h256:=fY h8
 have hv:c.v<2^n:=gz.2 λj hj=>by rw[eU h1.v,gz.1 h1.m j hj,aaB]
 have h3:=h2 c.v hv h1.v
 grind [se]
theorem Sh (h8:n≤8) (h:z8 s (fh n)=true) (x:Nat):vq n s x↔x=0:=by
 have h256:=fY h8
 have all:∀c,LB n s c:=λc p hp _=>by rw[se.1 h p (by omega),fw];exact decide_eq_true hp
 constructor
 ·rintro⟨c,hc,rfl⟩
  obtain⟨h1,h2,h3⟩:=(gP h8).1 hc
  have hm:∀j,c.m.testBit j=false:=λj=>by
   rcases aa0 j n with k|k
   ·exact aah.2 λhb=>h3 j k hb (all _)
   ·exact gz.1 h1.m j k
  have key:∀k,oV c.m c.v k=0:=λk=>by
   induction k with
   |zero=>rfl
   |succ k ih=>rw[oV,ih,hm];rfl
  exact key 8
 ·rintro rfl
  refine⟨⟨0,0⟩,(gP h8).2 ⟨⟨aaz n,rfl⟩,all _,λi _ hb=> ?_⟩,rfl⟩
  grind
theorem xd (h8:n≤8) (hi:i<n) {c:Cb} (hc:Rt n c) (hm:c.m.testBit i=false) (b:Bool):LB n (cQ s i b) c↔LB n s (iV i (if b=true then 1 else 0) c):=by
 have h256:=fY h8
 have h1:(if b=true then 1 else 0:Nat)=0∨(if b=true then 1 else 0:Nat)=1:=by cases b;exact .inl rfl;exact .inr rfl
 have hb:decide ((if b=true then 1 else 0:Nat)=1)=b:=by cases b<;>rfl
 constructor
 ·intro h p hp hh
  obtain⟨k1,k2⟩:=(uV h1 hc.v hm).1 hh
  rw[hb]at k1
  have:=((fO (by omega)).1 (h p hp k2)).2
  rwa [lM k1]at this
 ·intro h p hp hh
  refine(fO (by omega)).2 ⟨by omega,h _ ((lH hi).2 hp) ((uV h1 hc.v hm).2 ⟨?_,(zp hm).2 hh⟩)⟩
  rw[ng,if_pos rfl,hb]
theorem xD (h8:n≤8) (hi:i<n) {c:Cb} (hm:c.m.testBit i=false):LB n (cQ s i false &&& cQ s i true) c↔LB n s c:=by
 have h256:=fY h8
 constructor
 ·intro h p hp hh
  have h2:=h p hp hh
  rw[aad,we]at h2
  cases hb:p.testBit i with
  |false=>have:=((fO (by omega)).1 h2.1).2;rwa [lM hb]at this
  |true=>have:=((fO (by omega)).1 h2.2).2;rwa [lM hb]at this
 ·intro h p hp hh
  rw[aad,we]
  exact⟨(fO (by omega)).2 ⟨by omega,h _ ((lH hi).2 hp) ((zp hm).2 hh)⟩,(fO (by omega)).2 ⟨by omega,h _ ((lH hi).2 hp) ((zp hm).2 hh)⟩⟩
theorem rG {c:Cb} {j q:Nat} (hj:j<8):(jF c j).m.testBit q=(c.m.testBit q&&decide (q≠j)):=fz hj q
theorem Im {c:Cb} {i j one:Nat} (hi:i<8) (hj:j<8) (hij:¬j=i) (h1:one=0∨one=1) (hv:c.v.testBit i=false):jF (iV i one c) j=iV i one (jF c j):=by
 have e1:(jF (iV i one c) j).m=(iV i one (jF c j)).m:=Z7 λq=>by
  rw[rG hj,ka,ka,rG hj]
  by_cases e:q=i
  ·subst e;have:¬q=j:=λk=>hij k.symm;simp[this]
  ·simp[e]
 have vv:∀(d:Cb) (q:Nat),(jF d j).v.testBit q=(d.v.testBit q&&(d.m.testBit q&&decide (q≠j))):=λd q=>by
  show (d.v &&& lI d.m (j:Int)).testBit q=_
  rw[aad,fz hj]
 have e2:(jF (iV i one c) j).v=(iV i one (jF c j)).v:=Z7 λq=>by
  rw[vv,ka]
  rcases h1 with rfl|rfl
  ·rw[oE,oE,vv]
   by_cases e:q=i
   ·subst e
    rw[hv,aaJ,aaJ]
   ·simp[e]
  ·rw[od,od,vv]
   by_cases e:q=i
   ·subst e;have:¬q=j:=λk=>hij k.symm;simp[this]
   ·simp[e]
 grind [jF,iV]
theorem T7 {c:Cb} {one:Nat} (h1:one=0∨one=1) (hi:i<n) (hc:Rt n c):Rt n (iV i one c):=by
 refine⟨gz.2 λj hj=> ?_,Z7 λj=> ?_⟩
 ·rw[ka,gz.1 hc.m j hj,Bool.false_or,decide_eq_false (by omega)]
 ·have hb:=eU hc.v j
  rw[aad,ka]
  rcases h1 with rfl|rfl
  ·rw[oE,hb]
   cases c.v.testBit j<;>cases c.m.testBit j<;>rfl
  ·rw[od]
   grind
theorem NH (hi:i<n) (h8:n≤8) {c:Cb} (hc:Rt n c) (hm:c.m.testBit i=true):c=iV i (if c.v.testBit i=true then 1 else 0) (jF c i):=by
 have hi8:i<8:=by omega
 have vv:∀q:Nat,(jF c i).v.testBit q=(c.v.testBit q&&(c.m.testBit q&&decide (q≠i))):=λq=>by
  show (c.v &&& lI c.m (i:Int)).testBit q=_
  rw[aad,fz hi8]
 have e1:c.m=(iV i (if c.v.testBit i=true then 1 else 0) (jF c i)).m:=Z7 λq=>by
  rw[ka,rG hi8]
  by_cases e:q=i
  ·subst e;simp[hm]
  ·simp[e]
 have e2:c.v=(iV i (if c.v.testBit i=true then 1 else 0) (jF c i)).v:=Z7 λq=>by
  have hb:=eU hc.v q
  cases hv:c.v.testBit i with
  |false=>
   rw[if_neg (by decide),oE,vv]
   by_cases e:q=i
   ·subst e;simp[hv]
   ·simp only[ne_eq,e,not_false_eq_true,decide_true,aaZ];exact hb
  |true=>
   rw[if_pos rfl,od,vv]
   by_cases e:q=i
   ·subst e;simp[hv]
   ·simp only[ne_eq,e,not_false_eq_true,decide_true,aaZ,decide_false,abS];exact hb
 cases h:iV i (if c.v.testBit i=true then 1 else 0) (jF c i)
 rw[h]at e1 e2
 cases c
 grind
theorem KD (h8:n≤8) (h:wr n s i) (hi:i<n) (x:Nat):
  vq n s x↔vq n (cQ s i false &&& cQ s i true) x∨(∃y,(vq n (cQ s i false) y∧¬vq n (cQ s i false &&& cQ s i true) y)∧x=y+2^(2*i))∨(∃y,(vq n (cQ s i true) y∧¬vq n (cQ s i false &&& cQ s i true) y)∧x=y+2^(2*i+1)):=by
 have hi8:i<8:=by omega
 have h256:=fY h8
 have hS:=λb=>h.side h8 hi b
 have hC:=(hS false).and (hS true)
 have wsub:∀b c,LB n (cQ s i false &&& cQ s i true) c→LB n (cQ s i b) c:=λb c k p hp hh=>by
  have:=k p hp hh
  rw[aad,we]at this
  cases b with
  |false=>exact this.1
  |true=>exact this.2
 have one:∀b:Bool,(if b=true then 1 else 0:Nat)=0∨(if b=true then 1 else 0:Nat)=1:=λb=>by cases b;exact .inl rfl;exact .inr rfl
 have A:∀c:Cb,c.m.testBit i=false→(iD c.m c.v s (n:Int)=true↔iD c.m c.v (cQ s i false &&& cQ s i true) (n:Int)=true):=λc hm=>by
  rw[gP h8,gP h8,xD h8 hi hm]
  refine and_congr_right λhc=>and_congr_right λ_=> ?_
  refine forall_congr' λj=>forall_congr' λhj=>forall_congr' λhb=>not_congr ?_
  exact(xD h8 hi (by rw[rG (by omega),hm,aaJ])).symm
 have B:∀(b:Bool) (c:Cb),Rt n c→c.m.testBit i=false→(iD (iV i (if b=true then 1 else 0) c).m (iV i (if b=true then 1 else 0) c).v s (n:Int)=true↔iD c.m c.v (cQ s i b) (n:Int)=true∧¬iD c.m c.v (cQ s i false &&& cQ s i true) (n:Int)=true):=λb c hc hm=>by
  have hv:c.v.testBit i=false:=by rw[eU hc.v,hm,aaB]
  have hrt:=T7 (one b) hi hc
  have drop:jF (iV i (if b=true then 1 else 0) c) i=c:=by
   have e1:(jF (iV i (if b=true then 1 else 0) c) i).m=c.m:=Z7 λq=>by
    rw[rG hi8,ka]
    by_cases e:q=i
    ·subst e;simp[hm]
    ·simp[e]
   have e2:(jF (iV i (if b=true then 1 else 0) c) i).v=c.v:=Z7 λq=>by
    show ((iV i (if b=true then 1 else 0) c).v &&& lI (iV i (if b=true then 1 else 0) c).m (i:Int)).testBit q=_
    have hb:=eU hc.v q
    rw[aad,fz hi8,ka]
    by_cases e:q=i
    ·subst e;rw[hv];simp
    ·cases b with
     |false=>rw[if_neg (by decide),oE];simp only[decide_false,abS,ne_eq,e,not_false_eq_true,decide_true,aaZ];exact hb.symm
     |true=>rw[if_pos rfl,od];simp only[decide_false,abS,ne_eq,e,not_false_eq_true,decide_true,aaZ];exact hb.symm
   cases k:jF (iV i (if b=true then 1 else 0) c) i
   rw[k]at e1 e2
   cases c
   simp only[Cb.mk.injEq]
   exact⟨e1,e2⟩
  rw[gP h8,gP h8]
  constructor
  ·rintro⟨_,h2,h3⟩
   have g2:=(xd h8 hi hc hm b).2 h2
   refine⟨⟨hc,g2,λj hj hb hq=> ?_⟩,λhp=> ?_⟩
   ·have hji:¬j=i:=λe=>by rw[e,hm]at hb;cases hb
    refine h3 j hj (by rw[ka,hb,Bool.true_or]) ?_
    rw[Im hi8 (by omega) hji (one b) hv]
    exact(xd h8 hi (H6 (by omega) hc) (by rw[rG (by omega),hm,aaJ]) b).1 hq
   ·refine h3 i hi (by rw[ka,decide_eq_true rfl,Bool.or_true]) ?_
    rw[drop]
    exact(xD h8 hi hm).1 ((gP h8).1 hp).2.1
  ·rintro⟨⟨_,h2,h3⟩,hn⟩
   refine⟨hrt,(xd h8 hi hc hm b).1 h2,λj hj hb hq=> ?_⟩
   by_cases hji:j=i
   ·subst hji
    rw[drop]at hq
    have g:=(xD h8 hi hm).2 hq
    exact hn ((gP h8).2 ⟨hc,g,λq hq2 hb2 hw=>h3 q hq2 hb2 (wsub b _ hw)⟩)
   ·rw[ka,decide_eq_false hji,abS]at hb
    rw[Im hi8 (by omega) hji (one b) hv]at hq
    exact h3 j hj hb ((xd h8 hi (H6 (by omega) hc) (by rw[rG (by omega),hm,aaJ]) b).2 hq)
 have inj:∀c d:Cb,Rt n c→Rt n d→uj c=uj d→c=d:=λc d hc hd e=>ON (by have:=hc.m;omega) (by have:=hd.m;omega) hc.v hd.v e
 have nz:∀(b:Bool) (c:Cb),iD c.m c.v (cQ s i b) (n:Int)=true→Rt n c∧c.m.testBit i=false:=λb c hc=>⟨((gP h8).1 hc).1,sS h8 (hS b) hc (abn i)⟩
 have mem:∀(b:Bool) (c:Cb),Rt n c→c.m.testBit i=false→uj (iV i (if b=true then 1 else 0) c)=uj c+2^(2*i+(if b=true then 1 else 0)):=λb c hc hm=>by
  have hv:c.v.testBit i=false:=by rw[eU hc.v,hm,aaB]
  have:=Bc (one b) hm hv 8
  rw[if_pos hi8]at this
  exact this
 constructor
 ·rintro⟨c,hc,rfl⟩
  have hrt:=((gP h8).1 hc).1
  cases hm:c.m.testBit i with
  |false=>exact .inl ⟨c,(A c hm).1 hc,rfl⟩
  |true=>
   have e:=NH hi h8 hrt hm
   have hd:(jF c i).m.testBit i=false:=by rw[rG hi8];simp
   have hdr:=H6 hi8 hrt
   rw[e]at hc
   obtain⟨g1,g2⟩:=(B _ _ hdr hd).1 hc
   have em:uj c=uj (jF c i)+2^(2*i+(if c.v.testBit i=true then 1 else 0)):=by
    conv=>lhs;rw[e]
    exact mem _ _ hdr hd
   have hno:¬vq n (cQ s i false &&& cQ s i true) (uj (jF c i)):=λ⟨d,h1,h2⟩=>by
    have:=inj _ _ hdr ((gP h8).1 h1).1 h2
    rw[this]at g2
    exact g2 h1
   cases hv:c.v.testBit i with
   |false=>
    rw[hv]at g1 em
    exact .inr (.inl ⟨_,⟨⟨_,g1,rfl⟩,hno⟩,em⟩)
   |true=>
    rw[hv]at g1 em
    exact .inr (.inr ⟨_,⟨⟨_,g1,rfl⟩,hno⟩,em⟩)
 ·have back:∀(b:Bool) (y:Nat),vq n (cQ s i b) y→¬vq n (cQ s i false &&& cQ s i true) y→vq n s (y+2^(2*i+(if b=true then 1 else 0))):=λb y ⟨c,hc,e⟩ hn=>by
   obtain⟨h1,h2⟩:=nz b c hc
   exact⟨_,(B b c h1 h2).2 ⟨hc,λk=>hn ⟨c,k,e⟩⟩,by rw[mem b c h1 h2,e]⟩
  rintro(⟨c,hc,rfl⟩|⟨y,⟨h1,h2⟩,rfl⟩|⟨y,⟨h1,h2⟩,rfl⟩)
  ·exact⟨c,(A c (sS h8 hC hc (abn i))).2 hc,rfl⟩
  all_goals grind
end
end
section
section
open Go Go.RowKit
theorem I6 (i:Nat):∀n lv,Py n lv (2^i)≤1∧(i<lv→Py n lv (2^i)=0)
 |0,_=>⟨my _,λ_=>rfl⟩
 |n+1,lv=>by
  obtain⟨h1,h2⟩:=I6 i n (lv+1)
  rw[Py,aas]
  by_cases h:i=lv
  ·subst h
   rw[decide_eq_true rfl,if_pos rfl,h2 (abn i)]
   exact⟨am _,λk=>absurd k (Nat.lt_irrefl _)⟩
  ·rw[decide_eq_false h,if_neg (by decide)]
   exact⟨by omega,λk=>by rw[h2 (by omega)]⟩
theorem Qq (i:Nat):xy 0 [((2^i:Nat):Int)]≤1:=by
 have h:=(I6 i (24-0) 0).1
 have e:xy 0 [((2^i:Nat):Int)]=Py (24-0) 0 (((2^i:Nat):Int)).toNat+0:=rfl
 rw[so]at e
 omega
section
variable {ns ns':List Nd} {f g i:Nat}
def CW (ns:List Nd) (g i:Nat):Prop:=∀x,x∈dr ns g↔x=2^i
theorem CW.node (h:Wf ns) (hg:g<ns.length+2) (hi:i<24) (hs:CW ns g i):2≤g∧dQ ns g=i∧dH ns g i=0∧dY ns g i=1:=by
 have hm:2^i∈dr ns g:=(hs _).2 rfl
 have h2:2≤g:=by
  rcases aa0 g 2 with k|k
  ·exfalso
   have e:g=0∨g=1:=by omega
   rcases e with rfl|rfl
   ·rw[ny]at hm;cases hm
   ·rw[pT,Z8]at hm
    have:=aaz i
    omega
  ·exact k
 have h24:=oM h hg h2
 have H:=iw h hg (am _) h24
 have hl:dQ ns g=i:=by
  have hB:dY ns g (dQ ns g)≠0:=by
   obtain⟨j,rfl⟩:∃j,g=j+2:=⟨g-2,by omega⟩
   unfold dY
   rw[if_pos ⟨by omega,rfl⟩,aa9]
   exact(h.ok j (by omega)).2.2.1
  obtain⟨y,hy⟩:=iW h _ H.vb hB
  have e:=(hs _).1 ((H.mem _).2 (.inr ⟨y,hy,rfl⟩))
  have hb:=kA (g6 H.lb (e7 h _ H.vb y hy).1)
  rw[e,aas]at hb
  exact(of_decide_eq_true hb).symm
 rw[hl]at H
 refine⟨h2,hl,?_,?_⟩
 ·rcases Nat.eq_zero_or_pos (dH ns g i)with k|k
  ·exact k
  ·exfalso
   obtain⟨y,hy⟩:=iW h _ H.va (by omega)
   have e:=(hs _).1 ((H.mem _).2 (.inl hy))
   have hb:=fZ (g6 H.la (e7 h _ H.va y hy).1)
   rw[e,aas]at hb
   exact absurd hb gj
 ·refine NT h _ H.vb 1 (by omega) λx=> ?_
  rw[pT,Z8]
  constructor
  ·intro hx
   have e:=(hs _).1 ((H.mem _).2 (.inr ⟨x,hx,rfl⟩))
   omega
  ·rintro rfl
   rcases(H.mem _).1 hm with k|⟨y,hy,e⟩
   ·exfalso
    have hb:=fZ (g6 H.la (e7 h _ H.va _ k).1)
    rw[aas]at hb
    exact absurd hb gj
   ·have:y=0:=by omega
    rw[←this];exact hy
theorem uX {n:Nat} (h:(Gd f g).2=true):zZ n ns f g=0:=by
 cases n with
 |zero=>rfl
 |succ n=>rw[zZ,if_pos h]
theorem P7 (h:Wf ns) (hf:f<ns.length+2) (hg:g<ns.length+2) (hi:i<24) (hs:CW ns g i) (hl:i<dQ ns f):qv ns f g≤1:=by
 obtain⟨g2,gl,gA,gB⟩:=hs.node h hg hi
 unfold qv
 cases he:(Gd f g).2 with
 |true=>rw[uX he];omega
 |false=>
  obtain⟨n,hn⟩:∃n,25-min (dQ ns f) (dQ ns g)=n+1:=⟨24-min (dQ ns f) (dQ ns g),by omega⟩
  have e:min (dQ ns f) (dQ ns g)=i:=by omega
  have fA:dH ns f i=f:=if_neg (λk=>by omega)
  have fB:dY ns f i=0:=if_neg (λk=>by omega)
  rw[hn,zZ,if_neg (by rw[he];decide),e,fA,fB,gA,gB]
  have e0:∀x,(Gd x 0).2=true:=λx=>by unfold Gd;rw[if_pos (.inr rfl)]
  have e1:∀x,(Gd 0 x).2=true:=λx=>by unfold Gd;rw[if_pos (.inl rfl)]
  have e2:(Gd f 1).2=true:=by
   unfold Gd
   split
   ·rfl
   ·split
    ·rfl
    ·rfl
  rw[uX (e0 f),uX (e0 0),uX e2,uX (e1 1)]
  unfold Pw uJ
  rw[ny]
  simp
structure xL (ns ns':List Nd) (R c:Nat) (e:Int):Prop where
 pre:ns<+:ns'
 st:(e=0∧ns'.length≤ns.length+c)∨(e=5∧R≤ns.length+c)
variable {ns1 ns2:List Nd} {R c c1 c2 l id:Nat} {e e1 er:Int} {S:Nat→Prop}
theorem xL.refl:xL ns ns R 0 0:=⟨aba _, .inl ⟨rfl,by omega⟩⟩
theorem xL.mono (h:xL ns ns' R c e) (hc:c≤c2):xL ns ns' R c2 e:=⟨h.pre,h.st.imp (λk=>⟨k.1,by omega⟩) (λk=>⟨k.1,by omega⟩)⟩
theorem xL.ers (h:xL ns ns' R c e):e=0∨e=5:=h.st.imp (·.1) (·.1)
theorem xL.ok (h:xL ns ns' R c e) (hR:ns.length+c<R):e=0∧ns'.length≤ns.length+c:=by
 rcases h.st with k|k
 ·exact k
 ·omega
def iQ (e er:Int):Int:=if e=0 then er else e
def kr (e er:Int) (id:Nat):Nat:=if iQ e er=0 then id else 0
theorem ir:iQ e er=0↔e=0∧er=0:=by
 unfold iQ
 by_cases h:e=0
 ·rw[if_pos h];exact⟨λk=>⟨h,k⟩,λk=>k.2⟩
 ·rw[if_neg h];exact⟨λk=>absurd k h,λk=>absurd k.1 h⟩
theorem lT (h:iQ e er=0):kr e er id=id:=if_pos h
theorem pD (hv:id<ns.length+2):kr e er id<ns.length+2:=by
 unfold kr
 split
 ·exact hv
 ·omega
theorem xL.did (h:xL ns ns1 R c e) (g:jY ns1 ns2 R c1 l S id er) (hc:e=0→c1≤c2):xL ns ns2 R (c+c2) (iQ e er):=by
 refine⟨h.pre.trans g.pre,?_⟩
 have gc:=g.cost
 rcases h.st with ⟨h1,h2⟩|⟨h1,h2⟩
 ·have:=hc h1
  rcases g.res with ⟨k1,_⟩|⟨k1,_,k3⟩
  ·exact .inl ⟨ir.2 ⟨h1,k1⟩,by omega⟩
  ·refine .inr ⟨?_,by omega⟩
   unfold iQ;rw[if_pos h1];exact k1
 ·refine .inr ⟨?_,by omega⟩
  unfold iQ;rw[if_neg (by rw[h1];decide)];exact h1
theorem xL.step (h:xL ns ns1 R c e) (g:e=0→xL ns1 ns2 R c2 e1) (g5:¬e=0→ns1<+:ns2∧e1=e):xL ns ns2 R (c+c2) e1:=by
 rcases h.st with ⟨h1,h2⟩|⟨h1,h2⟩
 ·have k:=g h1
  refine⟨h.pre.trans k.pre,?_⟩
  rcases k.st with ⟨k1,k2⟩|⟨k1,k2⟩
  ·exact .inl ⟨k1,by omega⟩
  ·exact .inr ⟨k1,by omega⟩
 ·obtain⟨k1,k2⟩:=g5 (by rw[h1];decide)
  exact⟨h.pre.trans k1, .inr ⟨by rw[k2];exact h1,by omega⟩⟩
end
structure VX (ns ns':List Nd) (R:Nat) (e e':Int) (f i id:Nat):Prop where
 v:id<ns'.length+2
 pre:ns<+:ns'
 sta:e=0→i<dQ ns f→xL ns ns' R 2 e'
 err:¬e=0→e'=e
 m:e'=0→∀x,x∈dr ns' id↔nW (M ns f) (·=2^i) x
theorem Xc {ns ns1 ns2:List Nd} {R f i l0 l1 idA idB:Nat} {e erA erB:Int} (hw1:Wf ns1) (gA:jY ns ns1 R (xy 0 [((1*2^i:Nat):Int)]) l0 (bS [((1*2^i:Nat):Int)] 0) idA erA) (gB:jY ns1 ns2 R (rn.cst ns1 f (kr e erA idA)) l1 (rn.res (M ns1 f) (M ns1 (kr e erA idA))) idB erB) (hf:f<ns.length+2) (hi:i<24):
  VX ns ns2 R e (iQ (iQ e erA) erB) f i (kr (iQ e erA) erB idB):=by
 rw[aap]at gA
 have p1:=fX gA.pre
 have hS:erA=0→CW ns1 idA i:=λh x=>by
  rw[(gA.ok h).2.2 x]
  constructor
  ·rintro⟨m,hm,e⟩
   rw[Z8.1 hm,so,Be]at e
   exact e
  ·rintro rfl
   exact⟨_,Z8.2 rfl,by rw[so,Be]⟩
 refine⟨pD gB.valid,gA.pre.trans gB.pre,λhe hl=> ?_,λhe=> ?_,λh0 x=> ?_⟩
 ·subst he
  refine((xL.refl.did gA (c2:=1) (λ_=>Qq i)).did gB (c2:=1) (λh=> ?_)).mono (by omega)
  rw[lT h]
  exact P7 hw1 (by omega) gA.valid hi (hS (ir.1 h).2) (by rw[gU gA.pre hf];exact hl)
 ·have h1:iQ e erA=e:=if_neg he
  rw[h1];exact if_neg he
 ·obtain⟨h1,h2⟩:=ir.1 h0
  have k:=(gB.ok h2).2.2
  rw[lT h1,i7 gA.pre hf]at k
  rw[lT h0,k x]
  have e2:M ns1 idA=(·=2^i):=fG (hS (ir.1 h1).2)
  rw[e2];rfl
def Wk (T:TypeId) (bw bz bd:Nat) (w:World):Prop:=∃e,At w bw #[.pointer (some ⟨bz,0,none⟩), .map (some bd), .int .i64 e] T
structure Dw (Tn T:TypeId) (N bw bz bd ba bm:Nat) (w w':World):Prop where
 dx:Dx Tn N [bw,bd,ba,bm] w w'
 wk:Wk T bw bz bd w→Wk T bw bz bd w'
section
variable {Ta Tn T:TypeId} {N bw bz bd ba bm R:Nat} {w w' w'':World} {ns ns':List Nd} {e e':Int}
theorem PO.dx {c l:Nat} {S:Nat→Prop} {v:Value} (h:PO Ta Tn N ba bm R w ns c l S v w'):Dx Tn N [ba,bm] w w':=by
 obtain⟨_,_,_,_,h,_⟩:=h;exact h
theorem PE.dx {ok:Bool} {c l:Nat} {S:Nat→Prop} {v:Value} (h:PE Ta Tn N ba bm R w ns ok c l S v w'):Dx Tn N [ba,bm] w w':=by
 obtain⟨_,_,_,_,h,_⟩:=h;exact h
theorem Wk.c0 (h:Wk T bw bz bd w):w.cell? ⟨bw,0,none⟩=some (.pointer (some ⟨bz,0,none⟩)):=by
 obtain⟨e,h⟩:=h
 exact At.cell h rfl
theorem Wk.c1 (h:Wk T bw bz bd w):w.cell? ⟨bw,1,none⟩=some (.map (some bd)):=by
 obtain⟨e,h⟩:=h
 exact At.cell h rfl
theorem Dw.refl:Dw Tn T N bw bz bd ba bm w w:=⟨Dx.refl,id⟩
theorem Dw.trans (h:Dw Tn T N bw bz bd ba bm w w') (k:Dw Tn T N bw bz bd ba bm w' w''):Dw Tn T N bw bz bd ba bm w w'':=⟨h.dx.trans k.dx,λq=>k.wk (h.wk q)⟩
theorem Dw.ext (h:dz w w'):Dw Tn T N bw bz bd ba bm w w':=⟨Dx.ext h,λ⟨e,q⟩=>⟨e,h.at q⟩⟩
theorem Dw.zdd (D:fC Ta Tn N ba bm R w ns) (h:Dx Tn N [ba,bm] w w') (hTa:T≠Ta) (hTn:T≠Tn):Dw Tn T N bw bz bd ba bm w w':=⟨h.mono (λx hx=>aai _ (aai _ hx)),λ⟨e,q⟩=>⟨e,At.dx D h q hTa hTn⟩⟩
theorem Dw.did (h:w.grownBy w' (some bw)) (hN:N≤bw) (q:At w' bw #[.pointer (some ⟨bz,0,none⟩), .map (some bd), .int .i64 e'] T):Dw Tn T N bw bz bd ba bm w w':=⟨Dx.grown h (aab ..) hN,λ_=>⟨e',q⟩⟩
end
end
section
open Go Go.RowKit
theorem qD {ns:List Nd} (h:Wf ns) {f j:Nat} (hf:f<ns.length+2) (hj:j≤24) (hd:∀x,x∈dr ns f→2^j∣x):j≤dQ ns f:=by
 rcases aa0 f 2 with k|k
 ·rw[l6 k];exact hj
 ·rcases aa0 (dQ ns f) j with q|q
  ·exfalso
   have H:=iw h hf (am _) (oM h hf k)
   have hB:dY ns f (dQ ns f)≠0:=by
    obtain⟨i,rfl⟩:∃i,f=i+2:=⟨f-2,by omega⟩
    unfold dY
    rw[if_pos ⟨by omega,rfl⟩,aa9]
    exact(h.ok i (by omega)).2.2.1
   obtain⟨y,hy⟩:=iW h _ H.vb hB
   have h1:=hd _ ((H.mem _).2 (.inr ⟨y,hy,rfl⟩))
   have h2:=kA (g6 H.lb (e7 h _ H.vb y hy).1)
   have h3:=fZ (g6 q h1)
   rw[h2]at h3;cases h3
  ·exact q
def wS (ab:Bool) (F G:Nat→Prop) (x:Nat):Prop:=F x∧∃y,G y∧(if ab=true then HB x y else HB y x)
theorem N4 {F:Nat→Prop} {l:Nat} (hF:P1 l F) (x:Nat):nW F (·=2^l) x↔∃y,F y∧x=y+2^l:=by
 have key:∀y,F y→y ||| 2^l=y+2^l:=λy hy=>by
  have h:=(sV (hF y hy) (Nat.dvd_zero (2^(l+1)))).2.1
  rw[aa1,Nat.or_zero]at h
  exact h
 constructor
 ·rintro⟨y,b,hy,rfl,rfl⟩
  exact⟨y,hy,key y hy⟩
 ·rintro⟨y,hy,rfl⟩
  exact⟨y,2^l,hy,rfl,(key y hy).symm⟩
end
section
open Go Go.RowKit
end
section
open Go Go.RowKit
structure Dl (ab:Bool) (ns:List Nd) (p:Nd×Int):Prop where
 v1:p.1.l<ns.length+2
 v2:p.1.lo<ns.length+2
 id:∃id:Nat,p.2=(id:Int)∧id<ns.length+2∧∀x,x∈dr ns id↔wS ab (M ns p.1.l) (M ns p.1.lo) x
def sM (ab:Bool) (ns:List Nd) (dl:List (Nd×Int)):Prop:=∀p,p∈dl→Dl ab ns p
section
variable {ab:Bool} {ns ns':List Nd} {dl:List (Nd×Int)} {f g i id:Nat}
theorem sM.nil:sM ab ns []:=λp h=>by cases h
theorem Dl.pre {p:Nd×Int} (hp:ns<+:ns') (h:Dl ab ns p):Dl ab ns' p:=by
 have hl:=fX hp
 obtain⟨id,h1,h2,h3⟩:=h.id
 refine⟨by have:=h.v1;omega,by have:=h.v2;omega,id,h1,by omega,?_⟩
 rw[i7 hp h.v1,i7 hp h.v2,gM hp h2]
 exact h3
theorem sM.pre (hp:ns<+:ns') (h:sM ab ns dl):sM ab ns' dl:=λp q=>(h p q).pre hp
theorem sM.put (h:sM ab ns dl) (hf:f<ns.length+2) (hg:g<ns.length+2) (hi:id<ns.length+2) (hm:∀x,x∈dr ns id↔wS ab (M ns f) (M ns g) x):sM ab ns (iz dl ⟨f,g,i⟩ (id:Int)):=λp hp=>by
 rcases EQ hp with hp|rfl
 ·exact h p hp
 ·exact⟨hf,hg,id,rfl,hi,hm⟩
theorem sM.met {v:Int} (h:sM ab ns dl) (hg:iy dl ⟨f,g,i⟩=some v):∃id:Nat,v=(id:Int)∧id<ns.length+2∧∀x,x∈dr ns id↔wS ab (M ns f) (M ns g) x:=(h _ (zq hg)).id
end
section
variable {ab:Bool} {ns:List Nd} {R f g i id:Nat} {e:Int}
end
theorem kG {e e':Int} (err:¬e=0→e'=e) (h:e'=0):e=0:=by
 by_cases q:e=0
 ·exact q
 ·rw[err q]at h;exact h
end
section
open Go Go.RowKit
end
section
open Go Go.RowKit
section
variable {Ta Tn T T':TypeId} {N bw bz bd ba bm R b:Nat} {w w' w'':World} {ns:List Nd} {c cw:Array Value} {dl:List (Nd×Int)}
theorem Dw.new (h:Dw Tn T N bw bz bd ba bm w w') (hb:w.heap.size≤b) (hN:N≤b) (hG:w'.grownBy w'' (some b)) (q:At w' b c T') (hT:T'≠T):Dw Tn T N bw bz bd ba bm w w'':=by
 refine⟨h.dx.new hb (Dx.grown hG (aab ..) hN),λk=> ?_⟩
 obtain⟨e,k2⟩:=h.wk k
 exact⟨e,At.grownAt k2 q hG hT.symm⟩
theorem Dw.map (hG:w.grownBy w' (some bd)) (hN:N≤bd) (hdn:du vD eH w bd dl):Dw Tn T N bw bz bd ba bm w w':=by
 refine⟨Dx.grown hG (aai _ (aab ..)) hN,λ⟨e,k⟩=>⟨e,At.grownMap k hdn hG⟩⟩
end
section
variable {ab:Bool} {ns ns1 ns2 ns3 ns4:List Nd} {R f g i fa fb ga gb idU ida lU cU:Nat} {e e1 e2 e4 erU:Int}
end
end
section
open Go Go.RowKit
section
variable {Ta Tn T T':TypeId} {N bw bz bd ba bm R b:Nat} {w w' w'':World} {ns ns':List Nd} {xs:List Nat}
def PW (Ta Tn:TypeId) (N ba bm R:Nat) (w:World) (ns:List Nd) (S:List Nd→Nat→Int→Prop) (v:Value) (w':World):Prop:=
 ∃(ns':List Nd) (id:Nat) (er:Int),v= .tuple #[.int .i64 (id:Int), .int .i64 er]∧Dx Tn N [ba,bm] w w'∧fC Ta Tn N ba bm R w' ns'∧S ns' id er
theorem PW.dx {S:List Nd→Nat→Int→Prop} {v:Value} (h:PW Ta Tn N ba bm R w ns S v w'):Dx Tn N [ba,bm] w w':=by
 obtain⟨_,_,_,_,h,_⟩:=h;exact h
end
end
end
section
open Go Go.RowKit
def tC:Nat→Nat
 |0=>0
 |k+1=>3*tC k+2*(2*k*3^k)+7
section
variable {ns ns' ns1 ns2 ns3 ns4:List Nd} {R f g i l:Nat}
theorem L3 (h:Wf ns) {g l:Nat} (hg:g<ns.length+2) (hl:l≤dQ ns g) (h24:l<24) (ha:∀x,M ns g x→x.testBit l=true):dH ns g l=0:=by
 have H:=iw h hg hl h24
 refine Decidable.byContradiction λk=> ?_
 obtain⟨y,hy⟩:=iW h _ H.va k
 have h1:=ha y ((H.mem y).2 (.inl hy))
 rw[fZ (g6 H.la (e7 h _ H.va y hy).1)]at h1
 cases h1
theorem wg {n f g:Nat} {en:Nat→Nat→Nat×Bool} (h:(en f g).2=true):cP en n ns f g=0:=by
 cases n with
 |zero=>rfl
 |succ n=>rw[cP,if_pos h]
theorem UM (g:Nat):(pb.ends 0 g).2=true:=by show (Sb 0 g).2=true;unfold Sb;rw[if_pos (.inl rfl)]
theorem Cc (f:Nat):(pb.ends f 0).2=true:=by
 show (Sb f 0).2=true
 grind [Sb]
theorem GA (h:Wf ns) (hf:f<ns.length+2) (hg:g<ns.length+2) (hl:l<dQ ns f) (hlg:l≤dQ ns g) (h24:l<24) (ha:∀x,M ns g x→x.testBit l=true):pb.cst ns f g≤1:=by
 show cE pb.ends ns f g≤1
 by_cases he:(pb.ends f g).2=true
 ·unfold cE;rw[wg he];omega
 ·have g0:¬g=0:=λe=>by subst e;exact he (Cc f)
  have hlv:dQ ns g=l:=by
   obtain⟨x,hx⟩:=iW h g hg g0
   have h1:=ha x hx
   rcases aa0 l (dQ ns g)with k|k
   ·rw[fZ (g6 k (e7 h g hg x hx).1)]at h1;cases h1
   ·omega
  have hmin:min (dQ ns f) (dQ ns g)=l:=by omega
  have hA:=L3 h hg hlg h24 ha
  have hfB:dY ns f l=0:=if_neg λk=>by omega
  unfold cE
  rw[hmin,show 25-l=(24-l)+1 by omega,cP,if_neg he,hmin,hA,hfB,wg (Cc _),wg (UM _)]
  omega
theorem Ub (h:Wf ns) (hf:f<ns.length+2) (hg:g<ns.length+2) (hlf:l≤dQ ns f) (hlg:l+1≤dQ ns g) (h24:l+1<24) (hc:∀x,M ns f x→x.testBit l=false→2^(l+2)∣x) (ha:∀x,M ns g x→x.testBit (l+1)=true):pb.cst ns f g≤2:=by
 rcases aa0 l (dQ ns f)with k|k
 ·have:l+2≤dQ ns f:=qD h hf (by omega) λx hx=>hc x hx (fZ (g6 k (e7 h f hf x hx).1))
  have:=GA (l:=l+1) h hf hg (by omega) hlg h24 ha
  omega
 ·have hlv:dQ ns f=l:=by omega
  show cE pb.ends ns f g≤2
  by_cases he:(pb.ends f g).2=true
  ·unfold cE;rw[wg he];omega
  ·have H:=iw h hf hlf (by omega)
   have hmin:min (dQ ns f) (dQ ns g)=l:=by omega
   have hgA:dH ns g l=g:=if_neg λq=>by omega
   have hgB:dY ns g l=0:=if_neg λq=>by omega
   have hla:=H.la
   have hA:l+2≤dQ ns (dH ns f l):=qD h H.va (by omega) λx hx=>hc x ((H.mem x).2 (.inl hx)) (fZ (g6 H.la (e7 h _ H.va x hx).1))
   have k2:=GA (l:=l+1) h H.va hg (by omega) hlg h24 ha
   have k3:cE pb.ends ns (dH ns f l) g≤1:=k2
   have k4:=C1 (en:=pb.ends) (ns:=ns) (show 24-l≤24-l from am _) (dH ns f l) g
   have k5:cP pb.ends (24-l) ns (dH ns f l) g≤1:=by
    by_cases he2:(pb.ends (dH ns f l) g).2=true
    ·rw[wg he2];omega
    ·have g0:¬g=0:=λe=>by subst e;exact he (Cc f)
     have hlvg:dQ ns g=l+1:=by
      obtain⟨x,hx⟩:=iW h g hg g0
      have h1:=ha x hx
      rcases aa0 (l+1) (dQ ns g)with k|k
      ·rw[fZ (g6 k (e7 h g hg x hx).1)]at h1;cases h1
      ·omega
     have hmin2:min (dQ ns (dH ns f l)) (dQ ns g)=l+1:=by omega
     have e:cE pb.ends ns (dH ns f l) g=cP pb.ends (24-l) ns (dH ns f l) g:=by
      unfold cE
      rw[hmin2,show 25-(l+1)=24-l by omega]
     rw[←e];exact k3
   unfold cE
   rw[hmin,show 25-l=(24-l)+1 by omega,cP,if_neg he,hmin,hgA,hgB,wg (Cc _)]
   omega
end
structure MI (ns ns':List Nd) (R:Nat) (e e':Int) (n i s id:Nat):Prop where
 v:id<ns'.length+2
 pre:ns<+:ns'
 sta:e=0→xL ns ns' R (tC (n-i)) e'
 err:¬e=0→e'=e
 m:e'=0→M ns' id=vq n s
 crd:e'=0→(dr ns' id).length≤3^(n-i)
theorem U1 {ns:List Nd} {R n i s:Nat} {e:Int} (he:¬e=0):MI ns ns R e e n i s 0:=⟨by omega,aba _,λh=>absurd h he,λ_=>rfl,λh=>absurd h he,λh=>absurd h he⟩
theorem YG {ns:List Nd} {R n i s:Nat} {e:Int} (he:e=0) (h8:n≤8) (h:z8 s 0=true):MI ns ns R e e n i s 0:=by
 refine⟨by omega,aba _,λ_=>⟨aba _, .inl ⟨he,by omega⟩⟩,λ_=>rfl,λ_=>fG λx=> ?_,λ_=> ?_⟩
 ·exact⟨λk=>absurd k (Nt ns x),λk=>absurd k (X9 h8 h x)⟩
 ·rw[ny];exact my _
theorem Y9 {ns:List Nd} {R n i s:Nat} {e:Int} (he:e=0) (h8:n≤8) (h:z8 s (fh n)=true):MI ns ns R e e n i s 1:=by
 refine⟨by omega,aba _,λ_=>⟨aba _, .inl ⟨he,by omega⟩⟩,λ_=>rfl,λ_=>fG λx=> ?_,λ_=> ?_⟩
 all_goals grind [Sh,dr,pT,List.mem_singleton,Nat.pow_pos]
def Q8 (s i:Nat) (k:Nat):Nat:=cQ s i (decide (k=1))
def CZ (s i:Nat):Nat:=cQ s i false &&& cQ s i true
def Ow (n s i k:Nat) (y:Nat):Prop:=vq n (Q8 s i k) y∧¬vq n (CZ s i) y
def Ak (n s i k:Nat) (x:Nat):Prop:=vq n (CZ s i) x∨(1≤k∧∃y,Ow n s i 0 y∧x=y+2^(2*i))∨(2≤k∧∃y,Ow n s i 1 y∧x=y+2^(2*i+1))
theorem LH {n s i:Nat}:Ak n s i 0=vq n (CZ s i):=fG λx=>⟨λh=>h.elim id λk=>k.elim (λq=>absurd q.1 (by decide)) λq=>absurd q.1 (by decide), .inl⟩
theorem UX {n s i:Nat} (h8:n≤8) (h:wr n s i) (hi:i<n):Ak n s i 2=vq n s:=fG λx=>by
 rw[KD h8 h hi]
 unfold Ak Ow Q8 CZ
 constructor
 ·rintro(h|⟨_,h⟩|⟨_,h⟩)
  ·exact .inl h
  ·exact .inr (.inl h)
  ·exact .inr (.inr h)
 ·rintro(h|h|h)
  ·exact .inl h
  ·exact .inr (.inl ⟨by decide,h⟩)
  ·exact .inr (.inr ⟨by decide,h⟩)
theorem MJ {n s i k x:Nat} (hk:k<2):Ak n s i (k+1) x↔Ak n s i k x∨∃y,Ow n s i k y∧x=y+2^(2*i+k):=by
 have:k=0∨k=1:=by omega
 grind [Ak]
theorem HY {n s i:Nat} (h8:n≤8) (h:wr n s i) (hi:i<n) (k:Nat):wr n (Q8 s i k) (i+1):=h.side h8 hi _
theorem JH {n s i:Nat} (h8:n≤8) (h:wr n s i) (hi:i<n):wr n (CZ s i) (i+1):=(h.side h8 hi false).and (h.side h8 hi true)
structure WO (ns nsc:List Nd) (R:Nat) (n i s k:Nat) (ec:Int) (com out:Nat):Prop where
 vc:com<nsc.length+2
 vo:out<nsc.length+2
 pre:ns<+:nsc
 sta:xL ns nsc R (tC (n-(i+1))+k*(tC (n-(i+1))+2*(n-(i+1))*3^(n-(i+1))+2)+(if k=0 then 0 else if k=1 then 1 else 3)) ec
 mc:ec=0→M nsc com=vq n (CZ s i)
 cc:ec=0→(dr nsc com).length≤3^(n-(i+1))
 mo:ec=0→M nsc out=Ak n s i k
 co:ec=0→(dr nsc out).length≤(k+1)*3^(n-(i+1))
section
variable {ns nsc ns1 ns2 ns3 ns4:List Nd} {R n i s k com out idh idl idw ido lL lO:Nat} {ec e1 e3 erL erO:Int}
theorem Pe (p:MI ns ns1 R 0 e1 n (i+1) (CZ s i) com):WO ns ns1 R n i s 0 e1 com com:=
 ⟨p.v,p.v,p.pre,(p.sta rfl).mono gj,p.m,p.crd,λz=>by rw[LH];exact p.m z,λz=>by have:=p.crd z;omega⟩
theorem PT (h8:n≤8) (hs:wr n s i) (hi:i<n) (hk:k<2) (h:WO ns nsc R n i s k ec com out) (hw1:Wf ns1) (hw2:Wf ns2) (hw3:Wf ns3) (hw4:Wf ns4)
  (p:MI nsc ns1 R ec e1 n (i+1) (Q8 s i k) idh) (gL:jY ns1 ns2 R (vl.cst ns1 idh com) lL (vl.res (M ns1 idh) (M ns1 com)) idl erL) (q:VX ns2 ns3 R (iQ e1 erL) e3 (kr e1 erL idl) (2*i+k) idw)
  (gO:jY ns3 ns4 R (pb.cst ns3 out idw) lO (pb.res (M ns3 out) (M ns3 idw)) ido erO):WO ns ns4 R n i s (k+1) (iQ e3 erO) com (kr e3 erO ido):=by
 have p01:=fX p.pre
 have p12:=fX gL.pre
 have p23:=fX q.pre
 have p34:=fX gO.pre
 have hvc:=h.vc
 have hvo:=h.vo
 have hvh:=p.v
 have hvl:kr e1 erL idl<ns2.length+2:=pD gL.valid
 have hfc:=JH h8 hs hi
 have hfs:=HY h8 hs hi k
 have i24:2*i+2≤24:=by omega
 have M1h:e1=0→M ns1 idh=vq n (Q8 s i k):=p.m
 have M1c:e1=0→M ns1 com=vq n (CZ s i):=λz=>by rw[i7 p.pre h.vc];exact h.mc (kG p.err z)
 have M2l:iQ e1 erL=0→M ns2 (kr e1 erL idl)=Ow n s i k:=λz=>by
  obtain⟨z1,z2⟩:=ir.1 z
  rw[lT z,show M ns2 idl=vl.res (M ns1 idh) (M ns1 com) from fG (gL.ok z2).2.2,M1h z1,M1c z1]
  rfl
 have dv:∀y,Ow n s i k y→2^(2*i+2)∣y:=λy hy=>by
  have:=uz h8 hfs hy.1
  rwa [show 2*(i+1)=2*i+2 by omega]at this
 have dvk:∀y,Ow n s i k y→2^(2*i+k+1)∣y:=λy hy=>Nat.dvd_trans (abM 2 (by omega)) (dv y hy)
 have levO:P1 (2*i+k) (Ow n s i k):=λy hy=>dvk y hy
 have M3w:e3=0→∀x,M ns3 idw x↔∃y,Ow n s i k y∧x=y+2^(2*i+k):=λz x=>by
  have z2:=kG q.err z
  have hq:=q.m z x
  rw[M2l z2]at hq
  exact hq.trans (N4 levO x)
 have M3o:e3=0→M ns3 out=Ak n s i k:=λz=>by
  have z1:=(ir.1 (kG q.err z)).1
  rw[i7 ((p.pre.trans gL.pre).trans q.pre) h.vo]
  exact h.mo (kG p.err z1)
 have tpP:∀{x s'},vq n s' x→x<2^(2*n):=λhx=>Ca h8 hx
 have cL:e1=0→vl.cst ns1 idh com≤2*(n-(i+1))*3^(n-(i+1)):=λz=>by
  have t1:tp ns1 idh≤2*n:=mm.2 λx hx=>tpP (by have hx':M ns1 idh x:=hx;rw[M1h z]at hx';exact hx')
  have t2:tp ns1 com≤2*n:=mm.2 λx hx=>tpP (by have hx':M ns1 com x:=hx;rw[M1c z]at hx';exact hx')
  have l1:2*i+2≤dQ ns1 idh:=qD hw1 hvh i24 λx hx=>by
   have hx':M ns1 idh x:=hx
   rw[M1h z]at hx'
   have:=uz h8 hfs hx'
   rwa [show 2*(i+1)=2*i+2 by omega]at this
  have l2:2*i+2≤dQ ns1 com:=qD hw1 (by omega) i24 λx hx=>by
   have hx':M ns1 com x:=hx
   rw[M1c z]at hx'
   have:=uz h8 hfc hx'
   rwa [show 2*(i+1)=2*i+2 by omega]at this
  refine an (SJ hw1 HJ.endF hvh (by omega) t1 t2) (abH (by omega) ?_)
  have:=p.crd z
  omega
 have lw:e3=0→2*i+k≤dQ ns3 idw:=λz=>qD hw3 q.v (by omega) λx hx=>by
  obtain⟨y,hy,e⟩:=(M3w z x).1 hx
  rw[e]
  exact GE (dvk y hy)
 have bw:e3=0→∀x,M ns3 idw x→x.testBit (2*i+k)=true:=λz x hx=>by
  obtain⟨y,hy,e⟩:=(M3w z x).1 hx
  rw[e]
  exact kA (dvk y hy)
 have oc:∀x,Ak n s i 0 x→2^(2*i+2)∣x:=λx hx=>by
  rw[LH]at hx
  have:=uz h8 hfc hx
  rwa [show 2*(i+1)=2*i+2 by omega]at this
 have cO:e3=0→pb.cst ns3 out idw≤k+1:=λz=>by
  have:k=0∨k=1:=by omega
  rcases this with rfl|rfl
  ·refine GA (l:=2*i) hw3 (by omega) q.v ?_ (lw z) (by omega) (bw z)
   have:2*i+2≤dQ ns3 out:=qD hw3 (by omega) i24 λx hx=>oc x (by have hx':M ns3 out x:=hx;rw[M3o z]at hx';exact hx')
   omega
  ·have hou:∀x,M ns3 out x→Ak n s i 0 x∨∃y,Ow n s i 0 y∧x=y+2^(2*i+0):=λx hx=>by
    rw[M3o z]at hx
    exact(MJ (by decide)).1 hx
   have dv0:∀y,Ow n s i 0 y→2^(2*i+2)∣y:=λy hy=>by
    have:=uz h8 (HY h8 hs hi 0) hy.1
    rwa [show 2*(i+1)=2*i+2 by omega]at this
   refine Ub (l:=2*i) hw3 (by omega) q.v (qD hw3 (by omega) (by omega) λx hx=> ?_) (lw z) (by omega) (λx hx hb=> ?_) (bw z)
   ·rcases hou x hx with k|⟨y,hy,e⟩
    ·exact Nat.dvd_trans (abM 2 (by omega)) (oc x k)
    ·rw[e,abl]
     exact GE (Nat.dvd_trans (abM 2 (by omega)) (dv0 y hy))
   ·rcases hou x hx with k|⟨y,hy,e⟩
    ·exact oc x k
    ·rw[e,abl,kA (Nat.dvd_trans (abM 2 (by omega)) (dv0 y hy))]at hb
     cases hb
 have s1:=h.sta.step p.sta (λz=>⟨p.pre,p.err z⟩)
 have s2:=s1.did gL cL
 have s3:=s2.step (c2:=2) (λz=>q.sta z (by
  have:2*i+k+1≤dQ ns2 (kr e1 erL idl):=qD hw2 hvl (by omega) λx hx=>by
   have hx':M ns2 (kr e1 erL idl) x:=hx
   rw[M2l z]at hx'
   exact dvk x hx'
  omega)) (λz=>⟨q.pre,q.err z⟩)
 have s4:=s3.did gO cO
 have pall:=((p.pre.trans gL.pre).trans q.pre).trans gO.pre
 refine⟨by omega,pD gO.valid,h.pre.trans pall,s4.mono ?_,λz=> ?_,λz=> ?_,λz=>fG λx=> ?_,λz=> ?_⟩
 ·have:k=0∨k=1:=by omega
  rcases this with rfl|rfl
  ·simp;omega
  ·simp;omega
 ·have z1:=(ir.1 (kG q.err (ir.1 z).1)).1
  rw[i7 pall hvc]
  exact h.mc (kG p.err z1)
 ·have z1:=(ir.1 (kG q.err (ir.1 z).1)).1
  rw[gM pall hvc]
  exact h.cc (kG p.err z1)
 ·obtain⟨z3,zO⟩:=ir.1 z
  rw[lT z,MJ hk]
  refine((gO.ok zO).2.2 x).trans ?_
  show (M ns3 out x∨M ns3 idw x)↔_
  rw[M3o z3,M3w z3]
 ·obtain⟨z3,zO⟩:=ir.1 z
  have z2:=kG q.err z3
  have z1:=(ir.1 z2).1
  rw[lT z]
  have h1:=Np hw4 (gO.ok zO).1 (a:=out) (b:=idw) (ns:=ns3) λx hx=>((gO.ok zO).2.2 x).1 hx
  have h2:(dr ns3 idw).length≤(dr ns1 idh).length:=by
   have:=jt (l2:=(dr ns1 idh).map λy=>y+2^(2*i+k)) (jH hw3 idw q.v) λx hx=>by
    obtain⟨y,hy,e⟩:=(M3w z3 x).1 hx
    exact aag.2 ⟨y,(show M ns1 idh y by rw[M1h z1];exact hy.1),e.symm⟩
   rw[aaD]at this
   exact this
  have h3:=p.crd z1
  have h4:(dr ns3 out).length=(dr nsc out).length:=by rw[gM ((p.pre.trans gL.pre).trans q.pre) hvo]
  have h5:=h.co (kG p.err z1)
  grind
theorem Ul (h8:n≤8) (hs:wr n s i) (hi:i<n) (h:WO ns nsc R n i s 2 ec com out):MI ns nsc R 0 ec n i s out:=by
 obtain⟨m,hm⟩:∃m,n-i=m+1:=⟨n-(i+1),by omega⟩
 have hm2:n-(i+1)=m:=by omega
 refine⟨h.vo,h.pre,λ_=>h.sta.mono ?_,λz=>absurd rfl z,λz=>by rw[←UX h8 hs hi];exact h.mo z,λz=> ?_⟩
 ·rw[hm,hm2,tC]
  simp
  omega
 ·have:=h.co z
  grind
end
end
section
open Go Go.RowKit
def Wc (T:TypeId) (bc bz:Nat) (w:World):Prop:=∃e,At w bc #[.pointer (some ⟨bz,0,none⟩), .int .i64 e] T
structure Dc (Tn T:TypeId) (N bc bz ba bm:Nat) (w w':World):Prop where
 dx:Dx Tn N [bc,ba,bm] w w'
 wk:Wc T bc bz w→Wc T bc bz w'
section
variable {Ta Tn T T':TypeId} {N bc bz ba bm R b:Nat} {w w' w'':World} {ns ns':List Nd} {e e':Int} {c cw:Array Value}
theorem acj (h:Wc T bc bz w):w.cell? ⟨bc,0,none⟩=some (.pointer (some ⟨bz,0,none⟩)):=by
 obtain⟨e,h⟩:=h
 exact At.cell h rfl
theorem Dc.refl:Dc Tn T N bc bz ba bm w w:=⟨Dx.refl,id⟩
theorem Dc.trans (h:Dc Tn T N bc bz ba bm w w') (k:Dc Tn T N bc bz ba bm w' w''):Dc Tn T N bc bz ba bm w w'':=⟨h.dx.trans k.dx,λq=>k.wk (h.wk q)⟩
theorem Dc.ext (h:dz w w'):Dc Tn T N bc bz ba bm w w':=⟨Dx.ext h,λ⟨e,q⟩=>⟨e,h.at q⟩⟩
instance {Tn T:TypeId} {N bc bz ba bm:Nat} {w0 w w':World}:Kp w w' (Dc Tn T N bc bz ba bm w0 w) (Dc Tn T N bc bz ba bm w0 w'):=⟨λh k=>Dc.trans k (Dc.ext h)⟩
theorem abF (D:fC Ta Tn N ba bm R w ns) (h:Dx Tn N [ba,bm] w w') (hTa:T≠Ta) (hTn:T≠Tn):Dc Tn T N bc bz ba bm w w':=⟨h.mono (λx hx=>aai _ hx),λ⟨e,q⟩=>⟨e,At.dx D h q hTa hTn⟩⟩
theorem Dc.did (h:w.grownBy w' (some bc)) (hN:N≤bc) (q:At w' bc #[.pointer (some ⟨bz,0,none⟩), .int .i64 e'] T):Dc Tn T N bc bz ba bm w w':=⟨Dx.grown h (aab ..) hN,λ_=>⟨e',q⟩⟩
theorem aa6 (D:fC Ta Tn N ba bm R w ns) (hw:At w bc cw T) (h:Dc Tn T N bc bz ba bm w w') (q:At w b c T') (h1:T'≠Ta) (h2:T'≠Tn) (h3:T'≠T):At w' b c T':=by
 obtain⟨n1,n2⟩:=D.ne q h1
 have n3:b≠bc:=λe=>by subst e;exact aco q hw h3 rfl
 unfold At at*
 rw[h.dx.block b (gf q) (.inr ⟨by simp[n1,n2,n3],λc' fr e=>by rw[q]at e;simp at e;exact h2 e.2.1⟩)]
 exact q
theorem Dc.new (h:Dc Tn T N bc bz ba bm w w') (hb:w.heap.size≤b) (hN:N≤b) (hG:w'.grownBy w'' (some b)) (q:At w' b c T') (hT:T'≠T):Dc Tn T N bc bz ba bm w w'':=by
 refine⟨h.dx.new hb (Dx.grown hG (aab ..) hN),λk=> ?_⟩
 obtain⟨e,k2⟩:=h.wk k
 exact⟨e,At.grownAt k2 q hG hT.symm⟩
theorem aca {b1:Nat} {xs:List Nat} (h:Dx Tn N xs w w') (h1:w.heap.size≤b1) (k:Dx Tn N (b1::xs) w' w''):Dx Tn N xs w w'':=h.new h1 k
end
end
section
open Go Go.RowKit
def ZS (m k:Nat):Nat:=m/2^(2*k)%4
end
section
open Go Go.RowKit
theorem V6 {s n:Nat} (h:xz s (n:Int)=true):n≤8∧wr n s 0:=by
 unfold xz at h
 obtain⟨h1,h2⟩:=abu.1 h
 obtain⟨h3,h4⟩:=abu.1 h2
 have h8:n≤8:=by have:=of_decide_eq_true h3;omega
 rw[so]at h4
 refine⟨h8,Oo λp hp hb=> ?_⟩
 have:=d4.1 h4 p hp hb
 rw[fw]at this
 grind
theorem QC {n:Nat} (h:n≤8) {v:Value} (hv:v=if 0≤(n:Int)∧(n:Int)≤8 then .tuple #[eb (fh (n:Int).toNat), .int .i64 0]else .tuple #[eb 0, .int .i64 1]):v= .tuple #[eb (fh n), .int .i64 0]:=by
 grind
def dl (m q:Nat):Int:=if ZS m q=1 then 0 else if ZS m q=2 then 1 else 2
end
section
open Go Go.RowKit
section
variable {ns ns':List Nd} {R n s id k:Nat} {er:Int}
end
end
section
open Go Go.RowKit
abbrev nN (S:Sp):Nat:=S.n.toNat
def FS (S:Sp) (o j y:Nat):Prop:=vq (nN S) (gY S o) y∧∀p,o<p→p<j→p &&& o=o→¬vq (nN S) (gY S p) y
def Qd (S:Sp) (j x:Nat):Prop:=∃o,1≤o∧o<j∧∃y,FS S o (2^S.may.length) y∧x=y+o*65536
section
variable {S:Sp} {o p j x y:Nat}
theorem ZI:FS S o (o+1)=vq (nN S) (gY S o):=fG λy=>⟨λh=>h.1,λh=>⟨h,λp h1 h2=>by omega⟩⟩
theorem Y0 (h:j &&& o=o) (hj:o<j):FS S o (j+1)=λy=>FS S o j y∧¬vq (nN S) (gY S j) y:=fG λy=>by
 unfold FS
 constructor
 ·rintro⟨h1,h2⟩
  exact⟨⟨h1,λp a b=>h2 p a (by omega)⟩,h2 j hj (by omega) h⟩
 ·rintro⟨⟨h1,h2⟩,h3⟩
  refine⟨h1,λp a b c=> ?_⟩
  by_cases e:p=j
  ·subst e;exact h3
  ·exact h2 p a (by omega) c
theorem Zz (h:¬j &&& o=o):FS S o (j+1)=FS S o j:=fG λy=>by
 unfold FS
 constructor
 ·rintro⟨h1,h2⟩
  exact⟨h1,λp a b=>h2 p a (by omega)⟩
 ·rintro⟨h1,h2⟩
  refine⟨h1,λp a b c=> ?_⟩
  by_cases e:p=j
  ·subst e;exact absurd c h
  ·exact h2 p a (by omega) c
theorem X7:Qd S 1=λ_=>False:=fG λx=>⟨λ⟨o,h1,h2,_⟩=>by omega,λh=>h.elim⟩
theorem VF (h:1≤o):Qd S (o+1) x↔Qd S o x∨∃y,FS S o (2^S.may.length) y∧x=y+o*65536:=by
 constructor
 ·rintro⟨q,h1,h2,h3⟩
  by_cases e:q=o
  ·subst e;exact .inr h3
  ·exact .inl ⟨q,h1,by omega,h3⟩
 ·rintro(⟨q,h1,h2,h3⟩|h3)
  ·exact⟨q,h1,by omega,h3⟩
  ·exact⟨o,h,by omega,h3⟩
theorem qP (hr:dq S=true):nN S≤8∧S.n=(nN S:Int)∧S.may.length≤4:=by
 obtain⟨h0,h8,_,h4,h5,_⟩:=dD.1 hr
 unfold nN
 omega
theorem OI (hr:dq S=true) (o:Nat):wr (nN S) (gY S o) 0:=by
 obtain⟨h8,hn,_⟩:=qP hr
 have:=M4 hr o
 rw[hn]at this
 exact(V6 this).2
theorem Je (hr:dq S=true) (h:FS S o j y):y<65536:=by
 obtain⟨h8,_,_⟩:=qP hr
 have h1:=Ca h8 h.1
 have h2:2^(2*nN S)≤2^16:=aaf (by decide) (by omega)
 exact aao h1 h2
end
theorem Wf.prefix {ns ns':List Nd} (h:Wf ns') (hp:ns<+:ns'):Wf ns:=by
 have hl:=fX hp
 refine⟨List.Nodup.sublist hp.sublist h.nd,λi hi=> ?_⟩
 have k:=h.ok i (by omega)
 rw[uK hp hi]at k
 obtain⟨k1,k2,k3,k4,k5,k6⟩:=k
 exact⟨k1,k2,k3,by rwa [gU hp (by omega)]at k4,by rwa [gU hp (by omega)]at k5,k6⟩
theorem Qz (o:Nat):xy 0 [((o*65536:Nat):Int)]≤24:=L9 [((o*65536:Nat):Int)]
def bF (S:Sp):Nat:=tC (nN S)+2*nN S*3^nN S
def bO (S:Sp):Nat:=2^S.may.length*bF S+24+sY (16+S.may.length)*3^nN S+(16+S.may.length)*3^nN S
structure We (ns nsc:List Nd) (R:Nat) (S:Sp) (j:Nat) (ec:Int) (out:Nat):Prop where
 v:out<nsc.length+2
 pre:ns<+:nsc
 st:∃c,c≤(j-1)*bO S∧xL ns nsc R c ec
 m:ec=0→M nsc out=Qd S j
structure US (nsc nsi:List Nd) (R:Nat) (S:Sp) (o j:Nat) (ec ei:Int) (f:Nat):Prop where
 v:f<nsi.length+2
 pre:nsc<+:nsi
 st:ec=0→∃c,c≤(j-o)*bF S∧xL nsc nsi R c ei
 err:¬ec=0→ei=ec
 m:ei=0→M nsi f=FS S o j
 crd:ei=0→(dr nsi f).length≤3^nN S
section
variable {ns nsc nsi ns1 ns2 ns3 ns4:List Nd} {R o j out f id idl idg idj ido lL lG lJ lO cG:Nat} {S:Sp} {ec ei e1 erL erG erJ erO:Int}
theorem NY:We ns ns R S 1 0 0:=⟨by omega,aba _,⟨0,my _,xL.refl⟩,λ_=>by rw[X7];exact fG λx=>⟨λh=>Nt ns x h,λh=>h.elim⟩⟩
theorem M5 (p:MI nsc ns1 R ec e1 (nN S) 0 (gY S o) id):US nsc ns1 R S o (o+1) ec e1 id:=
 ⟨p.v,p.pre,λz=>⟨_,by rw[abK,show o+1-o=1 by omega,aap];exact Nat.le_add_right _ _,p.sta z⟩,p.err,λz=>by rw[ZI];exact p.m z,λz=>p.crd z⟩
theorem RY (hr:dq S=true) (hw:Wf ns2) (h:US nsc nsi R S o j ec ei f) (hj:o<j) (hb:j &&& o=o) (p:MI nsi ns1 R ei e1 (nN S) 0 (gY S j) id) (gL:jY ns1 ns2 R (vl.cst ns1 f id) lL (vl.res (M ns1 f) (M ns1 id)) idl erL):US nsc ns2 R S o (j+1) ec (iQ e1 erL) (kr e1 erL idl):=by
 obtain⟨h8,_,_⟩:=qP hr
 have hw1:=hw.prefix gL.pre
 have hpl:=fX p.pre
 have hv:=h.v
 have cL:e1=0→vl.cst ns1 f id≤2*nN S*3^nN S:=λz1=>by
  have z0:=kG p.err z1
  have t1:tp ns1 f≤2*nN S:=mm.2 λx hx=>by
   have hx':M ns1 f x:=hx
   rw[i7 p.pre h.v,h.m z0]at hx'
   exact Ca h8 hx'.1
  have t2:tp ns1 id≤2*nN S:=mm.2 λx hx=>by
   have hx':M ns1 id x:=hx
   rw[p.m z1]at hx'
   exact Ca h8 hx'
  refine an (SJ hw1 HJ.endF (by omega) p.v t1 t2) (abH (Nat.sub_le _ _) ?_)
  have:=p.crd z1
  rw[abK]at this
  exact an (abX _ _) this
 refine⟨pD gL.valid,(h.pre.trans p.pre).trans gL.pre,λz=> ?_,λz=> ?_,λz=> ?_,λz=> ?_⟩
 ·obtain⟨c,hc,s⟩:=h.st z
  have s1:=s.step (c2:=tC (nN S-0)) (λz=>p.sta z) (λz=>⟨p.pre,p.err z⟩)
  refine⟨_,?_,s1.did gL (c2:=2*nN S*3^nN S) cL⟩
  rw[abK,show j+1-o=(j-o)+1 by omega,aaR,aap]
  unfold bF at hc ⊢
  omega
 ·have h1:=h.err z
  have h2:=p.err (by rw[h1];exact z)
  unfold iQ
  rw[if_neg (by rw[h2,h1];exact z),h2,h1]
 ·obtain⟨z1,z2⟩:=ir.1 z
  rw[lT z,Y0 hb hj,show M ns2 idl=vl.res (M ns1 f) (M ns1 id) from fG (gL.ok z2).2.2,i7 p.pre h.v,h.m (kG p.err z1),p.m z1]
  rfl
 ·obtain⟨z1,z2⟩:=ir.1 z
  rw[lT z]
  have hg:=gL.ok z2
  have hsub:∀x,x∈dr ns2 idl→x∈dr nsi f:=λx hx=>by
   have hx':M ns1 f x:=((hg.2.2 x).1 hx).1
   rw[i7 p.pre h.v]at hx'
   exact hx'
  exact an (OQ hw hg.1 hsub) (h.crd (kG p.err z1))
theorem RD (h:US nsc nsi R S o j ec ei f) (hb:¬j &&& o=o):US nsc nsi R S o (j+1) ec ei f:=
 ⟨h.v,h.pre,λz=>by obtain⟨c,hc,s⟩:=h.st z;exact⟨c,an hc (aay _ (by omega)),s⟩,h.err,λz=>by rw[Zz hb];exact h.m z,h.crd⟩
theorem RV (hr:dq S=true) (hw:Wf ns3) (hcG:cG≤24) (ho:We ns nsc R S o ec out) (h1:1≤o) (h16:o<16) (hom:o<2^S.may.length) (h:US nsc nsi R S o (2^S.may.length) ec ei f)
  (gG:jY nsi ns1 R cG lG (bS [((o*65536:Nat):Int)] 0) idg erG) (gJ:jY ns1 ns2 R (rn.cst ns1 f (kr ei erG idg)) lJ (rn.res (M ns1 f) (M ns1 (kr ei erG idg))) idj erJ)
  (gO:jY ns2 ns3 R (pb.cst ns2 out (kr (iQ ei erG) erJ idj)) lO (pb.res (M ns2 out) (M ns2 (kr (iQ ei erG) erJ idj))) ido erO):
  We ns ns3 R S (o+1) (iQ (iQ (iQ ei erG) erJ) erO) (kr (iQ (iQ ei erG) erJ) erO ido):=by
 have p1:=fX h.pre
 have p2:=fX gG.pre
 have p3:=fX gJ.pre
 have hv:=h.v
 have hov:=ho.v
 have hw2:=hw.prefix gO.pre
 have hw1:=hw2.prefix gJ.pre
 have hg0:erG=0→M ns1 idg=λx=>x=o*65536:=λzG=>fG λx=>by
  refine((gG.ok zG).2.2 x).trans ?_
  constructor
  ·rintro⟨m,hm,e⟩
   rw[Z8.1 hm,so,Be]at e
   exact e
  ·rintro rfl
   exact⟨_,Z8.2 rfl,by rw[so,Be]⟩
 have key:∀y,FS S o (2^S.may.length) y→y ||| o*65536=y+o*65536:=λy hy=>by
  have hlt:=Je hr hy
  have e:=abx (i:=16) hlt o
  have e16:(2:Nat)^16=65536:=rfl
  rw[e16]at e
  rw[Nat.or_comm,aa3,←e,Nat.add_comm]
 have e16:(2:Nat)^(16+S.may.length)=65536*2^S.may.length:=by rw[Nat.pow_add]
 have big:∀y q,y<65536→q<2^S.may.length→y+q*65536<2^(16+S.may.length):=λy q hy hq=>by
  rw[e16]
  have:(q+1)*65536≤65536*2^S.may.length:=by rw[aa3];exact Nat.mul_le_mul_left _ hq
  omega
 have cJ:iQ ei erG=0→rn.cst ns1 f (kr ei erG idg)≤sY (16+S.may.length)*3^nN S:=λz2=>by
  obtain⟨z1,zG⟩:=ir.1 z2
  rw[lT z2]
  have t1:tp ns1 f≤16+S.may.length:=mm.2 λx hx=>by
   have hx':M ns1 f x:=hx
   rw[i7 gG.pre h.v,h.m z1]at hx'
   have:=big x 0 (Je hr hx') (by omega)
   omega
  have t2:tp ns1 idg≤16+S.may.length:=mm.2 λx hx=>by
   have hx':M ns1 idg x:=hx
   rw[hg0 zG]at hx'
   have:=big 0 o (by omega) hom
   omega
  have l1:(dr ns1 f).length≤3^nN S:=by rw[gM gG.pre h.v];exact h.crd z1
  have l2:(dr ns1 idg).length≤1:=jt (l2:=[o*65536]) (jH hw1 idg (gG.ok zG).1) λx hx=>by
   have hx':M ns1 idg x:=hx
   rw[hg0 zG]at hx'
   exact Z8.2 hx'
  refine an (Xd hw1 (by omega) (gG.ok zG).1 t1 t2) (abH (qx (Nat.sub_le _ _)) ?_)
  exact an (abH l1 l2) (aae (abB _))
 have hj0:iQ (iQ ei erG) erJ=0→M ns2 idj=λx=>∃y,FS S o (2^S.may.length) y∧x=y+o*65536:=λz3=>fG λx=>by
  obtain⟨z2,zJ⟩:=ir.1 z3
  obtain⟨z1,zG⟩:=ir.1 z2
  refine((gJ.ok zJ).2.2 x).trans ?_
  rw[lT z2,hg0 zG,i7 gG.pre h.v,h.m z1]
  show nW _ _ x↔_
  constructor
  ·rintro⟨y,b,hy,rfl,rfl⟩
   exact⟨y,hy,key y hy⟩
  ·rintro⟨y,hy,rfl⟩
   exact⟨y,_,hy,rfl,(key y hy).symm⟩
 have cO:iQ (iQ ei erG) erJ=0→pb.cst ns2 out (kr (iQ ei erG) erJ idj)≤(16+S.may.length)*3^nN S:=λz3=>by
  obtain⟨z2,zJ⟩:=ir.1 z3
  obtain⟨z1,zG⟩:=ir.1 z2
  have zc:=kG h.err z1
  rw[lT z3]
  have t1:tp ns2 out≤16+S.may.length:=mm.2 λx hx=>by
   have hx':M ns2 out x:=hx
   rw[i7 ((h.pre.trans gG.pre).trans gJ.pre) ho.v,ho.m zc]at hx'
   obtain⟨q,q1,q2,y,hy,rfl⟩:=hx'
   exact big y q (Je hr hy) (by omega)
  have t2:tp ns2 idj≤16+S.may.length:=mm.2 λx hx=>by
   have hx':M ns2 idj x:=hx
   rw[hj0 z3]at hx'
   obtain⟨y,hy,rfl⟩:=hx'
   exact big y o (Je hr hy) hom
  refine an (SJ hw2 HA.endF (by omega) (gJ.ok zJ).1 t1 t2) (abH (Nat.sub_le _ _) (an (abX _ _) ?_))
  have:=jt (l2:=(dr nsi f).map λy=>y+o*65536) (jH hw2 idj (gJ.ok zJ).1) λx hx=>by
   have hx':M ns2 idj x:=hx
   rw[hj0 z3]at hx'
   obtain⟨y,hy,rfl⟩:=hx'
   refine aag.2 ⟨y,?_,rfl⟩
   show M nsi f y
   rw[h.m z1];exact hy
  rw[aaD]at this
  exact an this (h.crd z1)
 refine⟨pD gO.valid,ho.pre.trans (((h.pre.trans gG.pre).trans gJ.pre).trans gO.pre),?_,λz=>fG λx=> ?_⟩
 ·obtain⟨c,hc,s⟩:=ho.st
  have s0:∃c',c'≤(o-1)*bO S+2^S.may.length*bF S∧xL ns nsi R c' ei:=by
   by_cases z:ec=0
   ·obtain⟨c2,hc2,s2⟩:=h.st z
    exact⟨_,Nat.add_le_add hc (an hc2 (aay _ (Nat.sub_le _ _))),s.step (λ_=>s2) (λq=>absurd z q)⟩
   ·exact⟨_,by omega,s.step (c2:=0) (λq=>absurd q z) (λ_=>⟨h.pre,h.err z⟩)⟩
  obtain⟨c0,hc0,s0⟩:=s0
  have s1:=s0.did gG (c2:=24) λ_=>hcG
  have s2:=s1.did gJ (c2:=_) cJ
  refine⟨_,?_,s2.did gO (c2:=_) cO⟩
  have e:(o+1-1)*bO S=(o-1)*bO S+bO S:=by rw[show o+1-1=(o-1)+1 by omega,aaR,aap]
  rw[e]
  unfold bO at hc0 ⊢
  omega
 ·obtain⟨z3,zO⟩:=ir.1 z
  obtain⟨z2,zJ⟩:=ir.1 z3
  obtain⟨z1,zG⟩:=ir.1 z2
  have zc:=kG h.err z1
  have hj:=hj0 z3
  rw[lT z,VF h1]
  refine((gO.ok zO).2.2 x).trans ?_
  show (M ns2 out x∨M ns2 (kr (iQ ei erG) erJ idj) x)↔_
  rw[lT z3,hj,i7 ((h.pre.trans gG.pre).trans gJ.pre) ho.v,ho.m zc]
end
theorem VA {o:Nat} (h:o<16):CE [((o*65536:Nat):Int)]=true:=sf.2 λm hm=>by
 rw[Z8.1 hm]
 omega
def Wp (R:Nat) (ns:List Nd) (S:Sp) (ns':List Nd) (id:Nat) (er:Int):Prop:=We ns ns' R S (2^S.may.length) er id∧(¬er=0→id=0)
theorem Xr {ns ns':List Nd} {R id:Nat} {S:Sp} {e:Int} (h:We ns ns' R S (2^S.may.length) e id) (hz:e=0):Wp R ns S ns' id 0:=by
 subst hz
 exact⟨h,λz=>absurd rfl z⟩
theorem QS {ns ns':List Nd} {R id:Nat} {S:Sp} {e:Int} (h:We ns ns' R S (2^S.may.length) e id) (hz:¬e=0):Wp R ns S ns' 0 e:=
 ⟨⟨by omega,h.pre,h.st,λz=>absurd z hz⟩,λ_=>rfl⟩
theorem VQ {ns ns':List Nd} {R id:Nat} {S:Sp} {e:Int} (h:Wp R ns S ns' id e):e=0∨e=5:=by
 obtain⟨c,_,s⟩:=h.1.st
 exact s.ers
end
section
open Go Go.RowKit
def S8 (R:Nat) (S:Sp) (e:Int):Prop:=∃ns' id,Wp R [] S ns' id e∧ns'.length≤R∧Wf ns'
def Vu (S:Sp) (T:Nat):Prop:=∃L ks,mR (mI S (eW S)) L ks∧T+1<2^cnt L
theorem ye {U r:List Int} (h:U.Nodup):∀k,(qs U r k).Nodup
 |0=>h
 |k+1=>jO (ye h k) _
theorem Vp {l:List Int} {c:Int}:c∈qs [] l l.length↔c∈l:=by
 rw[qN _ (am _),aan];simp
theorem Ko {n b:Int} {L:ML} {N:Nat} {TI:TypeId} {v:Value} {w':World} (h:(∃tv X s,v= .tuple #[tv, .int .i64 s, .int .i64 0]∧cD dJ 1 TI w' N tv X∧Re L n X∧X.length≤4000∧0≤s∧s≤b)∨(v= .tuple #[.slice none 0 0, .int .i64 b, .int .i64 6]∧b.toNat+1<2^cnt L)) (hb:0≤b):
  ∃tv X s e,v= .tuple #[tv, .int .i64 s, .int .i64 e]∧cD dJ 1 TI w' N tv X∧X.length≤4000∧0≤s∧s≤b∧(e=0→Re L n X)∧(¬e=0→e=6∧b.toNat+1<2^cnt L):=by
 obtain⟨tv,X,s,h1,h2,h3,h4,h5,h6⟩|⟨h1,h2⟩:=h
 ·exact⟨tv,X,s,0,h1,h2,h4,h5,h6,λ_=>h3,λq=>absurd rfl q⟩
 ·exact⟨_,[],b,6,h1,cD.nil,my _,hb,Int.le_refl _,(λq=>(by cases q)),(λ_=>⟨rfl,h2⟩)⟩
section
variable {S:Sp}
theorem Vm (hr:dq S=true) (hl:(eW S).length≤4000):Ch S (eW S)=0:=Tm hr (λk hk=>gD (xH hr k hk)) (by omega)
theorem Kh {L:ML} {T:List Int} (hr:dq S=true) (hl:(eW S).length≤4000) (h:mR (mI S (eW S)) L T):jz L L.length=true:=by
 have h1:=PR hr hl
 obtain⟨X,_,h2,_⟩:=h.dn _ (lS _ _) (ra (kE (S:=S) hl) h1)
 exact R5 h2
theorem N2 (hr:dq S=true):(mI S (eW S)).length≤1024:=by rw[K8];exact OL hr
theorem ZJ {R:Nat} {ns':List Nd} {id:Nat} {e:Int} (h:Wp R [] S ns' id e) (h0:¬e=0):e=5:=(VQ h).resolve_left h0
end
theorem rk {v:Value} {a b c:Int} (h:v.oneCell'=true):[v,Value.int .i64 a, .int .i64 b, .int .i64 c].all Value.oneCell'=true:=by simp only[aa7,abL,h,aaZ,aax];rfl
def Yz (R T:Nat) (S:Sp) (how sp e:Int) (Rr:List Rw):Prop:=(e=0∧how=1∧0≤sp∧sp≤T∧S8 R S 0∧Mb S Rr)∨(e=5∧S8 R S 5)∨(e=6∧S8 R S 0∧Vu S T)
def oK (b0 b1:Int):Prop:=(0≤b0∧b0≤20000)∧0≤b1∧b1≤1000000
instance (b0 b1:Int):Decidable (oK b0 b1):=inferInstanceAs (Decidable (_∧_))
def LA (R T:Nat) (S:Sp) (how why sp:Int) (Rr:List Rw):Prop:=(how=1∧why=0∧0≤sp∧sp≤T∧S8 R S 0∧Mb S Rr)∨(how=2∧Rr=kY S (mL S)∧((why=5∧sp=0∧S8 R S 5)∨(why=6∧sp=T∧S8 R S 0∧Vu S T)))
theorem U4 {b0 b1:Int} (h:oK b0 b1):∃R T:Nat,b0=(R:Int)∧b1=(T:Int)∧True∧R≤20000∧T≤1000000:=by
 obtain⟨⟨h1,h2⟩,h3,h4⟩:=h
 exact⟨b0.toNat,b1.toNat,by omega,by omega,trivial,by omega,by omega⟩
section
variable {R T:Nat} {S:Sp} {how sp e:Int} {Rr:List Rw}
theorem ZA (h:Yz R T S how sp e Rr) (he:e=0):LA (R:Int).toNat (T:Int).toNat S how 0 sp Rr:=by
 rw[so,so]
 rcases h with h|h|h
 ·exact .inl ⟨h.2.1,rfl,h.2.2.1,h.2.2.2.1,h.2.2.2.2.1,h.2.2.2.2.2⟩
 ·have:=h.1;omega
 ·have:=h.1;omega
theorem YP (h:Yz R T S how sp e Rr) (he:e=6):LA (R:Int).toNat (T:Int).toNat S 2 e (T:Int) (kY S (mL S)):=by
 rw[so,so]
 rcases h with h|h|h
 ·have:=h.1;omega
 ·have:=h.1;omega
 ·exact .inr ⟨rfl,rfl, .inr ⟨he,rfl,h.2⟩⟩
theorem Yi (h:Yz R T S how sp e Rr) (h0:¬e=0) (h6:¬e=6):LA (R:Int).toNat (T:Int).toNat S 2 e 0 (kY S (mL S)):=by
 rw[so,so]
 rcases h with h|h|h
 ·exact absurd h.1 h0
 ·exact .inr ⟨rfl,rfl, .inl ⟨h.1,rfl,h.2⟩⟩
 ·exact absurd h.1 h6
end
end
section
open Go Go.RowKit
def Wt (n:Nat) (x:Rw):Ln:=⟨x.c,(List.range n).map λk=>((x.o/2^k%2:Nat):Int)⟩
def HH (S:Sp) (l:List Rw):Tb:=⟨1,S.n,S.on.length,l.map (Wt S.on.length)⟩
section
variable {S:Sp} {l Z:List Rw} {x:Rw} {n k o p i:Nat}
theorem SI (n:Nat) (x:Rw):(Wt n x).os.length=n:=by simp[Wt]
theorem Qx (S:Sp) (l:List Rw):(HH S l).ls.length=l.length:=by simp[HH]
theorem Kt (hr:dq S=true) (hm:mQ S l=true) (h64:l.length≤64):fc (HH S l)=true:=by
 obtain⟨h0,h8,h1,h4,h5,_⟩:=dD.1 hr
 unfold fc
 rw[we,decide_eq_true_eq]
 refine⟨⟨by show (0:Int)≤1;decide,by show (1:Int)≤3;decide,h0,h8,by show (1:Int)≤(S.on.length:Int);omega,by show (S.on.length:Int)≤4;omega,by rw[Qx];exact h64⟩,?_⟩
 refine aaj.2 λy hy=> ?_
 obtain⟨x,hx,rfl⟩:=aag.1 hy
 refine lj.2 ⟨(ig.1 (nS.1 hm x hx)).1,by rw[SI];rfl,λz hz=> ?_⟩
 obtain⟨j,_,rfl⟩:=aag.1 hz
 omega
theorem xt {l:List Rw} {p o:Nat}:DA l p o=true↔∃x,x∈l∧x.o.testBit o=true∧mE x.c.m x.c.v p=true:=by
 unfold DA
 rw[aaO]
 simp only[we]
theorem Lp {α β:Type} {f:α→β} {l:List α} {k:Nat} {d:α} (h:k<l.length):(l.take (k+1)).map f=(l.take k).map f++[f (l.getD k d)]:=by
 rw[aaH,th h,abh,me,th h]
 rfl
theorem KP {o j:Nat}:((List.range j).map λq=>((o/2^q%2:Nat):Int))++[((o/2^(j:Int).toNat &&& 1:Nat):Int)]=(List.range (j+1)).map λq=>((o/2^q%2:Nat):Int):=by
 rw[abN,abh,so,px]
 rfl
theorem BS {α β:Type} {f:α→List β} {c:Nat}:∀(l:List α),(∀x,x∈l→(f x).length≤c)→(l.flatMap f).length≤l.length*c
 |[],_=>my _
 |a::l,h=>by
  have h1:=BS l λx hx=>h x (aai _ hx)
  have h2:=h a aab
  rw[aaE,An,aak,aaR,aap]
  omega
def Fq (S:Sp):List Rw:=(List.range S.on.length).flatMap λo=>((List.range (2^S.n.toNat)).filter λp=>(Bh S o).testBit p).map λp=>⟨⟨2^S.n.toNat-1,p⟩,2^o⟩
theorem KM (S:Sp):(Fq S).length≤S.on.length*2^S.n.toNat:=by
 have h:=BS (c:=2^S.n.toNat) (f:=λo=>((List.range (2^S.n.toNat)).filter λp=>(Bh S o).testBit p).map λp=>(⟨⟨2^S.n.toNat-1,p⟩,2^o⟩:Rw)) (List.range S.on.length) λo _=>by
  rw[aaD]
  have:=abJ (λp=>(Bh S o).testBit p) (List.range (2^S.n.toNat))
  rw[abQ]at this
  exact this
 rw[abQ]at h
 exact h
theorem ze (h:p<2^n):p &&& (2^n-1)=p:=by rw[abj,abo h]
theorem wb:x∈Fq S↔∃o p,o<S.on.length∧p<2^S.n.toNat∧(Bh S o).testBit p=true∧x=⟨⟨2^S.n.toNat-1,p⟩,2^o⟩:=by
 unfold Fq
 rw[abY]
 constructor
 ·rintro⟨o,ho,hx⟩
  obtain⟨p,hp,rfl⟩:=aag.1 hx
  obtain⟨h1,h2⟩:=aaN.1 hp
  exact⟨o,p,aam.1 ho,aam.1 h1,h2,rfl⟩
 ·rintro⟨o,p,ho,hp,hb,rfl⟩
  exact⟨o,aam.2 ho,aag.2 ⟨p,aaN.2 ⟨aam.2 hp,hb⟩,rfl⟩⟩
theorem KI (hr:dq S=true):io S (Fq S)=true:=by
 obtain⟨h0,h8,h1,h4,h5,hin⟩:=dD.1 hr
 have hm:mQ S (Fq S)=true:=nS.2 λx hx=>by
  obtain⟨o,p,ho,hp,hb,rfl⟩:=wb.1 hx
  have hpos:=aaz S.n.toNat
  exact ig.2 ⟨dw.2 ⟨h0,h8,by show 2^S.n.toNat-1<2^S.n.toNat;omega,ze hp⟩,aaz o,abv (by decide) ho⟩
 have h256:=fq h8
 refine fN.2 ⟨hr,hm,λo ho=>(jR hr hm ho).2 λp hp=>⟨λq=> ?_,λq=> ?_⟩⟩
 ·refine xt.2 ⟨_,wb.2 ⟨o,p,ho,hp,q,rfl⟩,?_,?_⟩
  ·show (2^o).testBit o=true
   rw[aas];simp
  ·show mE _ _ _=true
   unfold mE
   simp
 ·obtain⟨x,hx,b1,b2⟩:=xt.1 q
  obtain⟨o',p',ho',hp',hb',rfl⟩:=wb.1 hx
  have e1:o'=o:=by
   have:(2^o').testBit o=true:=b1
   rw[aas]at this
   exact of_decide_eq_true this
  have e2:p=p':=by
   have:=of_decide_eq_true (show decide (p &&& (2^S.n.toNat-1)=p' &&& (2^S.n.toNat-1))=true from b2)
   rw[ze hp,ze hp']at this
   exact this
  subst e1 e2
  exact d4.1 (hin _ ho).1 _ (by omega) hb'
theorem Ro (hr:dq S=true) (h:Mb S l):l.length≤S.on.length*2^S.n.toNat:=an (h.min _ (KI hr)) (KM S)
theorem MW {l:List Rw} {y d:Rw} {j:Nat} (hi:i<l.length):(l.set i y).getD j d=if j=i then y else l.getD j d:=by
 rw[me,List.getElem?_set]
 by_cases h:i=j
 ·rw[if_pos h,if_pos (by omega),if_pos h.symm];rfl
 ·rw[if_neg h,if_neg (λe=>h e.symm),me]
theorem Q7:DA (nH l) p o=DA l p o:=by
 rw[aaA,xt,xt]
 constructor
 ·rintro⟨x,hx,r⟩;exact⟨x,(aaN.1 hx).1,r⟩
 ·rintro⟨x,hx,r⟩
  refine⟨x,aaN.2 ⟨hx,decide_eq_true ?_⟩,r⟩
  rcases Nat.eq_zero_or_pos x.o with e|e
  ·rw[e,aaF]at r;cases r.1
  ·exact e
theorem Ky (h:io S l=true) (hi:i<l.length) (hb:(l.getD i ⟨⟨0,0⟩,0⟩).o.testBit k=true) (hn:io S (nH (rE l i k))=false):
  ∃p,p<2^S.n.toNat∧mE (l.getD i ⟨⟨0,0⟩,0⟩).c.m (l.getD i ⟨⟨0,0⟩,0⟩).c.v p=true∧∀j,j<l.length→(l.getD j ⟨⟨0,0⟩,0⟩).o.testBit k=true→mE (l.getD j ⟨⟨0,0⟩,0⟩).c.m (l.getD j ⟨⟨0,0⟩,0⟩).c.v p=true→j=i:=by
 obtain⟨hr,hm,hc⟩:=fN.1 h
 refine Classical.byContradiction λhno=> ?_
 have hall:∀p,p<2^S.n.toNat→mE (l.getD i ⟨⟨0,0⟩,0⟩).c.m (l.getD i ⟨⟨0,0⟩,0⟩).c.v p=true→∃j,j<l.length∧(l.getD j ⟨⟨0,0⟩,0⟩).o.testBit k=true∧mE (l.getD j ⟨⟨0,0⟩,0⟩).c.m (l.getD j ⟨⟨0,0⟩,0⟩).c.v p=true∧¬j=i:=λp hp hh=>by
  refine Classical.byContradiction λhx=>hno ⟨p,hp,hh,λj hj h1 h2=> ?_⟩
  exact Classical.byContradiction λh3=>hx ⟨j,hj,h1,h2,h3⟩
 have hlen:(rE l i k).length=l.length:=by unfold rE;rw[List.length_set]
 have hget:∀j,(rE l i k).getD j ⟨⟨0,0⟩,0⟩=if j=i then mC (l.getD i ⟨⟨0,0⟩,0⟩) k else l.getD j ⟨⟨0,0⟩,0⟩:=λj=>MW hi
 have hcv:∀o p,p<2^S.n.toNat→DA (rE l i k) p o=DA l p o:=λo p hp=>by
  rw[aaA,uY,uY]
  constructor
  ·rintro⟨j,hj,r⟩
   rw[hlen]at hj
   refine⟨j,hj,?_⟩
   rw[hget]at r
   by_cases e:j=i
   ·subst e
    rw[if_pos rfl,we]at r
    have h1:((l.getD j ⟨⟨0,0⟩,0⟩).o-2^k).testBit o=true:=r.1
    rw[iI hb,we]at h1
    rw[we]
    exact⟨h1.1,r.2⟩
   ·rw[if_neg e]at r;exact r
  ·rintro⟨j,hj,r⟩
   by_cases e:j=i
   ·subst e
    rw[we]at r
    by_cases ek:k=o
    ·subst ek
     obtain⟨j2,h1,h2,h3,h4⟩:=hall p hp r.2
     refine⟨j2,by rw[hlen];exact h1,?_⟩
     rw[hget,if_neg h4,h2,h3];rfl
    ·refine⟨j,by rw[hlen];exact hj,?_⟩
     rw[hget,if_pos rfl,we]
     refine⟨?_,r.2⟩
     show ((l.getD j ⟨⟨0,0⟩,0⟩).o-2^k).testBit o=true
     rw[iI hb,r.1,decide_eq_false ek]
     rfl
   ·refine⟨j,by rw[hlen];exact hj,?_⟩
    rw[hget,if_neg e];exact r
 have hm2:mQ S (nH (rE l i k))=true:=nS.2 λx hx=>by
  obtain⟨h1,h2⟩:=aaN.1 hx
  obtain⟨j,hj,rfl⟩:=eZ (d:=(⟨⟨0,0⟩,0⟩:Rw)) h1
  rw[hlen]at hj
  rw[hget]at h2 ⊢
  by_cases e:j=i
  ·subst e
   rw[if_pos rfl]at h2 ⊢
   obtain⟨a,b,c⟩:=ig.1 (ko.1 hm j hj)
   exact ig.2 ⟨a,of_decide_eq_true h2,aaw (Nat.sub_le _ _) c⟩
  ·rw[if_neg e];exact ko.1 hm j hj
 have:io S (nH (rE l i k))=true:=by
  refine fN.2 ⟨hr,hm2,λo ho=>(jR hr hm2 ho).2 λp hp=> ?_⟩
  rw[Q7,hcv o p hp]
  exact(jR hr hm ho).1 (hc o ho) p hp
 rw[hn]at this
 cases this
theorem LV {x:Nat} (h:0<x):∃k,x.testBit k=true:=Classical.byContradiction λhn=>by
 have:x=0:=Z7 λk=>by
  rw[aaF]
  exact aah.2 λhk=>hn ⟨k,hk⟩
 omega
theorem H3 (h:xA S l=true):l.length≤S.on.length*2^S.n.toNat:=by
 obtain⟨hc,hn⟩:=wJ.1 h
 obtain⟨hr,hm,_⟩:=fN.1 hc
 have key:∀i,∃q:Nat×Nat,i<l.length→q.1<S.on.length∧q.2<2^S.n.toNat∧(l.getD i ⟨⟨0,0⟩,0⟩).o.testBit q.1=true∧mE (l.getD i ⟨⟨0,0⟩,0⟩).c.m (l.getD i ⟨⟨0,0⟩,0⟩).c.v q.2=true∧∀j,j<l.length→(l.getD j ⟨⟨0,0⟩,0⟩).o.testBit q.1=true→mE (l.getD j ⟨⟨0,0⟩,0⟩).c.m (l.getD j ⟨⟨0,0⟩,0⟩).c.v q.2=true→j=i:=λi=>by
  by_cases hi:i<l.length
  ·obtain⟨_,h1,h2⟩:=ig.1 (ko.1 hm i hi)
   obtain⟨k,hk⟩:=LV h1
   have hkl:k<S.on.length:=by
    rcases aa0 k S.on.length with g|g
    ·exact g
    ·have:=gz.1 h2 k g
     rw[hk]at this;cases this
   have hf:=hn i hi k hkl
   unfold Yy at hf
   rw[hk,aax]at hf
   obtain⟨p,a,b,c⟩:=Ky hc hi hk hf
   exact⟨(k,p),λ_=>⟨hkl,a,hk,b,c⟩⟩
  ·exact⟨(0,0),λk=>absurd k hi⟩
 let g:Nat→Nat×Nat:=λi=>Classical.choose (key i)
 have hg:∀i,i<l.length→_:=λi hi=>Classical.choose_spec (key i) hi
 have h1:=s6 (a:=(List.range l.length).map g) (b:=(List.range S.on.length).flatMap λo=>(List.range (2^S.n.toNat)).map λp=>(o,p)) ?_ ?_
 ·rw[aaD,abQ]at h1
  refine an h1 ?_
  have h2:=BS (c:=2^S.n.toNat) (f:=λo=>(List.range (2^S.n.toNat)).map λp=>(o,p)) (List.range S.on.length) λo _=>by simp
  rw[abQ]at h2
  exact h2
 ·refine List.pairwise_map.2 ?_
  refine(List.nodup_range (n:=l.length)).imp_of_mem λ{a b} ha hb hab e=> ?_
  obtain⟨_,_,a3,a4,_⟩:=hg a (aam.1 ha)
  obtain⟨_,_,_,_,b5⟩:=hg b (aam.1 hb)
  have e1:Classical.choose (key a)=Classical.choose (key b):=e
  rw[e1]at a3 a4
  exact hab (b5 a (aam.1 ha) a3 a4)
 ·intro q hq
  obtain⟨i,hi,rfl⟩:=aag.1 hq
  obtain⟨a1,a2,_⟩:=hg i (aam.1 hi)
  exact abY.2 ⟨_,aam.2 a1,aag.2 ⟨_,aam.2 a2,rfl⟩⟩
theorem MH (hr:dq S=true) (hm:mQ S l=true):ix l:=λx hx=>by
 obtain⟨a,b,c⟩:=ig.1 (nS.1 hm x hx)
 obtain⟨h0,h8,hm2,hv⟩:=dw.1 a
 obtain⟨_,_,_,h4,_,_⟩:=dD.1 hr
 have h1:2^S.n.toNat≤2^8:=aaf (by decide) (by omega)
 have h2:2^S.on.length≤2^4:=aaf (by decide) h4
 have h3:x.c.v≤x.c.m:=by rw[←hv];exact abm
 exact⟨by omega,by omega,by omega⟩
theorem Wg {a b:Nat} (ha:a≤3) (hb:b≤4):a*2^b≤48:=by
 have h1:2^b≤2^4:=aaf (by decide) hb
 have h2:a*2^b≤3*2^4:=abH ha h1
 exact h2
theorem O3 {R T:Nat} {how why sp:Int} (hr:dq S=true) (h4:S.n≤4) (h3:S.on.length≤3) (h:LA R T S how why sp l):io S l=true∧l.length≤48:=by
 have hn:=Wg h3 (show S.n.toNat≤4 by omega)
 rcases h with h|⟨_,rfl,_⟩
 ·exact⟨h.2.2.2.2.2.cov,an (Ro hr h.2.2.2.2.2) hn⟩
 ·exact⟨EY (wa hr),an (H3 (Ft (wa hr))) hn⟩
end
end
section
open Go Go.RowKit
theorem vy {f:Nat→Value} {w:World} {d:Option Nat} {ty:TypeId} {ps:String} {af:Array Edge} {g:Option (Nat×Bool)} {x0 x1 x2:Operand} {c0_0 c1_0 c2_0:Value} (h0:dg f x0=c0_0) (k0:c0_0.cells= #[c0_0]) (h1:dg f x1=c1_0) (k1:c1_0.cells= #[c1_0]) (h2:dg f x2=c2_0) (k2:c2_0.cells= #[c2_0]):
    (execOp (dg f) ⟨d, .build 24 #[(0,x0),(1,x1),(2,x2)],ty,ps,af,g⟩).run Tryz.prog w= .ok (.value (.agg #[c0_0,c1_0,c2_0, .slice none 0 0])) w:=by
  obtain⟨i0,hi0,hz0⟩:=Do.1 (show (Tryz.prog.info? 24).bind (·.zero)=_ from sZ)
  obtain⟨j3,hj3,hs3⟩:=go.1 fH
  obtain⟨j22,hj22,hs22⟩:=go.1 v8
  simp[execOp,h0,k0,h1,k1,h2,k2,Instr.build,zeroValue,typeInfo,sizeOf,hi0,hz0,run_underlying Tryz.underlying24,Instr.fill,dX,hj3,hs3,hj22,hs22]
set_option maxHeartbeats 4000000 in
theorem uO (S:Sp) (onV mayV:Value) (xa:Value) (l:List Rw) (w:World) (hon:dh fT 4 w onV S.on) (hmay:dh fT 4 w mayV S.may) (hl:dh gv 3 w xa l) (hlb:l.length≤1000000) (hlr:ix l) (h4:S.on.length≤20):
    Fn Tryz.prog 39 #[.agg #[.int .i64 S.n,onV,mayV],xa] w λv w'=>if dq S=true∧mQ S l=true then (if l.length≤64 then ∃lv vs,v= .tuple #[.agg #[.int .i64 1, .int .i64 S.n, .int .i64 (S.on.length:Int),lv], .int .i64 0]∧cD iH 3 37 w' w.heap.size lv vs∧iT 3 w.heap.size w' vs (l.map (Wt S.on.length))else v= .tuple #[.agg #[.int .i64 0, .int .i64 0, .int .i64 0, .slice none 0 0], .int .i64 3])else v= .tuple #[.agg #[.int .i64 0, .int .i64 0, .int .i64 0, .slice none 0 0], .int .i64 1]:=by
 refine cH (n:=67) Tryz.func39 rfl rfl rfl λhB=> ?_
 refine Zr<|Zy (dt (c:= #[_,_,_]) rfl rfl λR W3 aP T e=> ?_)
 replace hB:=Ze hB T
 refine Zy (cI sZ rfl λU W6 V X d=> ?_)
 have A:=ZO V hB
 obtain⟨hB,e⟩:=X.k2 hB e
 refine ZZ rfl<|Zq<|cx<|Zr<|Zv (cy rfl el rfl e)<|ZC (vs:=[.agg #[_,_,_]]) oB (iJ S _ _ _ (Below.slT hB hon) (Below.slT hB hmay)) rfl λaQ aR Y Z=> ?_
 obtain⟨hB,e,d⟩:=Y.k3 hB e d
 obtain rfl:=Z
 refine Zv (eR rfl)<|ZX rfl (λC=> ?_) λC=> ?_
 refine Zs<|Zs<|Zs<|Zs<|Zb rfl<|Zb rfl<|ct<|cF rfl<|Zr<|Zv (jV)<|Zy (cz rfl rfl eA rfl d rfl rfl λaS aa ab=> ?_)
 replace hB:=Zg hB aa A
 replace d:=ab
 refine ZZ rfl<|Zt<|eI rfl eA d rfl (v1:= .int .i64 1) rfl ⟨hB,?_⟩
 (rw[if_neg (λh=>by rw[kT C]at h;exact Bool.noConfusion h.1)])
 refine Zv (cy rfl el rfl e)<|Zw xa rfl<|ZC (vs:=[.agg #[_,_,_],xa]) I2 (yh S _ _ _ l _ (Below.slT hB hon) (Below.slT hB hmay) (Below.slT hB hl) Om hlr h4) rfl λaT aU ac ad=> ?_
 obtain⟨hB,e,d⟩:=ac.k3 hB e d
 obtain rfl:=ad
 refine Zv (eR rfl)<|Zb rfl<|Zb rfl<|ct<|ZQ rfl (λD=> ?_) λD=> ?_
 refine Zr<|Zv (jV)<|Zy (cz rfl rfl eA rfl d rfl rfl λaV ae af=> ?_)
 replace hB:=Zg hB ae A
 replace d:=af
 refine ZZ rfl<|Zt<|eI rfl eA d rfl (v1:= .int .i64 1) rfl ⟨hB,?_⟩
 (rw[if_neg (λh=>by rw[show mQ S l=false from kT D]at h;exact Bool.noConfusion h.2)])
 have hr:dq S=true:=ms C
 obtain⟨hr0,hr8,hr1,hr4,hr5,_⟩:=dD.1 hr
 have hm:mQ S l=true:=ms D
 refine Zr<|Zw xa rfl<|Zv (cT (v:=xa) rfl (Below.slT hB hl) dM)<|Zv (il rfl rfl)<|Zb rfl<|ct<|ZQ rfl (λag=> ?_) λag=> ?_
 refine Zr<|Zv (jV)<|Zy (cz rfl rfl eA rfl d rfl rfl λaW ah ai=> ?_)
 replace hB:=Zg hB ah A
 replace d:=ai
 refine ZZ rfl<|Zt<|eI rfl eA d rfl (v1:= .int .i64 3) rfl ⟨hB,?_⟩
 (rw[if_pos ⟨hr,hm⟩,if_neg (by omega)])
 refine cu<|Zr<|Zf rfl iF<|Zl rfl cK e rfl<|Zf rfl iG<|ZL onV rfl ft e rfl<|Zv (cT (v:=onV) rfl (Below.slT hB hon) eN)<|Zv (vy (h0:=rfl) (k0:=rfl) (h1:=rfl) (k1:=rfl) (h2:=rfl) (k2:=rfl) (c0_0:= .int .i64 1) (c1_0:= .int .i64 _) (c2_0:= .int .i64 _))<|Zy (cI sZ rfl λaj aX I ak f=> ?_)
 have J:=ZO I hB
 have K:=Zn I d.lt
 obtain⟨hB,e,d⟩:=ak.k3 hB e d
 refine Zy (cz rfl rfl eA rfl f rfl rfl λaY E al=> ?_)
 replace hB:=Zg hB E J
 replace e:=At.grownAt e f E Dd
 replace d:=At.grownNe d K E
 replace f:=al
 refine ct<|Zq<|Zr<|Zw xa rfl<|Zv (cT (v:=xa) rfl (Below.slT hB hl) dM)<|ZZ rfl<|cx ?_
 refine cS (σ:=(Nat)×(Value)×(List uI)) [8,10,35,65] (λ(k,lv,vs)=>[(35, .int .i64 (k:Int))]) (λsg W=>match sg with|(k,lv,vs)=>(Below w.heap.size w W)∧(At W R _ 59)∧(At W U _ 24)∧(At W aj #[.int .i64 1, .int .i64 S.n, .int .i64 (S.on.length:Int),lv] 24)∧(cD iH 3 37 W w.heap.size lv vs)∧(iT 3 w.heap.size W vs ((l.take k).map (Wt S.on.length)))∧(k≤l.length)∧(True)) (λ(k,lv,vs)=>l.length-k) ((0, .slice none 0 0,[])) ⟨rfl,trivial⟩ ⟨hB,e,d,f,cD.nil,iT.nil,(my _),trivial⟩ ?_
 rintro⟨k,lv,vs⟩ aZ y ⟨hB,e,d,f,hlv,hls,hk,_⟩ a0 ao
 refine Zr<|Zv (dk rfl rfl)<|ct<|Zq<|ZQ rfl (λap=> ?_) λap=> ?_
 refine cu<|Zq<|cx ?_
 have a1:=Below.slT hB hon
 have a2:=Below.slT hB hmay
 have B:=Below.slT hB hl
 have L:=hB
 replace hB:=Below.refl y.heap.size y
 refine Zr<|Zv (df (v:=xa) rfl (Below.slT hB B) rfl dM Om Om)<|Zv (gH rfl dP (dh.cell (Below.slT hB B) eh ⟨⟨0,0⟩,0⟩ Om Om 0 rfl) (dh.cell (Below.slT hB B) eh ⟨⟨0,0⟩,0⟩ Om Om 1 rfl) (dh.cell (Below.slT hB B) eh ⟨⟨0,0⟩,0⟩ Om Om 2 rfl))<|Zy (cI jD rfl λaq a3 ar au g=> ?_)
 have av:=ZO ar hB
 replace hB:=Ze hB au
 refine Zy (cz rfl rfl dP rfl g rfl rfl λa4 aw ax=> ?_)
 replace hB:=Zg hB aw av
 replace g:=ax
 refine ct ?_
 obtain⟨a5,a6,ay⟩:=hlr.get (k:=k) (by omega)
 refine Zr<|Zf rfl gE<|Zv (fD rfl cZ (At.cell g rfl) (At.cell g rfl))<|Zv (ux (h0:=rfl))<|Zy (cI l8 rfl λaz a7 aA aB i=> ?_)
 have M:=ZO aA hB
 obtain⟨hB,g⟩:=aB.k2 hB g
 refine Zy (cz rfl rfl gp rfl i rfl rfl λa8 N aC=> ?_)
 replace hB:=Zg hB N M
 replace g:=At.grownAt g i N Dd
 replace i:=aC
 refine ct<|Zq<|Zr<|Zf rfl f6<|Zl rfl cK (On hB f) rfl<|ZZ rfl<|cx ?_
 refine cS (σ:=(Nat)×(Value)) [10,10,44,58] (λ(j,ov)=>[(44, .int .i64 (j:Int))]) (λsg W=>match sg with|(j,ov)=>(Below y.heap.size y W)∧(At W aq _ 158)∧(At W az #[.int .u8 ((l.getD k ⟨⟨0,0⟩,0⟩).c.m:Int), .int .u8 ((l.getD k ⟨⟨0,0⟩,0⟩).c.v:Int),ov] 37)∧(cD dJ 1 3 W y.heap.size ov ((List.range j).map λq=>((((l.getD k ⟨⟨0,0⟩,0⟩)).o/2^q%2:Nat):Int)))∧(j≤S.on.length)∧(True)) (λ(j,ov)=>S.on.length-j) ((0, .slice none 0 0)) ⟨rfl,trivial⟩ ⟨hB,g,i,cD.nil,(my _),trivial⟩ ?_
 rintro⟨j,ov⟩ a9 ba ⟨hB,g,i,hov,hj,_⟩ bb aD
 refine Zr<|Zv (dk rfl rfl)<|ct<|Zq<|ZQ rfl (λaE=> ?_) λaE=> ?_
 refine cu<|Zq<|cx<|Zr<|Zi rfl<|ZZ rfl ?_
 have hdv:(l.getD k ⟨⟨0,0⟩,0⟩).o/2^((j:Nat):Int).toNat<ip .u8:=aaw (aaY _ _) ay
 refine fe (λa b=>a.grownBy b ov.ownBlock) fQ (λaF aG=> ?_)
 obtain⟨hB,g,i,hov⟩:=aG.k4 hB g i hov
 have O:=hov
 have hS:=World.grownBy.refl aF ov.ownBlock
 refine Tf 0 rfl rfl d8 hS<|Tk 1 rfl (λ_ hq=>cB (v:=ov) rfl dV (At.cell (At.grownOw i O hq Dd) rfl)) hS<|Tf 2 rfl rfl fy hS<|Tk 3 rfl (λ_ hq=>cB (v:= .int .u8 _) rfl dK (At.cell (At.grownOw g O hq Dd) rfl)) hS<|Ti 4 rfl rfl hS<|Tk 5 rfl (λ_ _=>qd rfl rfl Om (by simp only[IntKind.bits];omega)) hS<|Tk 6 rfl (λ_ _=>mZ (n:=1) rfl rfl rfl (by exact hdv) Dd) hS<|Tk 7 rfl (λ_ _=>ic rfl Tryz.underlying5 Tryz.underlying3 (by exact aaw abm Dd)) hS<|To 8 rfl (eK (u:= .int .i64 _) rfl cM eQ rfl Dd Dd λaH bc bd F aI=>⟨.inl (cC hS (dz.grown F ov.ownBlock)),?_⟩)
 obtain⟨hB,g,i,hov⟩:=F.k4 hB g i hov
 replace hS:=cC hS (dz.grown F ov.ownBlock)
 refine To 9 rfl (dZ (v:=ov) (v2:= .slice (some ⟨aH,0,none⟩) 1 1) rfl rfl cM eQ Dd hov (eT aI rfl) rfl (n4 hB) (by rw[aaD,abQ];omega) (by rw[aaD,abQ];omega) λP bf z p=>⟨.inl (cC hS z),?_⟩)
 replace hS:=cC hS z
 replace p:=cD.snoc (enc:=dJ) (x:=_) rfl rfl rfl rfl p
 replace hB:=ZG hB z hov
 replace g:=At.grownOw g hov z Dd
 replace i:=At.grownOw i hov z Dd
 refine Tf 10 rfl rfl d8 hS<|To 11 rfl (dm (v:=P) rfl rfl dV (dh.one p.sl) i gj λbg G aJ=>⟨.inr jW,?_⟩)
 replace hB:=Zg hB G M
 replace g:=At.grownAt g i G Dd
 replace p:=cD.grownAt p i G Dd
 replace i:=aJ
 replace i:At _ _ #[_,_,_] _:=i
 refine Td<|ZT rfl rfl rfl ?_
 exact aD _ _ ((j+1,P)) Za ⟨rfl,trivial⟩ ⟨hB,g,(by exact i),(by rw[←KP];exact p),Om,trivial⟩ (by show S.on.length-(j+1)<S.on.length-j;omega)
 refine cR ?_
 replace e:=On hB e
 replace d:=On hB d
 replace f:=On hB f
 replace hlv:=Below.ow hB hlv
 replace hls:=iT.below hB hls
 have hzs:=an (am _) (Below.size L)
 replace hov:=cD.mono hov hzs
 replace hB:=Below.trans L (Below.mono hB hzs)
 have hvl:vs.length=k:=by have:=hls.len;rw[aaD,aal]at this;omega
 have hj2:j=S.on.length:=by omega
 rw[hj2]at hov
 refine cN<|Zf rfl eq<|ZL lv rfl fF f rfl<|Zv (cy rfl gp rfl i)<|Zy (eK (u:= .agg #[_,_,_]) rfl ff xx rfl Dd Dd λaK bh bi aL aM=> ?_)
 obtain⟨e,d,f,hlv,hls,hB,hov⟩:=aL.k7 e d f hlv hls hB hov
 refine Zy (dZ (v:=lv) (v2:= .slice (some ⟨aK,0,none⟩) 1 1) rfl rfl ff xx Dd hlv (eT aM rfl) (mN (dh.one (cD.sl hov))) (n4 hB) Om Om λQ bj r s=> ?_)
 replace s:=cD.snoc (enc:=iH) (x:=⟨(l.getD k ⟨⟨0,0⟩,0⟩).c,ov⟩) rfl rfl rfl rfl s
 replace e:=At.grownOw e hlv r Dd
 replace d:=At.grownOw d hlv r Dd
 replace f:=At.grownOw f hlv r Dd
 replace hls:=iT.grownOw hls hlv r Dd
 replace hB:=ZG hB r hlv
 replace hov:=cD.grownOw hov hlv r Dd
 refine Zf rfl eq<|Zy (dm (v:=Q) rfl rfl fF (dh.one s.sl) f gj λbk t aN=> ?_)
 replace e:=At.grownAt e f t Dd
 replace d:=At.grownNe d K t
 replace hls:=iT.grownAt hls f t Dd
 replace hB:=Zg hB t J
 replace hov:=cD.grownAt hov f t Dd
 replace s:=cD.grownAt s f t Dd
 replace f:=aN
 replace f:At _ _ #[_,_,_,_] _:=f
 refine ct<|ZT rfl rfl rfl ?_
 exact ao _ _ ((k+1,Q,vs++[⟨(l.getD k ⟨⟨0,0⟩,0⟩).c,ov⟩])) Za ⟨rfl,trivial⟩ ⟨hB,e,d,(by exact f),(by exact s),(by rw[Lp Om];exact iT.snoc (l:=Wt S.on.length (l.getD k ⟨⟨0,0⟩,0⟩)) hls rfl hov),Om,trivial⟩ (by show l.length-(k+1)<l.length-k;omega)
 refine cR ?_
 obtain rfl:k=l.length:=by omega
 rw[aan]at hls
 refine Zr<|Zv (cy rfl eA rfl f)<|Zy (cz rfl rfl eA rfl d rfl (by exact vE (dh.one (cD.sl hlv))) λbl H aO=> ?_)
 replace hB:=Zg hB H A
 replace hlv:=cD.grownAt hlv d H Dd
 replace hls:=iT.grownAt hls d H Dd
 replace d:=aO
 refine ZZ rfl<|Zt<|eI rfl eA d rfl (v1:= .int .i64 0) rfl ⟨hB,?_⟩
 (rw[if_pos ⟨hr,hm⟩,if_pos (by omega)];exact⟨_,_,rfl,hlv,hls⟩)
end
end Go.Proofs.YtedeonkjellcpaaGreatDoor
