/- Plain words for covers without a search: sides of sets, the cover by the sides, its points, that no cube of it is too much. No program in it. Plain words for the document's cover: flags of sides, and of what is in both, in one, in one alone. Steps of the walks. No program in it. Plain words for spec -/
import Derived.Test.YtedeonkjellcpaaGreatDoorHolds
namespace Go.Proofs.YtedeonkjellcpaaGreatDoor
set_option linter.unusedVariables false
set_option linter.unusedSimpArgs false
section
open Go Go.RowKit
def s5 (p i:Nat) (one:Bool):Nat:=if p.testBit i=one then p else p ^^^ 2^i
theorem sm (p i j:Nat):(p ^^^ 2^i).testBit j=if j=i then !p.testBit j else p.testBit j:=by
 grind
theorem ng (p i j:Nat) (one:Bool):(s5 p i one).testBit j=if j=i then one else p.testBit j:=by
 grind [s5,sm]
theorem lM {p i:Nat} {one:Bool} (h:p.testBit i=one):s5 p i one=p:=if_pos h
theorem gz {p n:Nat}:p<2^n↔∀j,n≤j→p.testBit j=false:=by
 grind [Nat.testBit_lt_two_pow,Nat.lt_of_lt_of_le,Nat.pow_le_pow_right,Nat.lt_pow_two_of_testBit]
theorem lH {p i n:Nat} {one:Bool} (hi:i<n):s5 p i one<2^n↔p<2^n:=by
 rw[gz,gz]
 constructor
 ·intro h j hj
  have:=h j hj
  rwa [ng,if_neg (by omega)]at this
 ·intro h j hj
  rw[ng,if_neg (by omega)]
  exact h j hj
theorem Dm {p i n:Nat} (hi:i<n) (h:p<2^n):p ^^^ 2^i<2^n:=Nat.xor_lt_two_pow h (abv (by decide) hi)
theorem qT (p i j:Nat) (one:Bool):s5 (p ^^^ 2^j) i one=if j=i then s5 p i one else s5 p i one ^^^ 2^j:=by
 refine Z7 λq=> ?_
 grind [ng,sm]
theorem Ei (i:Nat) (h:i<8) (p:Nat) (hp:p<256):p ^^^ 2^i<256:=Dm (n:=8) h hp
theorem uQ {l:List Int} {F:Nat→Int→Nat} {hit:Int→Nat→Prop} (hF:∀o p,p∈l→∀q,((F o p).testBit q=true↔o.testBit q=true∨hit p q)):
  ∀(z q:Nat),((l.foldl F z).testBit q=true↔z.testBit q=true∨∃p,p∈l∧hit p q):=by
 induction l with
 |nil=>intro z q;simp
 |cons a l ih=>
  intro z q
  rw[abO,ih (λo p hp=>hF o p (aai _ hp)),hF z a (aab ..)]
  constructor
  ·rintro((h|h)|⟨p,h1,h2⟩)
   ·exact .inl h
   ·exact .inr ⟨a,aab ..,h⟩
   ·exact .inr ⟨p,aai _ h1,h2⟩
  ·rintro(h|⟨p,h1,h2⟩)
   ·exact .inl (.inl h)
   ·rcases aaq.1 h1 with rfl|h1
    ·exact .inl (.inr h2)
    ·exact .inr ⟨p,h1,h2⟩
theorem oI {s i q:Nat} {one:Bool}:(qo s i one).testBit q=true↔q<256∧s.testBit q=true∧q.testBit i=one:=by
 unfold qo
 rw[uQ (hit:=λp q=>p.toNat.testBit i=one∧q=p.toNat)]
 ·simp only[aaF,abq,false_or]
  constructor
  ·rintro⟨p,hp,h1,h2⟩
   obtain⟨k,h3,h4,rfl⟩:=jw.1 hp
   rw[so]at h1 h2
   subst h2
   exact⟨h3,h4,h1⟩
  ·rintro⟨h1,h2,h3⟩
   exact⟨(q:Int),jw.2 ⟨q,h1,h2,rfl⟩,by simpa using h3,by simp⟩
 ·intro o p hp q
  obtain⟨k,h3,h4,rfl⟩:=jw.1 hp
  have e:(decide ((k:Int).toNat/2^i%2=1)==one)=true↔k.testBit i=one:=by
   rw[so,←kC]
   cases k.testBit i<;>cases one<;>simp
  rw[so]at e ⊢
  by_cases hk:k.testBit i=one
  ·rw[if_pos (e.2 hk),oO h3]
   simp[hk,or_comm]
  all_goals grind
def kN (l:List Int) (h i k:Nat):Nat:=(l.take k).foldl (λo p=>mX o ((p.toNat ^^^ 2^i:Nat):Int)) h
def cQ (s i:Nat) (one:Bool):Nat:=kN (d7 (qo s i one)) (qo s i one) i (d7 (qo s i one)).length
theorem wA {l:List Int} {h i k:Nat} (hk:k<l.length):kN l h i (k+1)=mX (kN l h i k) (((l.getD k 0).toNat ^^^ 2^i:Nat):Int):=by
 grind [kN,List.take_succ_eq_append_getElem,List.getElem?_eq_getElem]
theorem fO {s i p:Nat} {one:Bool} (hi:i<8):(cQ s i one).testBit p=true↔p<256∧s.testBit (s5 p i one)=true:=by
 unfold cQ kN
 rw[aan,uQ (hit:=λx q=>q=x.toNat ^^^ 2^i)]
 ·rw[oI]
  constructor
  ·rintro(⟨h1,h2,h3⟩|⟨x,hx,rfl⟩)
   ·exact⟨h1,by rw[lM h3];exact h2⟩
   ·obtain⟨k,h3,h4,rfl⟩:=jw.1 hx
    obtain⟨_,h5,h6⟩:=oI.1 h4
    rw[so]
    exact⟨Ei i hi k h3,by rw[qT,if_pos rfl,lM h6];exact h5⟩
  ·rintro⟨h1,h2⟩
   by_cases h3:p.testBit i=one
   ·exact .inl ⟨h1,by rwa [lM h3]at h2,h3⟩
   ·refine .inr ⟨((p ^^^ 2^i:Nat):Int),jw.2 ⟨p ^^^ 2^i,Ei i hi p h1,?_,rfl⟩,?_⟩
    ·have e:s5 p i one=p ^^^ 2^i:=if_neg h3
     rw[e]at h2
     refine oI.2 ⟨Ei i hi p h1,h2,?_⟩
     rw[sm,if_pos rfl]
     cases hp:p.testBit i<;>cases one<;>simp_all
    ·rw[so,Nat.xor_assoc,Nat.xor_self,Nat.xor_zero]
 ·intro o x hx q
  obtain⟨k,h3,h4,rfl⟩:=jw.1 hx
  rw[so,oO (Ei i hi k h3)]
  simp[or_comm]
theorem gx {s i p:Nat} {one:Bool} (hi:i<8) (hp:p<256):(cQ s i one).testBit p=s.testBit (s5 p i one):=by
 rw[aaA,fO hi]
 simp[hp]
def z8 (s t:Nat):Bool:=decide (wd s 0=wd t 0∧wd s 1=wd t 1∧wd s 2=wd t 2∧wd s 3=wd t 3)
theorem se {s t:Nat}:z8 s t=true↔∀p,p<256→s.testBit p=t.testBit p:=by
 unfold z8
 rw[decide_eq_true_eq]
 constructor
 ·rintro⟨h0,h1,h2,h3⟩ p hp
  have key:∀i,wd s i=wd t i→p/64=i→s.testBit p=t.testBit p:=λi h e=>by
   have h5:=congrArg (λx=>x.testBit (p%64)) h
   simp only[jn]at h5
   have e2:64*i+p%64=p:=by omega
   rw[e2]at h5
   simpa [aaS] using h5
  have:p/64=0∨p/64=1∨p/64=2∨p/64=3:=by omega
  rcases this with e|e|e|e
  ·exact key 0 h0 e
  ·exact key 1 h1 e
  ·exact key 2 h2 e
  ·exact key 3 h3 e
 all_goals grind [NE]
def iV (i one:Nat) (c:Cb):Cb:=⟨c.m ||| 1*2^i,c.v ||| one*2^i⟩
def uN (n:Nat) (on0 on1:Nat) (a b:List Cb):Nat:=(0 ||| andNot on0 (lP a n a.length)) ||| andNot on1 (lP b n b.length)
def eC (n:Nat):Nat→Nat→Nat→Nat→List Cb
 |0,_,_,_=>[]
 |f+1,on,may,i=>
  if z8 on 0=true then []else if z8 may (fh n)=true then [⟨0,0⟩]else
  let a:=eC n f (andNot (cQ on i false) (cQ may i true)) (cQ may i false) (i+1)
  let b:=eC n f (andNot (cQ on i true) (cQ may i false)) (cQ may i true) (i+1)
  (a.map (iV i 0)++b.map (iV i 1))++eC n f (uN n (cQ on i false) (cQ on i true) a b) (cQ may i false &&& cQ may i true) (i+1)
structure n6 (n on may i:Nat):Prop where
 le:i≤n
 sub:∀p,p<256→on.testBit p=true→may.testBit p=true
 out:∀p,p<256→may.testBit p=true→p<2^n
 free:∀p j,p<256→j<i→on.testBit (p ^^^ 2^j)=on.testBit p
 freeM:∀p j,p<256→j<i→may.testBit (p ^^^ 2^j)=may.testBit p
theorem KX {n on may:Nat} (h:∀p,p<256→on.testBit p=true→may.testBit p=true) (k:∀p,p<256→may.testBit p=true→p<2^n):n6 n on may 0:=
 ⟨my _,h,k,λ_ j _ hj=>absurd hj (Nat.not_lt_zero j),λ_ j _ hj=>absurd hj (Nat.not_lt_zero j)⟩
theorem DE {s:Nat}:∀(n:Nat),(∀p j,p<2^n→j<n→s.testBit (p ^^^ 2^j)=s.testBit p)→∀p,p<2^n→s.testBit p=s.testBit 0
 |0,_,p,hp=>by
  have:p=0:=by simpa using hp
  rw[this]
 |n+1,h,p,hp=>by
  have hle:2^n≤2^(n+1):=aaf (by decide) (by omega)
  have ih:=DE n λp j hp hj=>h p j (aao hp hle) (by omega)
  by_cases hb:p.testBit n=true
  ·rw[←h p n hp (by omega)]
   refine ih _ (gz.2 λj hj=> ?_)
   rw[sm]
   split
   ·rename_i e;subst e;rw[hb];rfl
   ·exact gz.1 hp j (by omega)
  ·refine ih p (gz.2 λj hj=> ?_)
   by_cases e:j=n
   ·subst e;simpa using hb
   ·exact gz.1 hp j (by omega)
theorem fY {n:Nat} (h:n≤8):2^n≤256:=by
 have:2^n≤2^8:=aaf (by decide) h
 simpa using this
theorem n6.end {n on may:Nat} (h8:n≤8) (h:n6 n on may n):z8 on 0=true∨z8 may (fh n)=true:=by
 have hp:=fY h8
 have h1:=DE n λp j hq hj=>h.freeM p j (by omega) hj
 by_cases h0:may.testBit 0=true
 ·right
  rw[se]
  intro p hp2
  rw[fw]
  by_cases hpn:p<2^n
  ·rw[h1 p hpn,h0];simp[hpn]
  ·cases hm:may.testBit p with
   |false=>simp[hpn]
   |true=>exact absurd (h.out p hp2 hm) hpn
 ·left
  rw[se]
  intro p hp2
  rw[aaF]
  refine aah.2 λho=> ?_
  have hm:=h.sub p hp2 ho
  exact h0 (by rw[←h1 p (h.out p hp2 hm)];exact hm)
def hold (c:Cb) (p:Nat):Prop:=p &&& c.m=c.v
theorem Ef {c:Cb} {p:Nat}:hold c p↔∀j,(p.testBit j&&c.m.testBit j)=c.v.testBit j:=by
 unfold hold
 constructor
 ·intro h j;rw[←h,aad]
 ·intro h;exact Z7 λj=>by rw[aad];exact h j
theorem Fu {c:Cb} {p j:Nat} (h:c.m.testBit j=false):hold c (p ^^^ 2^j)↔hold c p:=by
 grind [Ef,sm]
theorem zp {c:Cb} {p i:Nat} {one:Bool} (h:c.m.testBit i=false):hold c (s5 p i one)↔hold c p:=by
 unfold s5
 split
 ·exact Iff.rfl
 ·exact Fu h
theorem ka (c:Cb) (i one j:Nat):(iV i one c).m.testBit j=(c.m.testBit j||decide (j=i)):=by
 show (c.m ||| 1*2^i).testBit j=_
 grind
theorem oE (c:Cb) (i j:Nat):(iV i 0 c).v.testBit j=c.v.testBit j:=by
 show (c.v ||| 0*2^i).testBit j=_
 grind
theorem od (c:Cb) (i j:Nat):(iV i 1 c).v.testBit j=(c.v.testBit j||decide (j=i)):=by
 show (c.v ||| 1*2^i).testBit j=_
 grind
theorem uV {c:Cb} {i p one:Nat} (h1:one=0∨one=1) (hv:c.v &&& c.m=c.v) (h:c.m.testBit i=false):hold (iV i one c) p↔p.testBit i=decide (one=1)∧hold c p:=by
 have hvi:c.v.testBit i=false:=by rw[eU hv,h,aaB]
 grind [Ef,ka,oE,od]
def jC (n may i:Nat) (l:List Cb):Prop:=∀c,c∈l→c.m<2^n∧c.v &&& c.m=c.v∧(∀j,j<i→c.m.testBit j=false)∧∀p,p<2^n→hold c p→may.testBit p=true
def IB (n on:Nat) (l:List Cb):Prop:=∀p,p<2^n→on.testBit p=true→∃c,c∈l∧hold c p
theorem si {l:List Cb} {n:Nat} (hn:n≤8) (p:Nat):(lP l n l.length).testBit p=true↔p<2^n∧∃c,c∈l∧hold c p:=by
 rw[ug hn]
 constructor
 ·rintro⟨j,hj,h1,h2⟩
  exact⟨h1,_,dy hj,h2⟩
 ·rintro⟨h1,c,hc,h2⟩
  obtain⟨j,hj,rfl⟩:=eZ (d:=⟨0,0⟩) hc
  exact⟨j,hj,h1,h2⟩
section
variable {n on may i:Nat}
theorem n6.side (h8:n≤8) (h:n6 n on may i) (hi:i<n) (x:Bool):n6 n (andNot (cQ on i x) (cQ may i (!x))) (cQ may i x) (i+1):=by
 have hi8:i<8:=by omega
 refine⟨hi,λp hp hq=> ?_,λp hp hq=> ?_,λp j hp hj=> ?_,λp j hp hj=> ?_⟩
 ·rw[dU,we]at hq
  obtain⟨h1,h2⟩:=(fO hi8).1 hq.1
  exact(fO hi8).2 ⟨hp,h.sub _ ((lH (n:=8) hi8).2 hp) h2⟩
 ·obtain⟨h1,h2⟩:=(fO hi8).1 hq
  exact(lH hi).1 (h.out _ ((lH (n:=8) hi8).2 hp) h2)
 ·have hpj:p ^^^ 2^j<256:=Ei j (by omega) p hp
  simp only[dU,gx hi8 hp,gx hi8 hpj,qT]
  split
  ·rfl
  ·rename_i hne
   have hlt:∀y,s5 p i y<256:=λy=>(lH (n:=8) hi8).2 hp
   rw[h.free _ j (hlt _) (by omega),h.freeM _ j (hlt _) (by omega)]
 ·have hpj:p ^^^ 2^j<256:=Ei j (by omega) p hp
  simp only[gx hi8 hp,gx hi8 hpj,qT]
  split
  ·rfl
  ·rename_i hne
   have hlt:∀y,s5 p i y<256:=λy=>(lH (n:=8) hi8).2 hp
   rw[h.freeM _ j (hlt _) (by omega)]
theorem kh {on0 on1:Nat} {a b:List Cb} {p:Nat}:(uN n on0 on1 a b).testBit p=((on0.testBit p&& !(lP a n a.length).testBit p)||(on1.testBit p&& !(lP b n b.length).testBit p)):=by
 grind [uN,dU]
theorem F5 {l:List Cb} {j p:Nat} (h8:n≤8) (hj:j<n) (h:∀c,c∈l→c.m.testBit j=false):(lP l n l.length).testBit (p ^^^ 2^j)=(lP l n l.length).testBit p:=by
 rw[aaA,si h8,si h8]
 have hlt:p ^^^ 2^j<2^n↔p<2^n:=by
  constructor
  ·intro h2
   have:=Dm hj h2
   rwa [Nat.xor_assoc,Nat.xor_self,Nat.xor_zero]at this
  ·exact Dm hj
 grind [Fu]
theorem n6.rest (h8:n≤8) (h:n6 n on may i) (hi:i<n) {a b:List Cb} (ha:jC n (cQ may i false) (i+1) a) (hb:jC n (cQ may i true) (i+1) b)
  (ca:IB n (andNot (cQ on i false) (cQ may i true)) a) (cb:IB n (andNot (cQ on i true) (cQ may i false)) b):
  n6 n (uN n (cQ on i false) (cQ on i true) a b) (cQ may i false &&& cQ may i true) (i+1):=by
 have hi8:i<8:=by omega
 have hlt:∀p y,p<256→s5 p i y<256:=λp y hp=>(lH (n:=8) hi8).2 hp
 refine⟨hi,λp hp hq=> ?_,λp hp hq=> ?_,λp j hp hj=> ?_,λp j hp hj=> ?_⟩
 ·rw[kh,aaU,we,we]at hq
  rw[aad,we]
  have one:∀(x:Bool) (l:List Cb),(cQ on i x).testBit p=true→(!(lP l n l.length).testBit p)=true→IB n (andNot (cQ on i x) (cQ may i (!x))) l→(cQ may i x).testBit p=true∧(cQ may i (!x)).testBit p=true:=by
   intro x l h1 h2 hc
   have hm:(cQ may i x).testBit p=true:=by
    rw[gx hi8 hp]at h1 ⊢
    exact h.sub _ (hlt p x hp) h1
   refine⟨hm,Classical.byContradiction λhn=> ?_⟩
   have hpn:p<2^n:=by
    rw[gx hi8 hp]at hm
    exact(lH hi).1 (h.out _ (hlt p x hp) hm)
   have:=hc p hpn (by rw[dU,h1,aah.2 hn];rfl)
   rw[(si h8 p).2 ⟨hpn,this⟩]at h2
   cases h2
  rcases hq with ⟨h1,h2⟩|⟨h1,h2⟩
  ·exact one false a h1 h2 ca
  ·exact(one true b h1 h2 cb).symm
 ·rw[aad,we]at hq
  obtain⟨h1,h2⟩:=(fO hi8).1 hq.1
  exact(lH hi).1 (h.out _ (hlt p _ hp) h2)
 ·have hpj:p ^^^ 2^j<256:=Ei j (by omega) p hp
  rw[kh,kh,F5 h8 (by omega) (λc hc=>(ha c hc).2.2.1 j hj),F5 h8 (by omega) (λc hc=>(hb c hc).2.2.1 j hj)]
  simp only[gx hi8 hp,gx hi8 hpj,qT]
  split
  ·rfl
  ·rename_i hne
   rw[h.free _ j (hlt p _ hp) (by omega),h.free _ j (hlt p _ hp) (by omega)]
 ·have hpj:p ^^^ 2^j<256:=Ei j (by omega) p hp
  simp only[aad,gx hi8 hp,gx hi8 hpj,qT]
  split
  ·rfl
  ·rename_i hne
   rw[h.freeM _ j (hlt p _ hp) (by omega),h.freeM _ j (hlt p _ hp) (by omega)]
theorem Fs {a:List Cb} {one:Nat} {c:Cb}:c∈a.map (iV i one)↔∃d,d∈a∧iV i one d=c:=aag
theorem Ix (h8:n≤8) (hi:i<n) {a:List Cb} {one:Nat} {x:Bool} (h1:(one=0∧x=false)∨(one=1∧x=true)) (ha:jC n (cQ may i x) (i+1) a) (_hf:∀p j,p<256→j<i→may.testBit (p ^^^ 2^j)=may.testBit p):
  jC n may i (a.map (iV i one)):=by
 intro c hc
 obtain⟨d,hd,rfl⟩:=Fs.1 hc
 obtain⟨k1,k2,k3,k4⟩:=ha d hd
 have ho:one=0∨one=1:=h1.elim (λh=> .inl h.1) (λh=> .inr h.1)
 have hx:x=decide (one=1):=by rcases h1 with ⟨rfl,rfl⟩|⟨rfl,rfl⟩<;>rfl
 refine⟨gz.2 λj hj=> ?_,Z7 λj=> ?_,λj hj=> ?_,λp hp hh=> ?_⟩
 ·rw[ka,gz.1 k1 j hj,decide_eq_false (by omega)];rfl
 ·rw[aad,ka]
  have hvb:=eU k2 j
  rcases ho with rfl|rfl
  ·rw[oE,hvb];cases d.v.testBit j<;>cases d.m.testBit j<;>simp
  ·rw[od,hvb];cases d.v.testBit j<;>cases d.m.testBit j<;>simp
 ·rw[ka,k3 j (by omega),decide_eq_false (by omega)];rfl
 all_goals grind [uV,Nat.lt_of_lt_of_le,fY,gx,lM]
theorem jC.app {a b:List Cb} (ha:jC n may i a) (hb:jC n may i b):jC n may i (a++b):=λc hc=>(Z6.1 hc).elim (ha c) (hb c)
theorem lk (h8:n≤8):∀(f on may i:Nat),n6 n on may i→n+1-i≤f→jC n may i (eC n f on may i)∧IB n on (eC n f on may i)
 |0,on,may,i,h,hf=>by have:=h.le;omega
 |f+1,on,may,i,h,hf=>by
  rw[eC]
  split
  ·rename_i h0
   rw[se]at h0
   refine⟨λc hc=>(nomatch hc),λp hp ho=> ?_⟩
   rw[h0 p (aao hp (fY h8)),aaF]at ho
   cases ho
  ·rename_i h0
   split
   ·rename_i h1
    rw[se]at h1
    refine⟨λc hc=> ?_,λp hp ho=>⟨⟨0,0⟩,by simp,by simp[hold]⟩⟩
    rw[Z8]at hc
    subst hc
    refine⟨aaz n,rfl,λj _=>aaF j,λp hp _=> ?_⟩
    rw[h1 p (aao hp (fY h8)),fw]
    simp[hp]
   ·rename_i h1
    have hi:i<n:=Nat.lt_of_le_of_ne h.le λe=>by
     subst e
     rcases h.end h8 with h2|h2
     ·exact h0 h2
     ·exact h1 h2
    have hi8:i<8:=by omega
    dsimp only
    obtain⟨a1,a2⟩:=lk h8 f _ _ _ (h.side h8 hi false) (by omega)
    obtain⟨b1,b2⟩:=lk h8 f _ _ _ (h.side h8 hi true) (by omega)
    simp only[Bool.not_false,Bool.not_true]at a1 a2 b1 b2
    generalize eC n f (andNot (cQ on i false) (cQ may i true)) (cQ may i false) (i+1)=a at*
    generalize eC n f (andNot (cQ on i true) (cQ may i false)) (cQ may i true) (i+1)=b at*
    obtain⟨c1,c2⟩:=lk h8 f _ _ _ (h.rest h8 hi a1 b1 a2 b2) (by omega)
    generalize eC n f (uN n (cQ on i false) (cQ on i true) a b) (cQ may i false &&& cQ may i true) (i+1)=c at*
    refine⟨jC.app (jC.app (Ix h8 hi (.inl ⟨rfl,rfl⟩) a1 h.freeM) (Ix h8 hi (.inr ⟨rfl,rfl⟩) b1 h.freeM)) λd hd=> ?_,λp hp ho=> ?_⟩
    ·obtain⟨k1,k2,k3,k4⟩:=c1 d hd
     refine⟨k1,k2,λj hj=>k3 j (by omega),λp hp hh=> ?_⟩
     have hp8:p<256:=aao hp (fY h8)
     have:=k4 p hp hh
     rw[aad,gx hi8 hp8,gx hi8 hp8,we]at this
     cases hb:p.testBit i with
     |false=>rw[lM hb]at this;exact this.1
     |true=>rw[lM hb]at this;exact this.2
    ·have hp8:p<256:=aao hp (fY h8)
     have key:∀(x:Bool) (one:Nat) (l:List Cb),p.testBit i=x→((one=0∧x=false)∨(one=1∧x=true))→jC n (cQ may i x) (i+1) l→
       ((lP l n l.length).testBit p=true→∃d,d∈l.map (iV i one)∧hold d p):=by
      intro x one l hb h1 hl hpt
      obtain⟨_,d,hd,hh⟩:=(si h8 p).1 hpt
      have ho:one=0∨one=1:=h1.elim (λh=> .inl h.1) (λh=> .inr h.1)
      have hx:x=decide (one=1):=by rcases h1 with ⟨rfl,rfl⟩|⟨rfl,rfl⟩<;>rfl
      obtain⟨k1,k2,k3,k4⟩:=hl d hd
      exact⟨_,Fs.2 ⟨d,hd,rfl⟩,(uV ho k2 (k3 i (by omega))).2 ⟨by rw[hb,hx],hh⟩⟩
     cases hb:p.testBit i with
     |false=>
      have hon:(cQ on i false).testBit p=true:=by rw[gx hi8 hp8,lM hb];exact ho
      by_cases hpt:(lP a n a.length).testBit p=true
      ·obtain⟨d,hd,hh⟩:=key false 0 a hb (.inl ⟨rfl,rfl⟩) a1 hpt
       exact⟨d,by simp only[Z6];exact .inl (.inl hd),hh⟩
      ·obtain⟨d,hd,hh⟩:=c2 p hp (by rw[kh,hon,aah.2 hpt];rfl)
       exact⟨d,by simp only[Z6];exact .inr hd,hh⟩
     |true=>
      have hon:(cQ on i true).testBit p=true:=by rw[gx hi8 hp8,lM hb];exact ho
      by_cases hpt:(lP b n b.length).testBit p=true
      ·obtain⟨d,hd,hh⟩:=key true 1 b hb (.inr ⟨rfl,rfl⟩) b1 hpt
       exact⟨d,by simp only[Z6];exact .inl (.inr hd),hh⟩
      ·obtain⟨d,hd,hh⟩:=c2 p hp (by rw[kh,hon,aah.2 hpt];simp)
       exact⟨d,by simp only[Z6];exact .inr hd,hh⟩
theorem ji:∀(f on may i:Nat),(eC n f on may i).length≤3^f
 |0,_,_,_=>by simp[eC]
 |f+1,on,may,i=>by
  rw[eC]
  have h3:3^(f+1)=3^f+3^f+3^f:=by rw[aa4];omega
  have h0:0<3^f:=Nat.pow_pos (by decide)
  split
  ·simp
  ·split
   ·simp;omega
   ·have h4:=ji f (andNot (cQ on i false) (cQ may i true)) (cQ may i false) (i+1)
    have h5:=ji f (andNot (cQ on i true) (cQ may i false)) (cQ may i true) (i+1)
    simp only[An,aaD]
    generalize eC n f (andNot (cQ on i false) (cQ may i true)) (cQ may i false) (i+1)=a at*
    generalize eC n f (andNot (cQ on i true) (cQ may i false)) (cQ may i true) (i+1)=b at*
    have h6:=ji f (uN n (cQ on i false) (cQ on i true) a b) (cQ may i false &&& cQ may i true) (i+1)
    omega
end
def nG (x y:Nat):Array Value:= #[wv x 0,wv x 1,wv x 2,wv x 3,wv y 0,wv y 1,wv y 2,wv y 3]
def oJ (s i k:Nat):Array Value:=nG (if 0<k then cQ s i false else 0) (if 1<k then cQ s i true else 0)
theorem FT (s i:Nat):(#[.int .u64 0, .int .u64 0, .int .u64 0, .int .u64 0, .int .u64 0, .int .u64 0, .int .u64 0, .int .u64 0]:Array Value)=oJ s i 0:=by
 simp[oJ,nG,wd]
theorem vX {w:World} {b s i:Nat} {T:TypeId} (h:At w b #[.int .u64 0, .int .u64 0, .int .u64 0, .int .u64 0, .int .u64 0, .int .u64 0, .int .u64 0, .int .u64 0] T):At w b (oJ s i 0) T:=by
 grind [FT]
theorem rA (s i k:Nat):(oJ s i k).size=8:=rfl
theorem tP {s i k:Nat} (hk:k<2):
  ((oJ s i k).toList.take (0+k*4)++(#[wv (cQ s i (decide ((k:Int)=1))) 0,wv (cQ s i (decide ((k:Int)=1))) 1,wv (cQ s i (decide ((k:Int)=1))) 2,wv (cQ s i (decide ((k:Int)=1))) 3]:Array Value).toList++
   (oJ s i k).toList.drop (0+k*4+(#[wv (cQ s i (decide ((k:Int)=1))) 0,wv (cQ s i (decide ((k:Int)=1))) 1,wv (cQ s i (decide ((k:Int)=1))) 2,wv (cQ s i (decide ((k:Int)=1))) 3]:Array Value).toList.length)).toArray=oJ s i (k+1):=by
 have:k=0∨k=1:=by omega
 rcases this with rfl|rfl<;>rfl
theorem xc {s t:Nat} (h:((wd s 0:Nat):Int)=((wd t 0:Nat):Int)∧((wd s 1:Nat):Int)=((wd t 1:Nat):Int)∧((wd s 2:Nat):Int)=((wd t 2:Nat):Int)∧((wd s 3:Nat):Int)=((wd t 3:Nat):Int)):z8 s t=true:=by
 unfold z8
 grind
theorem vf {s t:Nat} (h:z8 s t=true):((wd s 0:Nat):Int)=((wd t 0:Nat):Int)∧((wd s 1:Nat):Int)=((wd t 1:Nat):Int)∧((wd s 2:Nat):Int)=((wd t 2:Nat):Int)∧((wd s 3:Nat):Int)=((wd t 3:Nat):Int):=by
 unfold z8 at h
 grind
theorem Sm {n on may i:Nat} (h8:n≤8) (h:n6 n on may i) (h0:¬z8 on 0=true) (h1:¬z8 may (fh n)=true):i<n:=Nat.lt_of_le_of_ne h.le λe=>by
 subst e
 rcases h.end h8 with h2|h2
 ·exact h0 h2
 ·exact h1 h2
theorem Er {l:List Cb} {i q k:Nat} (h:k<l.length):(l.take (k+1)).map (iV i q)=(l.take k).map (iV i q)++[iV i q (l.getD k ⟨0,0⟩)]:=by
 grind [List.take_succ_eq_append_getElem,List.getElem?_eq_getElem]
theorem PN {s k:Nat} {i:Int} {one:Bool} {H:Nat} (h:(if 0≤i∧i<8 then qo s i.toNat one else 0)=H) (hk:(k:Int)<((d7 H).length:Int)):0≤i∧i<8:=by
 refine Classical.byContradiction λhn=> ?_
 rw[if_neg hn]at h
 subst h
 have e:d7 0=[]:=by simp[d7]
 grind
theorem MB {s:Nat} {i:Int} {one:Bool} {H:Nat} (h:(if 0≤i∧i<8 then qo s i.toNat one else 0)=H):kN (d7 H) H i.toNat (d7 H).length=if 0≤i∧i<8 then cQ s i.toNat one else 0:=by
 split at h
 ·rename_i hi
  rw[if_pos hi,cQ,h]
 ·rename_i hi
  rw[if_neg hi]
  subst h
  have e:d7 0=[]:=by simp[d7]
  rw[e];rfl
theorem KH {s:Nat} {n:Int} {c d:Cb} (h:imp s n d) (hr:dC c.m c.v n=true) (hh:jx d c=true):imp s n c:=by
 grind [gm,mD,dw]
theorem KJ {c d:Cb} {i:Nat} (hi:i<8) (h:jx c d=true):jx (jF c i) (jF d i)=true:=by
 rw[nF]at h ⊢
 intro j hj
 have hj':(lI c.m (i:Int)).testBit j=true:=hj
 rw[fz hi,we]at hj'
 grind [jF,lI,fz]
theorem D7 {s:Nat} {n:Int} {c:Cb} (h:imp s n c):∀i:Nat,(i:Int)≤n→imp s n (eY s n c i)∧jx (eY s n c i) c=true∧∀j,j<i→(eY s n c i).m.testBit j=true→¬imp s n (jF (eY s n c i) j)
 |0,_=>⟨h,HL c,λj hj=>absurd hj (Nat.not_lt_zero j)⟩
 |i+1,hi=>by
  obtain⟨h1,h2,h3⟩:=D7 h i (by omega)
  obtain⟨h0,h8,_,_⟩:=dw.1 (gm.1 h).1
  by_cases hw:imp s n (jF (eY s n c i) i)
  ·have e:eY s n c (i+1)=jF (eY s n c i) i:=DF hw
   rw[e]
   have hho:jx (jF (eY s n c i) i) (eY s n c i)=true:=OO (by omega)
   refine⟨hw,D4 hho h2,λj hj hm=> ?_⟩
   have hm':(lI (eY s n c i).m (i:Int)).testBit j=true:=hm
   rw[fz (by omega),we,decide_eq_true_eq]at hm'
   intro hn
   refine h3 j (by omega) hm'.1 (KH hn (Fl (gm.1 h1).1) (KJ (by omega) hho))
  ·have e:eY s n c (i+1)=eY s n c i:=Eg (aah.2 hw)
   rw[e]
   refine⟨h1,h2,λj hj hm=> ?_⟩
   rcases aac.1 hj with hj|rfl
   ·exact h3 j hj hm
   ·exact hw
theorem tj {s:Nat} {n:Int} {c:Cb} (h:imp s n c):iD (lK s n c).m (lK s n c).v s n=true∧jx (lK s n c) c=true:=by
 obtain⟨h0,h8,_,_⟩:=dw.1 (gm.1 h).1
 obtain⟨h1,h2,h3⟩:=D7 h n.toNat (by omega)
 refine⟨gy.2 ⟨h1,λi hi=> ?_⟩,h2⟩
 unfold lC
 rw[Bool.and_eq_false_iff]
 by_cases hm:(lK s n c).m.testBit i=true
 ·exact .inr (aah.2 (h3 i hi hm))
 all_goals grind
def kz (s:Nat) (n:Int) (l:List Cb):Nat→List Cb
 |0=>[]
 |k+1=>ja (kz s n l k) (lK s n (l.getD k ⟨0,0⟩))
abbrev Gk (s:Nat) (n:Int) (l:List Cb):List Cb:=kz s n l l.length
theorem qG (s:Nat) (n:Int) (l:List Cb):∀k,(kz s n l k).length≤k
 |0=>by simp[kz]
 |k+1=>an (rt _ _) (by have:=qG s n l k;omega)
theorem rp {s:Nat} {n:Int} {l:List Cb} {c:Cb}:∀k,c∈kz s n l k↔∃j,j<k∧c=lK s n (l.getD j ⟨0,0⟩)
 |0=>by simp[kz]
 |k+1=>by
  rw[kz,gt,rp k]
  constructor
  ·rintro(⟨j,hj,h⟩|h)
   ·exact⟨j,by omega,h⟩
   ·exact⟨k,by omega,h⟩
  ·rintro⟨j,hj,h⟩
   rcases aac.1 hj with hj|rfl
   ·exact .inl ⟨j,hj,h⟩
   ·exact .inr h
end
section
open Go Go.RowKit
theorem JV {α:Type} {enc:α→List Value} {sz:Nat} {T:TypeId} {ok:Bool} {e1:Int} {L:List α} {v:Value} {w':World} {N:Nat} (h:if ok=true then ∃x,v= .tuple #[x, .int .i64 0]∧cD enc sz T w' N x L else v= .tuple #[.slice none 0 0, .int .i64 e1]):
  ∃(x:Value) (er:Int) (l:List α),v= .tuple #[x, .int .i64 er]∧cD enc sz T w' N x l∧((ok=true∧er=0∧l=L)∨(ok=false∧er=e1∧l=[])):=by
 by_cases ho:ok=true
 ·rw[if_pos ho]at h
  obtain⟨x,h1,h2⟩:=h
  exact⟨x,0,_,h1,h2, .inl ⟨ho,rfl,rfl⟩⟩
 ·rw[if_neg ho]at h
  exact⟨_,e1,[],h,cD.nil, .inr ⟨by simpa using ho,rfl,rfl⟩⟩
def Bk (on may:Nat) (n:Int):Bool:=xz may n&&eO on may
theorem kB {on may:Nat} {n:Int}:Bk on may n=true↔xz may n=true∧eO on may=true:=by unfold Bk;rw[we]
theorem SC {on may sa:Nat} {n er:Int} (h:(0≤n∧n≤8∧sa=fh n.toNat∧er=0)∨(¬(0≤n∧n≤8)∧er=1)) (h0:¬er=0):¬Bk on may n=true:=λhk=>JO h h0 (kB.1 hk).1
theorem RZ {on may:Nat} {n:Int} (h:(!eO on may)=true):¬Bk on may n=true:=by grind [kB]
theorem QR {on may sa:Nat} {n er:Int} (h:(0≤n∧n≤8∧sa=fh n.toNat∧er=0)∨(¬(0≤n∧n≤8)∧er=1)) (h0:¬¬er=0) (hw:(!eO may sa)=true):¬Bk on may n=true:=λhk=>Ji h h0 hw (kB.1 hk).1
theorem Wd {on may sa:Nat} {n er:Int} (h:(0≤n∧n≤8∧sa=fh n.toNat∧er=0)∨(¬(0≤n∧n≤8)∧er=1)) (h0:¬¬er=0) (h1:(!eO on may)=false) (hw:(!eO may sa)=false):Bk on may n=true:=
 kB.2 ⟨Nk h h0 hw,by simpa using h1⟩
theorem Cs {on may:Nat} {n:Nat} (h:Bk on may (n:Int)=true):n≤8∧n6 n on may 0:=by
 grind [kB,kV,eO,fh,xz,decide_eq_true,KX,d4,fw]
abbrev j1 (on may:Nat) (n:Int):List Cb:=eC n.toNat (n.toNat+1) on may 0
theorem T8 {n:Nat} (h:n≤8):3^(n+1)≤19683:=by
 have:3^(n+1)≤3^9:=aaf (by decide) (by omega)
 simpa using this
theorem Eo {on may:Nat} {n:Int} (h:n≤8):(j1 on may n).length≤19683:=by grind [Nat.le_trans,ji,T8]
theorem xO {on may:Nat} {n:Int} (h:Bk on may n=true) {c:Cb} (hc:c∈j1 on may n):sR c.m c.v may n=true∧c.m<256∧c.v<256∧c.v &&& c.m=c.v:=by
 obtain⟨h0,h8⟩:=kV (kB.1 h).1
 obtain⟨n,rfl⟩:=aau h0
 obtain⟨h8',hg⟩:=Cs h
 obtain⟨k1,k2,k3,k4⟩:=(lk h8' (n+1) on may 0 hg (by omega)).1 c hc
 have hp:=fY h8'
 have hle:c.v≤c.m:=by rw[←k2];exact abm
 refine⟨gm.2 ⟨dw.2 ⟨h0,h8,k1,k2⟩,λp hp hh=>k4 p hp hh⟩,by omega,by omega,k2⟩
theorem xZ {α:Type} [DecidableEq α] {l:List α} {k:α} (h:k∈l):ja l k=l:=if_pos h
theorem EA {α:Type} [DecidableEq α] {l:List α} {k:α} (h:k∉l):ja l k=l++[k]:=if_neg h
theorem UD {ok:Bool} {er:Int} {l L:List Cb} (h:(ok=true∧er=0∧l=L)∨(ok=false∧er=1∧l=[])) (h0:¬er=0):¬ok=true∧er=1:=by
 grind
theorem OG {ok:Bool} {er:Int} {l L:List Cb} (h:(ok=true∧er=0∧l=L)∨(ok=false∧er=1∧l=[])) (h0:¬¬er=0):ok=true∧l=L:=by
 grind
end
section
open Go Go.RowKit
structure Sp where
 n:Int
 on:List Nat
 may:List Nat
def Bh (S:Sp) (k:Nat):Nat:=S.on.getD k 0
def kM (S:Sp) (k:Nat):Nat:=S.may.getD k 0
def dq (S:Sp):Bool:=
 decide (0≤S.n)&&(decide (S.n≤8)&&(decide (1≤S.on.length)&&(decide (S.on.length≤4)&&(decide (S.on.length=S.may.length)&&
  (List.range S.on.length).all λk=>eO (Bh S k) (kM S k)&&eO (kM S k) (fh S.n.toNat)))))
theorem dD {S:Sp}:dq S=true↔0≤S.n∧S.n≤8∧1≤S.on.length∧S.on.length≤4∧S.on.length=S.may.length∧∀k,k<S.on.length→eO (Bh S k) (kM S k)=true∧eO (kM S k) (fh S.n.toNat)=true:=by
 unfold dq
 grind
theorem xU {S:Sp} (h:¬(0≤S.n∧S.n≤8∧1≤S.on.length∧S.on.length≤4∧S.on.length=S.may.length)):Value.bool false= .bool (dq S):=
 congrArg Value.bool (aah.2 λhr=>h (by
  obtain⟨h1,h2,h3,h4,h5,_⟩:=dD.1 hr
  exact⟨h1,h2,h3,h4,h5⟩)).symm
theorem IV {S:Sp} {k:Nat} (hk:k<S.on.length) (h:¬(eO (Bh S k) (kM S k)=true∧eO (kM S k) (fh S.n.toNat)=true)):Value.bool false= .bool (dq S):=
 congrArg Value.bool (aah.2 λhr=>h ((dD.1 hr).2.2.2.2.2 k hk)).symm
theorem Sf {S:Sp} (h:0≤S.n∧S.n≤8∧1≤S.on.length∧S.on.length≤4∧S.on.length=S.may.length) (hk:∀k,k<S.on.length→eO (Bh S k) (kM S k)=true∧eO (kM S k) (fh S.n.toNat)=true):Value.bool true= .bool (dq S):=by grind [dD]
def l5 (S:Sp) (c:Cb):Nat→Nat
 |0=>0
 |k+1=>if sR c.m c.v (kM S k) S.n=true then l5 S c k ||| 1*2^k else l5 S c k
abbrev qn (S:Sp) (c:Cb):Nat:=l5 S c S.may.length
theorem Vz {S:Sp} {c:Cb} {k:Nat} (h:sR c.m c.v (kM S k) S.n=true):l5 S c k ||| 1*2^k=l5 S c (k+1):=(if_pos h).symm
theorem VP {S:Sp} {c:Cb} {k:Nat} (h:sR c.m c.v (kM S k) S.n=false):l5 S c k=l5 S c (k+1):=(if_neg (by rw[h];decide)).symm
theorem jd {S:Sp} {c:Cb} {j:Nat}:∀k,(l5 S c k).testBit j=true↔j<k∧sR c.m c.v (kM S j) S.n=true
 |0=>by simp[l5]
 |k+1=>by
  rw[l5]
  split
  ·rename_i h
   rw[aap,aaP,aas,aaU,jd k,decide_eq_true_eq]
   constructor
   ·rintro(⟨h1,h2⟩|rfl)
    ·exact⟨by omega,h2⟩
    ·exact⟨by omega,h⟩
   ·rintro⟨h1,h2⟩
    rcases aac.1 h1 with h1|h1
    ·exact .inl ⟨h1,h2⟩
    ·exact .inr h1.symm
  ·rename_i h
   rw[jd k]
   constructor
   ·rintro⟨h1,h2⟩;exact⟨by omega,h2⟩
   ·rintro⟨h1,h2⟩
    rcases aac.1 h1 with h1|rfl
    ·exact⟨h1,h2⟩
    ·exact absurd h2 h
theorem vS (S:Sp) (c:Cb) (k:Nat):l5 S c k<2^k:=gz.2 λj hj=>aah.2 λh=>by
 have:=((jd k).1 h).1
 omega
theorem OA {k:Nat} (h:k≤4):2^k≤16:=by
 have h2:2^k≤2^4:=aaf (by decide) h
 simpa using h2
def qw (S:Sp) (x:Rw):Bool:=dq S&&(decide (0<x.o)&&decide (andNot x.o (qn S x.c)=0))
theorem yU {a b:Nat}:andNot a b=0↔∀j,a.testBit j=true→b.testBit j=true:=by
 constructor
 ·intro h j hj
  have h2:=congrArg (λx=>x.testBit j) h
  simp only[dU,aaF,hj,aax]at h2
  simpa using h2
 ·intro h
  refine Z7 λj=> ?_
  grind [dU]
theorem ie {S:Sp} {x:Rw}:qw S x=true↔dq S=true∧0<x.o∧∀j,x.o.testBit j=true→j<S.may.length∧sR x.c.m x.c.v (kM S j) S.n=true:=by
 unfold qw
 rw[we,we,decide_eq_true_eq,decide_eq_true_eq,yU]
 grind [jd]
theorem rf {S:Sp} {x:Rw} (h:qw S x=true):x.o<2^S.may.length∧x.o<16:=by
 obtain⟨h1,_,h3⟩:=ie.1 h
 obtain⟨_,_,_,h4,h5,_⟩:=dD.1 h1
 have:x.o<2^S.may.length:=gz.2 λj hj=>aah.2 λhb=>by have:=(h3 j hb).1;omega
 grind [OA]
theorem sT {a:Nat} (h:0<a):∃j,a.testBit j=true:=Classical.byContradiction λhn=>by
 have:a=0:=Z7 λj=>by rw[aaF];exact aah.2 λhb=>hn ⟨j,hb⟩
 omega
theorem CI {a j:Nat} (h:a.testBit j=true):0<a:=by grind
theorem gD {S:Sp} {x:Rw} (h:qw S x=true):dC x.c.m x.c.v S.n=true:=by
 grind [ie,sT,vV]
def tm (a b:Rw):Bool:=jx a.c b.c&&decide (andNot b.o a.o=0)
theorem pJ {a b:Rw}:tm a b=true↔jx a.c b.c=true∧∀j,b.o.testBit j=true→a.o.testBit j=true:=by
 unfold tm
 rw[we,decide_eq_true_eq,yU]
def lQ (S:Sp) (o:Nat):Nat→Nat
 |0=>fh S.n.toNat
 |k+1=>if o.testBit k=true then lQ S o k &&& kM S k else lQ S o k
abbrev gY (S:Sp) (o:Nat):Nat:=lQ S o S.may.length
theorem TS {S:Sp} {o k:Nat} (h:o.testBit k=true):lQ S o k &&& kM S k=lQ S o (k+1):=(if_pos h).symm
theorem TF {S:Sp} {o k:Nat} (h:¬o.testBit k=true):lQ S o k=lQ S o (k+1):=(if_neg h).symm
theorem md {S:Sp} {o p:Nat}:∀k,(lQ S o k).testBit p=true↔p<2^S.n.toNat∧∀j,j<k→o.testBit j=true→(kM S j).testBit p=true
 |0=>by simp[lQ,fw]
 |k+1=>by
  rw[lQ]
  split
  ·rename_i h
   rw[aad,we,md k]
   constructor
   ·rintro⟨⟨h1,h2⟩,h3⟩
    refine⟨h1,λj hj ho=> ?_⟩
    rcases aac.1 hj with hj|rfl
    ·exact h2 j hj ho
    ·exact h3
   ·rintro⟨h1,h2⟩
    exact⟨⟨h1,λj hj ho=>h2 j (by omega) ho⟩,h2 k (by omega) h⟩
  ·rename_i h
   rw[md k]
   constructor
   ·rintro⟨h1,h2⟩
    refine⟨h1,λj hj ho=> ?_⟩
    rcases aac.1 hj with hj|rfl
    ·exact h2 j hj ho
    ·exact absurd ho h
   ·rintro⟨h1,h2⟩
    exact⟨h1,λj hj ho=>h2 j (by omega) ho⟩
theorem M4 {S:Sp} (hr:dq S=true) (o:Nat):xz (gY S o) S.n=true:=by
 obtain⟨h0,h8,_⟩:=dD.1 hr
 unfold xz
 rw[decide_eq_true h0,decide_eq_true h8,aax,aax,d4]
 grind [fw,md]
theorem yX {S:Sp} {c:Cb} {o:Nat}:sR c.m c.v (gY S o) S.n=true↔dC c.m c.v S.n=true∧∀j,j<S.may.length→o.testBit j=true→sR c.m c.v (kM S j) S.n=true:=by
 have e1:=gm (s:=gY S o) (n:=S.n) (c:=c)
 have e2:=λj=>gm (s:=kM S j) (n:=S.n) (c:=c)
 grind [imp,md]
theorem ky {S:Sp} {x:Rw}:qw S x=true↔dq S=true∧0<x.o∧x.o<2^S.may.length∧sR x.c.m x.c.v (gY S x.o) S.n=true:=by
 constructor
 ·intro h
  obtain⟨h1,h2,h3⟩:=ie.1 h
  exact⟨h1,h2,(rf h).1,yX.2 ⟨gD h,λj _ hj=>(h3 j hj).2⟩⟩
 ·rintro⟨h1,h2,h3,h4⟩
  refine ie.2 ⟨h1,h2,λj hj=> ?_⟩
  have hlt:j<S.may.length:=Classical.byContradiction λhn=>by
   rw[gz.1 h3 j (by omega)]at hj;cases hj
  grind [yX]
def wi (S:Sp) (x:Rw):Nat→List Cb
 |0=>[]
 |k+1=>if ¬jF x.c k=x.c∧qw S ⟨jF x.c k,x.o⟩=true then wi S x k++[jF x.c k]else wi S x k
theorem AX {S:Sp} {x:Rw}:∀k,(wi S x k).length=0↔∀i,i<k→¬(¬jF x.c i=x.c∧qw S ⟨jF x.c i,x.o⟩=true)
 |0=>by simp[wi]
 |k+1=>by
  have ih:=AX (S:=S) (x:=x) k
  rw[wi]
  split
  ·rename_i h
   simp only[An,aak,aa8]
   constructor
   ·intro h2;omega
   ·intro h2;exact absurd h (h2 k (by omega))
  ·rename_i h
   rw[ih]
   constructor
   ·intro h2 i hi
    rcases aac.1 hi with hi|rfl
    ·exact h2 i hi
    ·exact h
   ·intro h2 i hi;exact h2 i (by omega)
def rj (S:Sp) (x:Rw):Bool:=qw S x&&(decide (qn S x.c=x.o)&&decide ((wi S x S.n.toNat).length=0))
theorem JZ {c:Cb} {i:Nat} (hi:i<8) (hv:c.v &&& c.m=c.v):jF c i=c↔c.m.testBit i=false:=by
 have hw:=λj=>fz (m:=c.m) hi j
 constructor
 ·intro h
  have h1:lI c.m (i:Int)=c.m:=congrArg Cb.m h
  have:=hw i
  rw[h1]at this
  cases hb:c.m.testBit i with
  |false=>rfl
  |true=>rw[hb]at this;simp at this
 ·intro h
  have h1:lI c.m (i:Int)=c.m:=Z7 λj=>by
   rw[hw]
   by_cases e:j=i
   ·subst e;rw[h];rfl
   ·simp[e]
  unfold jF
  rw[h1,hv]
theorem fR {S:Sp} {x:Rw}:rj S x=true↔qw S x=true∧qn S x.c=x.o∧iD x.c.m x.c.v (gY S x.o) S.n=true:=by
 unfold rj
 rw[we,we,decide_eq_true_eq,decide_eq_true_eq,AX]
 constructor
 ·rintro⟨h1,h2,h3⟩
  refine⟨h1,h2,gy.2 ⟨(ky.1 h1).2.2.2,λi hi=>aah.2 λhs=> ?_⟩⟩
  obtain⟨h0,h8,hm,hv⟩:=dw.1 (gD h1)
  unfold lC at hs
  rw[we]at hs
  refine h3 i hi ⟨λhe=> ?_,ky.2 ⟨(ky.1 h1).1,(ky.1 h1).2.1,(ky.1 h1).2.2.1,hs.2⟩⟩
  rw[(JZ (by omega) hv).1 he]at hs
  cases hs.1
 ·rintro⟨h1,h2,h3⟩
  refine⟨h1,h2,λi hi ⟨g1,g2⟩=> ?_⟩
  obtain⟨h0,h8,hm,hv⟩:=dw.1 (gD h1)
  have hs:=(gy.1 h3).2 i hi
  unfold lC at hs
  have hb:x.c.m.testBit i=true:=Classical.byContradiction λhn=>g1 ((JZ (by omega) hv).2 (aah.2 hn))
  have hw:sR (lI x.c.m (i:Int)) (x.c.v &&& lI x.c.m (i:Int)) (gY S x.o) S.n=true:=(ky.1 g2).2.2.2
  grind
def d9 (S:Sp) (x:Rw):Nat→Cb
 |0=>x.c
 |i+1=>if qw S ⟨jF (d9 S x i) i,x.o⟩=true then jF (d9 S x i) i else d9 S x i
def wo (S:Sp) (x:Rw):Rw:=⟨d9 S x S.n.toNat,qn S (d9 S x S.n.toNat)⟩
theorem Ja {S:Sp} {x:Rw} {i:Nat} (h:qw S ⟨jF (d9 S x i) i,x.o⟩=true):jF (d9 S x i) i=d9 S x (i+1):=(if_pos h).symm
theorem IY {S:Sp} {x:Rw} {i:Nat} (h:qw S ⟨jF (d9 S x i) i,x.o⟩=false):d9 S x i=d9 S x (i+1):=(if_neg (by rw[h];decide)).symm
theorem Bv {S:Sp} {x:Rw} (h:qw S x=true):∀i,d9 S x i=eY (gY S x.o) S.n x.c i
 |0=>rfl
 |i+1=>by
  have ih:=Bv h i
  obtain⟨h1,h2,h3,_⟩:=ky.1 h
  have e:qw S ⟨jF (eY (gY S x.o) S.n x.c i) i,x.o⟩=sR (jF (eY (gY S x.o) S.n x.c i) i).m (jF (eY (gY S x.o) S.n x.c i) i).v (gY S x.o) S.n:=by
   rw[aaA]
   exact⟨λk=>(ky.1 k).2.2.2,λk=>ky.2 ⟨h1,h2,h3,k⟩⟩
  rw[d9,ih,e]
  rfl
theorem uB {S:Sp} {x:Rw} (h:x.c.m<256∧x.c.v<256):∀i,(d9 S x i).m<256∧(d9 S x i).v<256
 |0=>h
 |i+1=>by
  have ih:=uB (S:=S) h i
  rw[d9]
  split
  ·exact⟨aaw (yn _ _) ih.1,aaw Nat.and_le_left ih.2⟩
  ·exact ih
theorem oD {S:Sp} {x:Rw} (h:qw S x=true):rj S (wo S x)=true∧tm (wo S x) x=true:=by
 obtain⟨h1,h2,h3,h4⟩:=ky.1 h
 have hg:=tj (s:=gY S x.o) (n:=S.n) (c:=x.c) h4
 have e:d9 S x S.n.toNat=lK (gY S x.o) S.n x.c:=Bv h S.n.toNat
 have hsub:∀j,x.o.testBit j=true→(qn S (d9 S x S.n.toNat)).testBit j=true:=λj hj=>by
  have hlt:j<S.may.length:=Classical.byContradiction λhn=>by
   rw[gz.1 h3 j (by omega)]at hj;cases hj
  rw[jd,e]
  exact⟨hlt,(yX.1 (gy.1 hg.1).1).2 j hlt hj⟩
 have hin:qw S (wo S x)=true:=ie.2 ⟨h1,(sT h2).elim λj hj=>CI (hsub j hj),λj hj=>(jd _).1 hj⟩
 refine⟨fR.2 ⟨hin,rfl,gy.2 ⟨(ky.1 hin).2.2.2,λi hi=>aah.2 λhs=> ?_⟩⟩,pJ.2 ⟨by show jx (d9 S x S.n.toNat) x.c=true;rw[e];exact hg.2,hsub⟩⟩
 unfold lC at hs
 rw[we]at hs
 have hk:=(gy.1 hg.1).2 i hi
 unfold lC at hk
 rw[←e]at hk
 have hw:sR (lI (d9 S x S.n.toNat).m (i:Int)) ((d9 S x S.n.toNat).v &&& lI (d9 S x S.n.toNat).m (i:Int)) (gY S x.o) S.n=true:=by
  have:=(yX (S:=S) (c:=jF (d9 S x S.n.toNat) i) (o:=qn S (d9 S x S.n.toNat))).1 hs.2
  exact(yX (S:=S) (c:=jF (d9 S x S.n.toNat) i) (o:=x.o)).2 ⟨this.1,λj hj ho=>this.2 j hj (hsub j ho)⟩
 have hb:(d9 S x S.n.toNat).m.testBit i=true:=hs.1
 grind
def DB (a b:Rw):Bool:=decide (a.o<b.o)||(decide (a.o=b.o)&&yo a.c b.c)
theorem rR {a b:Rw}:DB a b=true↔a.o<b.o∨a.o=b.o∧(a.c.m<b.c.m∨a.c.m=b.c.m∧a.c.v<b.c.v):=by
 unfold DB
 rw[aaU,we,decide_eq_true_eq,decide_eq_true_eq,lr]
def rV (l:List Rw):Prop:=l.Pairwise λa b=>DB a b=true
theorem ya (a:Rw):DB a a=false:=aah.2 λh=>by rw[rR]at h;omega
theorem Kk {a b c:Rw} (h:DB a b=true) (k:DB b c=true):DB a c=true:=by
 rw[rR]at*;omega
def jk (S:Sp) (o:Nat):Nat→List Rw
 |0=>[]
 |k+1=>if qn S ((ej (gY S o) S.n).getD k ⟨0,0⟩)=o then jk S o k++[⟨(ej (gY S o) S.n).getD k ⟨0,0⟩,o⟩]else jk S o k
abbrev DK (S:Sp) (o:Nat):List Rw:=jk S o (ej (gY S o) S.n).length
def kc (S:Sp):Nat→List Rw
 |0=>[]
 |o+1=>if o=0 then []else kc S o++DK S o
abbrev eW (S:Sp):List Rw:=kc S (2^S.may.length)
theorem N7 {S:Sp} {o k:Nat} (h:qn S ((ej (gY S o) S.n).getD k ⟨0,0⟩)=o):jk S o k++[⟨(ej (gY S o) S.n).getD k ⟨0,0⟩,o⟩]=jk S o (k+1):=(if_pos h).symm
theorem Mm {S:Sp} {o k:Nat} (h:¬qn S ((ej (gY S o) S.n).getD k ⟨0,0⟩)=o):jk S o k=jk S o (k+1):=(if_neg h).symm
theorem H4 {S:Sp} {o:Nat} (h:0<o):kc S o++DK S o=kc S (o+1):=(if_neg (by omega)).symm
theorem tt (S:Sp) (o:Nat):∀k,(jk S o k).length≤k
 |0=>by simp[jk]
 |k+1=>by
  have:=tt S o k
  rw[jk]
  split<;>simp<;>omega
theorem vU {S:Sp} (h8:S.n≤8):∀o,(kc S o).length≤o*65536
 |0=>by simp[kc]
 |o+1=>by
  have ih:=vU h8 o
  have h1:=tt S o (ej (gY S o) S.n).length
  have h2:=wF (s:=gY S o) h8
  rw[kc]
  split
  ·simp
  ·simp only[An];show (kc S o).length+(jk S o (ej (gY S o) S.n).length).length≤_;omega
theorem nR {S:Sp} {o:Nat} {x:Rw}:∀k,x∈jk S o k↔∃j,j<k∧x=⟨(ej (gY S o) S.n).getD j ⟨0,0⟩,o⟩∧qn S x.c=o
 |0=>by simp[jk]
 |k+1=>by
  rw[jk]
  split
  ·rename_i h
   rw[Z6,Z8,nR k]
   constructor
   ·rintro(⟨j,hj,r⟩|rfl)
    ·exact⟨j,by omega,r⟩
    ·exact⟨k,by omega,rfl,h⟩
   ·rintro⟨j,hj,r,r2⟩
    rcases aac.1 hj with hj|rfl
    ·exact .inl ⟨j,hj,r,r2⟩
    ·exact .inr r
  ·rename_i h
   rw[nR k]
   constructor
   ·rintro⟨j,hj,r⟩;exact⟨j,by omega,r⟩
   ·rintro⟨j,hj,r,r2⟩
    rcases aac.1 hj with hj|rfl
    ·exact⟨j,hj,r,r2⟩
    ·subst r;exact absurd r2 h
theorem KG {S:Sp} {o:Nat} {x:Rw} (hr:dq S=true) (h0:0<o) (ho:o<2^S.may.length):x∈DK S o↔rj S x=true∧x.o=o:=by
 unfold DK
 rw[nR]
 constructor
 ·rintro⟨j,hj,rfl,h2⟩
  have hp:=oy.1 (dy (d:=⟨0,0⟩) hj)
  have hin:qw S ⟨(ej (gY S o) S.n).getD j ⟨0,0⟩,o⟩=true:=ky.2 ⟨hr,h0,ho,(gy.1 hp).1⟩
  exact⟨fR.2 ⟨hin,h2,hp⟩,rfl⟩
 ·rintro⟨h1,rfl⟩
  obtain⟨g1,g2,g3⟩:=fR.1 h1
  obtain⟨j,hj,he⟩:=eZ (d:=⟨0,0⟩) (oy.2 g3)
  have he':(ej (gY S x.o) S.n).getD j ⟨0,0⟩=x.c:=he
  exact⟨j,hj,by rw[he'],g2⟩
theorem BK {S:Sp} {x:Rw} (hr:dq S=true):∀o,o≤2^S.may.length→(x∈kc S o↔rj S x=true∧x.o<o)
 |0,_=>by simp[kc]
 |o+1,ho=>by
  rw[kc]
  split
  ·rename_i h
   subst h
   constructor
   ·intro h;cases h
   ·rintro⟨h1,h2⟩
    have:=(ie.1 (fR.1 h1).1).2.1
    omega
  ·rename_i h
   rw[Z6,BK hr o (by omega),KG hr (by omega) (by omega)]
   constructor
   ·rintro(⟨h1,h2⟩|⟨h1,h2⟩)
    ·exact⟨h1,by omega⟩
    ·exact⟨h1,by omega⟩
   ·rintro⟨h1,h2⟩
    rcases aac.1 h2 with h2|h2
    ·exact .inl ⟨h1,h2⟩
    ·exact .inr ⟨h1,h2⟩
theorem uC {S:Sp} {x:Rw} (hr:dq S=true):x∈eW S↔rj S x=true:=by
 rw[BK hr _ (am _)]
 grind [rf,fR]
theorem Gy {l:List Cb} (h:jm l) {i j:Nat} (hij:i<j) (hj:j<l.length):yo (l.getD i ⟨0,0⟩) (l.getD j ⟨0,0⟩)=true:=by
 have:=aa2.1 h i j (by omega) hj hij
 grind
theorem sN (S:Sp) (o:Nat):∀k,k≤(ej (gY S o) S.n).length→rV (jk S o k)
 |0,_=>by simp[jk,rV]
 |k+1,hk=>by
  have ih:=sN S o k (by omega)
  rw[jk]
  split
  ·refine abP.2 ⟨ih,by simp,λa ha b hb=> ?_⟩
   rw[Z8]at hb
   subst hb
   obtain⟨j,hj,rfl,_⟩:=(nR k).1 ha
   have:=Gy (rz (gY S o) S.n) hj (by omega)
   unfold DB
   rw[this]
   simp
  ·exact ih
theorem Jp {S:Sp} {o:Nat} {x:Rw} (h:x∈DK S o):x.o=o:=by
 grind [nR]
theorem JX {S:Sp} {x:Rw}:∀o,x∈kc S o→x.o<o
 |0,h=>by simp[kc]at h
 |o+1,h=>by
  rw[kc]at h
  split at h
  ·cases h
  ·rcases Z6.1 h with h|h
   ·have:=JX o h;omega
   ·have:=Jp h;omega
theorem pU (S:Sp):∀o,rV (kc S o)
 |0=>by simp[kc,rV]
 |o+1=>by
  have ih:=pU S o
  rw[kc]
  split
  ·simp[rV]
  ·refine abP.2 ⟨ih,sN S o _ (am _),λa ha b hb=> ?_⟩
   have h1:=JX o ha
   have h2:=Jp hb
   rw[rR]
   omega
def pR (l:List Rw) (x:Rw):Nat→Nat
 |0=>0
 |i+1=>if DB x (l.getD i ⟨⟨0,0⟩,0⟩)=true then pR l x i else i+1
def Lg (l:List Rw) (x:Rw):List Rw:=l.take (pR l x l.length)++x::l.drop (pR l x l.length)
def fi (l:List Rw):Nat→List Rw
 |0=>[]
 |k+1=>Lg (fi l k) (l.getD k ⟨⟨0,0⟩,0⟩)
theorem Ik (l:List Rw) (x:Rw):∀k,pR l x k≤k
 |0=>by simp[pR]
 |k+1=>by
  have:=Ik l x k
  rw[pR]
  split<;>omega
theorem Lc {l:List Rw} {x:Rw} {i:Nat} (h0:0<i) (h:DB x (l.getD (i-1) ⟨⟨0,0⟩,0⟩)=true):pR l x i=pR l x (i-1):=by
 obtain⟨j,rfl⟩:∃j,i=j+1:=⟨i-1,by omega⟩
 rw[pR,if_pos (by simpa using h)];rfl
theorem EN {l:List Rw} {x:Rw} {i:Nat} (h:i=0∨DB x (l.getD (i-1) ⟨⟨0,0⟩,0⟩)=false):pR l x i=i:=by
 rcases h with rfl|h
 ·rfl
 ·cases i with
  |zero=>rfl
  |succ j=>rw[pR,if_neg (by simp at h;simp[h])]
theorem NM (l:List Rw) (x:Rw):(Lg l x).length=l.length+1:=by
 grind [Ik,Lg]
theorem pw (l:List Rw):∀k,(fi l k).length=k
 |0=>rfl
 |k+1=>by rw[fi,NM,pw l k]
theorem wH {l:List Rw} (h:rV l):∀k,k≤l.length→fi l k=l.take k
 |0,_=>rfl
 |k+1,hk=>by
  have ih:=wH h k (by omega)
  have e:l.getD k ⟨⟨0,0⟩,0⟩=l[k]:=by simp[show k<l.length by omega]
  have hp:pR (l.take k) l[k] (l.take k).length=(l.take k).length:=EN (by
   by_cases h0:(l.take k).length=0
   ·exact .inl h0
   ·right
    have hl:(l.take k).length=k:=by simp;omega
    rw[hl]at h0 ⊢
    have hlt:=aa2.1 h (k-1) k (by omega) (by omega) (by omega)
    have e2:(l.take k).getD (k-1) ⟨⟨0,0⟩,0⟩=l[k-1]:=by
     simp[me,ab0,show k-1<k by omega,th (show k-1<l.length by omega)]
    rw[e2]
    refine aah.2 λhb=> ?_
    have:=Kk hlt hb
    rw[ya]at this
    cases this)
  rw[fi,ih,e,Lg,hp,aan,List.drop_length,abE (by omega)]
theorem Kg (S:Sp):fi (eW S) (eW S).length=eW S:=by
 rw[wH (pU S _) _ (am _),aan]
def nT (l:List Rw) (n o:Nat):Nat→Nat
 |0=>0
 |k+1=>if (l.getD k ⟨⟨0,0⟩,0⟩).o.testBit o=true then nT l n o k ||| oH (l.getD k ⟨⟨0,0⟩,0⟩).c.m (l.getD k ⟨⟨0,0⟩,0⟩).c.v n else nT l n o k
theorem VG {l:List Rw} {n o k:Nat} (h:(l.getD k ⟨⟨0,0⟩,0⟩).o.testBit o=true):nT l n o k ||| oH (l.getD k ⟨⟨0,0⟩,0⟩).c.m (l.getD k ⟨⟨0,0⟩,0⟩).c.v n=nT l n o (k+1):=(if_pos h).symm
theorem VL {l:List Rw} {n o k:Nat} (h:¬(l.getD k ⟨⟨0,0⟩,0⟩).o.testBit o=true):nT l n o k=nT l n o (k+1):=(if_neg h).symm
def UH (x:Rw) (o p:Nat):Prop:=x.o.testBit o=true∧hold x.c p
theorem lE {l:List Rw} {n o:Nat} (hn:n≤8) (p:Nat):∀k,k≤l.length→((nT l n o k).testBit p=true↔p<2^n∧∃j,j<k∧UH (l.getD j ⟨⟨0,0⟩,0⟩) o p)
 |0,_=>by simp[nT]
 |k+1,hk=>by
  have ih:=lE (l:=l) (o:=o) hn p k (by omega)
  rw[nT]
  split
  ·rename_i h
   rw[aaP,aaU,ih,iM hn,we,decide_eq_true_eq,decide_eq_true_eq]
   constructor
   ·rintro(⟨h1,j,hj,r⟩|⟨h1,h2⟩)
    ·exact⟨h1,j,by omega,r⟩
    ·exact⟨h1,k,by omega,h,h2⟩
   ·rintro⟨h1,j,hj,r⟩
    rcases aac.1 hj with hj|rfl
    ·exact .inl ⟨h1,j,hj,r⟩
    ·exact .inr ⟨h1,r.2⟩
  ·rename_i h
   rw[ih]
   constructor
   ·rintro⟨h1,j,hj,r⟩;exact⟨h1,j,by omega,r⟩
   ·rintro⟨h1,j,hj,r⟩
    rcases aac.1 hj with hj|rfl
    ·exact⟨h1,j,hj,r⟩
    ·exact absurd r.1 h
def Pr (S:Sp) (x:Rw):Bool:=dC x.c.m x.c.v S.n&&(decide (0<x.o)&&decide (x.o<2^S.on.length))
def mQ (S:Sp) (l:List Rw):Bool:=l.all (Pr S)
def B6 (S:Sp) (l:List Rw) (o:Nat):Bool:=eO (Bh S o) (nT l S.n.toNat o l.length)&&eO (nT l S.n.toNat o l.length) (kM S o)
def io (S:Sp) (l:List Rw):Bool:=dq S&&(mQ S l&&(List.range S.on.length).all (B6 S l))
theorem fN {S:Sp} {l:List Rw}:io S l=true↔dq S=true∧mQ S l=true∧∀o,o<S.on.length→B6 S l o=true:=by
 unfold io
 grind
theorem ko {S:Sp} {l:List Rw}:mQ S l=true↔∀k,k<l.length→Pr S (l.getD k ⟨⟨0,0⟩,0⟩)=true:=by
 unfold mQ
 rw[aaj]
 constructor
 ·intro h k hk;exact h _ (dy hk)
 ·intro h x hx
  obtain⟨k,hk,rfl⟩:=eZ (d:=⟨⟨0,0⟩,0⟩) hx
  exact h k hk
theorem ig {S:Sp} {x:Rw}:Pr S x=true↔dC x.c.m x.c.v S.n=true∧0<x.o∧x.o<2^S.on.length:=by
 unfold Pr
 grind
end
section
open Go Go.RowKit
theorem ms {b:Bool} (h:(!b)=false):b=true:=by grind
theorem kT {b:Bool} (h:(!b)=true):b=false:=by grind
theorem LT {b:Bool} (h:b=true):Value.bool true= .bool b:=by rw[h]
theorem w7 {b:Bool} (h:¬b=true):Value.bool false= .bool b:=by grind
theorem zW {n er:Int} {sa:Nat} (h:(0≤n∧n≤8∧sa=fh n.toNat∧er=0)∨(¬(0≤n∧n≤8)∧er=1)) (h0:¬¬er=0):0≤n∧n≤8∧sa=fh n.toNat:=by
 omega
theorem VU {n er:Int} {sa:Nat} (h:(0≤n∧n≤8∧sa=fh n.toNat∧er=0)∨(¬(0≤n∧n≤8)∧er=1)) (h0:¬er=0):¬(0≤n∧n≤8):=by
 omega
theorem WR {S:Sp} {m u o:Nat} (h1:dq S=true) (h2:(0:Int)<(o:Int)):decide (((andNot o (qn S ⟨m,u⟩):Nat):Int)=0)=qw S ⟨⟨m,u⟩,o⟩:=by
 unfold qw
 grind
theorem W0 {S:Sp} {m u o:Nat} (h2:¬(0:Int)<(o:Int)):¬qw S ⟨⟨m,u⟩,o⟩=true:=by grind [ie]
theorem XF {S:Sp} {x:Rw} (h2:dq S=false):¬qw S x=true:=by grind [ie]
theorem QD {a b k:Nat} (ha:a<2^k):a+2^k=a ||| 2^k:=by
 have h:=abx ha 1
 grind
theorem Rc {a k:Nat} (h:a.testBit k=false):a+2^k=a ||| 2^k:=by
 have e:a=2^(k+1)*(a/2^(k+1))+a%2^(k+1):=(Nat.div_add_mod a _).symm
 have hlow:a%2^(k+1)<2^k:=by
  refine gz.2 λj hj=> ?_
  rw[Nat.testBit_mod_two_pow]
  by_cases hjk:j=k
  ·subst hjk;rw[h,aaB]
  ·rw[decide_eq_false (by omega),aaJ]
 have hlt:a%2^(k+1)+2^k<2^(k+1):=by have:=aa4 2 k;omega
 have e2:a+2^k=2^(k+1)*(a/2^(k+1))+(a%2^(k+1)+2^k):=by omega
 rw[e2,abx hlt,QD (b:=0) hlow,←Nat.or_assoc,←abx (aaS _ (aaz _)),←e]
theorem Xb {m u o m2 u2 o2:Nat} (h:¬(o:Int)=(o2:Int)):decide ((o:Int)<(o2:Int))=DB ⟨⟨m,u⟩,o⟩ ⟨⟨m2,u2⟩,o2⟩:=by
 rw[aaA,rR,decide_eq_true_eq]
 grind
theorem Xe {m u o m2 u2 o2:Nat} (h:¬¬(o:Int)=(o2:Int)) (h2:¬(m:Int)=(m2:Int)):decide ((m:Int)<(m2:Int))=DB ⟨⟨m,u⟩,o⟩ ⟨⟨m2,u2⟩,o2⟩:=by
 rw[aaA,rR,decide_eq_true_eq]
 grind
theorem Xu {m u o m2 u2 o2:Nat} (h:¬¬(o:Int)=(o2:Int)) (h2:¬¬(m:Int)=(m2:Int)):decide ((u:Int)<(u2:Int))=DB ⟨⟨m,u⟩,o⟩ ⟨⟨m2,u2⟩,o2⟩:=by
 rw[aaA,rR,decide_eq_true_eq]
 grind
theorem Gf {l:List Rw} {x:Rw} {i:Nat} (h0:0<i) (h:DB x (l.getD ((i:Int)-1).toNat ⟨⟨0,0⟩,0⟩)=true):pR l x i=pR l x (i-1):=
 Lc h0 (by rwa [show ((i:Int)-1).toNat=i-1 by omega]at h)
theorem BL {l:List Rw} {x:Rw} {i:Nat} (h:i=0∨DB x (l.getD ((i:Int)-1).toNat ⟨⟨0,0⟩,0⟩)=false):pR l x i=i:=
 EN (by rwa [show ((i:Int)-1).toNat=i-1 by omega]at h)
theorem yJ {sz:Nat} {v:Value} {h:Nat} {α:Type} {l:List α} (e:((l.drop 0).take (h-0)).length=h-0):iZ (fP sz v 0 h h)=((l.drop 0).take (h-0)).length:=e.symm
theorem Pm {s:Nat} {n:Int} (h8:n≤8) {i:Nat} (hi:i<(ej s n).length):((ej s n).getD i ⟨0,0⟩).m<256∧((ej s n).getD i ⟨0,0⟩).v<256:=by
 have:=mq (kP (Oz hi))
 grind [fq]
theorem Ij {o i:Nat} (h:((o/2^((i:Nat):Int).toNat &&& 1:Nat):Int)=1):o.testBit i=true:=oA.1 h
theorem I1 {o i:Nat} (h:¬((o/2^((i:Nat):Int).toNat &&& 1:Nat):Int)=1):¬o.testBit i=true:=by grind
theorem Ot {a b:Nat} (h:(a:Int)=(b:Int)):a=b:=by omega
end
section
open Go Go.RowKit
theorem iF:dS Tryz.prog 59 0=some 0:=by kernel_rfl
theorem iG:dS Tryz.prog 59 1=some 1:=by kernel_rfl
theorem ft:eE Tryz.prog 57=true:=by kernel_rfl
theorem eN:fj Tryz.prog 57=some (40,4,32):=by kernel_rfl
theorem gS:dS Tryz.prog 59 2=some 2:=by kernel_rfl
theorem Vq:cX Tryz.prog 19=true:=by kernel_rfl
theorem el:j8 Tryz.prog 59=some 3:=by kernel_rfl
theorem oB:cX Tryz.prog 100=true:=by kernel_rfl
theorem fy:dS Tryz.prog 158 1=some 2:=by kernel_rfl
theorem gE:dS Tryz.prog 158 0=some 0:=by kernel_rfl
theorem Db:cX Tryz.prog 199=true:=by kernel_rfl
theorem dM:fj Tryz.prog 83=some (158,3,3):=by kernel_rfl
theorem dP:j8 Tryz.prog 158=some 3:=by kernel_rfl
theorem jD:dT Tryz.prog 158=some (.agg #[.int .u8 0, .int .u8 0, .int .u8 0]):=by kernel_rfl
theorem g7:(dT Tryz.prog 158).map (λz=>z.cells.size)=some 3:=by kernel_rfl
theorem Qn:cX Tryz.prog 229=true:=by kernel_rfl
theorem tz:cX Tryz.prog 83=true:=by kernel_rfl
theorem P0:cX Tryz.prog 227=true:=by kernel_rfl
theorem kw {f:Nat→Value} {w:World} {d:Option Nat} {ty:TypeId} {ps:String} {af:Array Edge} {g:Option (Nat×Bool)} {x0 x1:Operand} {c0_0 c0_1 c1_0:Value} (h0:dg f x0= .agg #[c0_0,c0_1]) (h1:dg f x1=c1_0) (k1:c1_0.cells= #[c1_0]):
    (execOp (dg f) ⟨d, .build 158 #[(0,x0),(1,x1)],ty,ps,af,g⟩).run Tryz.prog w= .ok (.value (.agg #[c0_0,c0_1,c1_0])) w:=by
  obtain⟨i0,hi0,hz0⟩:=Do.1 (show (Tryz.prog.info? 158).bind (·.zero)=_ from jD)
  obtain⟨j5,hj5,hs5⟩:=go.1 o4
  obtain⟨j34,hj34,hs34⟩:=go.1 rY
  simp[execOp,h0,h1,k1,Instr.build,zeroValue,typeInfo,sizeOf,hi0,hz0,run_underlying Tryz.underlying158,Instr.fill,dX,hj5,hs5,hj34,hs34]
theorem SG:cX Tryz.prog 228=true:=by kernel_rfl
theorem Cg:cX Tryz.prog 197=true:=by kernel_rfl
theorem Cu {f:Nat→Value} {w:World} {d:Option Nat} {ty:TypeId} {ps:String} {af:Array Edge} {g:Option (Nat×Bool)}:
    (execOp (dg f) ⟨d, .build 158 #[],ty,ps,af,g⟩).run Tryz.prog w= .ok (.value (.agg #[.int .u8 0, .int .u8 0, .int .u8 0])) w:=by
  obtain⟨i0,hi0,hz0⟩:=Do.1 (show (Tryz.prog.info? 158).bind (·.zero)=_ from jD)
  obtain⟨j5,hj5,hs5⟩:=go.1 o4
  obtain⟨j34,hj34,hs34⟩:=go.1 rY
  simp[execOp,Instr.build,zeroValue,typeInfo,sizeOf,hi0,hz0,run_underlying Tryz.underlying158,Instr.fill,dX,hj5,hs5,hj34,hs34]
theorem iJ (S:Sp) (onV mayV:Value) (w:World) (hon:dh fT 4 w onV S.on) (hmay:dh fT 4 w mayV S.may):
    Fn Tryz.prog 100 #[.agg #[.int .i64 S.n,onV,mayV]] w λv w'=>v= .bool (dq S):=by
 refine cH (n:=63) Tryz.func100 rfl rfl rfl λhB=> ?_
 refine Zr<|Zy (dt (c:= #[_,_,_]) rfl rfl λs W3 V t a=> ?_)
 replace hB:=Ze hB t
 refine Zb rfl<|ct<|Zr<|Zf rfl iF<|Zl rfl cK a rfl<|ZC vY (nn _ _) rfl λX W8 u x=> ?_
 obtain⟨hB,a⟩:=u.k2 hB a
 obtain⟨sa,er,rfl,hhP1_2⟩:=r7 x
 refine Zw (.tuple #[.agg #[_,_,_,_], .int .i64 _]) rfl<|Zv (c7 rfl)<|Zv (da rfl)<|Zy (cI ee rfl λo y z A b=> ?_)
 have B:=ZO z hB
 obtain⟨hB,a⟩:=A.k2 hB a
 replace b:At y o #[wv 0 0,wv 0 1,wv 0 2,wv 0 3] 40:=b
 refine Zy (cz rfl rfl cA rfl b rfl rfl λY p C=> ?_)
 replace hB:=Zg hB p B
 replace a:=At.grownAt a b p Dd
 replace b:=C
 refine ZZ rfl<|Zq<|Zr<|Zi rfl<|Zv (ep rfl rfl)<|ZX rfl (λf=> ?_) λf=> ?_
 refine Zs<|Zs<|Zs<|Zs<|Zb rfl<|Zb rfl<|Zs<|Zs<|Zs<|Zs<|Zb rfl<|Zb rfl<|Zs<|Zs ?_
 refine Zs<|Zs<|Zs<|Zs<|Zs<|Zb rfl<|ct<|cF rfl<|Zr<|Zb rfl<|ct<|Zt<|cV (v:= .bool false) rfl ⟨hB,?_⟩
 exact xU (λh=>VU hhP1_2 f ⟨h.1,h.2.1⟩)
 refine Zf rfl iG<|ZL onV rfl ft a rfl<|Zv (cT (v:=onV) rfl (Below.slT hB hon) eN)<|Zv (dk rfl rfl)<|Zb rfl<|ZX rfl (λD=> ?_) λD=> ?_
 refine Zs<|Zs<|Zs<|Zs<|Zb rfl<|Zb rfl<|Zs<|Zs<|Zs<|Zs<|Zs<|Zs<|Zs<|Zb rfl ?_
 refine ct<|cF rfl<|Zr<|Zb rfl<|ct<|Zt<|cV (v:= .bool false) rfl ⟨hB,?_⟩
 exact xU Om
 refine Zf rfl iG<|ZL onV rfl ft a rfl<|Zv (cT (v:=onV) rfl (Below.slT hB hon) eN)<|Zv (il rfl rfl)<|Zb rfl<|ZX rfl (λE=> ?_) λE=> ?_
 refine Zs<|Zs<|Zs<|Zs<|Zs<|Zs<|Zs<|Zb rfl<|ct<|cF rfl<|Zr<|Zb rfl<|ct<|Zt ?_
 refine cV (v:= .bool false) rfl ⟨hB,?_⟩
 exact xU Om
 refine Zf rfl iG<|ZL onV rfl ft a rfl<|Zv (cT (v:=onV) rfl (Below.slT hB hon) eN)<|Zf rfl gS<|ZL mayV rfl ft a rfl<|Zv (cT (v:=mayV) rfl (Below.slT hB hmay) eN)<|Zv (ep rfl rfl)<|Zb rfl<|ct<|ZQ rfl (λF=> ?_) λF=> ?_
 refine Zr<|Zb rfl<|ct<|Zt<|cV (v:= .bool false) rfl ⟨hB,?_⟩
 exact xU Om
 refine cu<|Zq ?_
 obtain⟨h0,h8,rfl⟩:=zW hhP1_2 f
 refine Zr<|Zf rfl iG<|ZL onV rfl ft a rfl<|Zv (cT (v:=onV) rfl (Below.slT hB hon) eN)<|ZZ rfl<|cx ?_
 refine cS (σ:=(Nat)) [2,2,5,6,39,62] (λk=>[(39, .int .i64 (k:Int))]) (λk W=>(Below w.heap.size w W)∧(At W s _ 59)∧(At W o _ 40)∧(k≤S.on.length)∧(∀q,q<k→eO (Bh S q) (kM S q)=true∧eO (kM S q) (fh S.n.toNat)=true)∧(True)) (λk=>S.on.length-k) (0) ⟨rfl,trivial⟩ ⟨hB,a,b,(my _),ef,trivial⟩ ?_
 rintro k Z aa ⟨hB,a,b,hk,hq,_⟩ ab G
 refine Zr<|Zv (dk rfl rfl)<|ct<|Zq<|ZQ rfl (λH=> ?_) λH=> ?_
 refine cu<|Zq<|cx<|Zr<|Zi rfl<|Zv (df (v:=onV) rfl (Below.slT hB hon) rfl eN Om (by omega))<|Zv (fv rfl cA (dh.cell (Below.slT hB hon) dE 0 Om (by omega) 0 rfl) (dh.cell (Below.slT hB hon) dE 0 Om (by omega) 1 rfl) (dh.cell (Below.slT hB hon) dE 0 Om (by omega) 2 rfl) (dh.cell (Below.slT hB hon) dE 0 Om (by omega) 3 rfl))<|Zy (cI ee rfl λI J r K d=> ?_)
 have L:=ZO r hB
 have M:=Zn r b.lt
 obtain⟨hB,a,b⟩:=K.k3 hB a b
 replace d:At J I #[wv 0 0,wv 0 1,wv 0 2,wv 0 3] 40:=d
 refine Zi rfl<|Zy (cz rfl rfl cA rfl d rfl rfl λac g N=> ?_)
 replace hB:=Zg hB g L
 replace a:=At.grownAt a d g Dd
 replace b:=At.grownNe b M g
 replace d:=N
 refine ct<|Zd dz λO P=> ?_
 obtain⟨hB,a,b,d⟩:=P.k4 hB a b d
 have hS:=dz.refl O
 refine Tk 0 rfl (λ_ hq=>cy rfl cA rfl (hq.at d)) hS<|Tf 1 rfl rfl gS hS<|Tk 2 rfl (λ_ hq=>cB (v:=mayV) rfl ft (At.cell (hq.at a) rfl)) hS<|Ti 3 rfl rfl hS<|Tk 4 rfl (λ_ hq=>df (v:=mayV) rfl (hq.slT (Below.slT hB hmay)) rfl eN Om (by omega)) hS<|Tk 5 rfl (λ_ hq=>fv rfl cA (dh.cell (hq.slT (Below.slT hB hmay)) dE 0 Om (by omega) 0 rfl) (dh.cell (hq.slT (Below.slT hB hmay)) dE 0 Om (by omega) 1 rfl) (dh.cell (hq.slT (Below.slT hB hmay)) dE 0 Om (by omega) 2 rfl) (dh.cell (hq.slT (Below.slT hB hmay)) dE 0 Om (by omega) 3 rfl)) hS<|To 6 rfl (TC (vs:=[.agg #[_,_,_,_], .agg #[_,_,_,_]]) qO (iL _ _ _) rfl λad ae i Q=>⟨.inl (hS.trans i),?_⟩)
 have e:=hB
 have R:=a
 have T:=b
 obtain⟨hB,a,b⟩:=i.k3 hB a b
 replace hS:=hS.trans i
 obtain rfl:=Q
 refine Tk 7 rfl (λ_ _=>eR rfl) hS<|Tx 8 rfl (λ_ _=>jL (v:= .bool _) rfl) hS (λj=> ?_) λj=> ?_
 refine Tp 9 rfl hS<|Tp 10 rfl hS<|Tp 11 rfl hS<|Tp 12 rfl hS<|Tp 13 rfl hS<|Tp 14 rfl hS<|Tp 15 rfl hS<|Tp 16 rfl hS<|Ty 17 rfl rfl hS<|Td<|cF rfl<|Zr<|Zb rfl<|ct ?_
 refine Zt<|cV (v:= .bool false) rfl ⟨hB,?_⟩
 exact IV (k:=k) Om (λh=>Bool.noConfusion (h.1.symm.trans (kT j)))
 refine Tf 9 rfl rfl gS hS<|Tk 10 rfl (λ_ hq=>cB (v:=mayV) rfl ft (At.cell (hq.at R) rfl)) hS<|Ti 11 rfl rfl hS<|Tk 12 rfl (λ_ hq=>df (v:=mayV) rfl (hq.slT (Below.slT e hmay)) rfl eN Om (by omega)) hS<|Tk 13 rfl (λ_ hq=>fv rfl cA (dh.cell (hq.slT (Below.slT e hmay)) dE 0 Om (by omega) 0 rfl) (dh.cell (hq.slT (Below.slT e hmay)) dE 0 Om (by omega) 1 rfl) (dh.cell (hq.slT (Below.slT e hmay)) dE 0 Om (by omega) 2 rfl) (dh.cell (hq.slT (Below.slT e hmay)) dE 0 Om (by omega) 3 rfl)) hS<|Tk 14 rfl (λ_ hq=>cy rfl cA rfl (hq.at T)) hS<|To 15 rfl (TC (vs:=[.agg #[_,_,_,_], .agg #[_,_,_,_]]) qO (iL _ _ _) rfl λaf ag l U=>⟨.inl (hS.trans l),?_⟩)
 obtain⟨hB,a,b⟩:=l.k3 hB a b
 replace hS:=hS.trans l
 obtain rfl:=U
 refine Tk 16 rfl (λ_ _=>eR rfl) hS<|Ty 17 rfl rfl hS<|Td<|ZQ rfl (λm=> ?_) λm=> ?_
 refine Zr<|Zb rfl<|ct<|Zt<|cV (v:= .bool false) rfl ⟨hB,?_⟩
 exact IV (k:=k) Om (λh=>Bool.noConfusion (h.2.symm.trans (kT m)))
 refine cu<|ZT rfl rfl rfl ?_
 exact G _ _ (k+1) Za ⟨rfl,trivial⟩ ⟨hB,a,b,Om,(dG hq ⟨ms j,ms m⟩),trivial⟩ Zo
 refine cR<|Zr<|Zb rfl<|ct<|Zt<|cV (v:= .bool true) rfl ⟨hB,?_⟩
 obtain rfl:k=S.on.length:=by omega
 exact Sf Om hq
theorem pC (S:Sp) (onV mayV:Value) (c:Cb) (w:World) (hon:dh fT 4 w onV S.on) (hmay:dh fT 4 w mayV S.may) (hc:c.m<256∧c.v<256) (hl:S.may.length≤7):
    Fn Tryz.prog 199 #[.agg #[.int .i64 S.n,onV,mayV], .agg #[.int .u8 (c.m:Int), .int .u8 (c.v:Int)]] w λv w'=>v= .int .u8 ((qn S c:Nat):Int):=by
 refine cH (n:=27) Tryz.func199 rfl rfl rfl λhB=> ?_
 refine Zr<|Zy (dt (c:= #[_,_,_]) rfl rfl λh W3 A i a=> ?_)
 replace hB:=Ze hB i
 refine Zy (dt (c:= #[_,_]) rfl rfl λj W6 B l b=> ?_)
 obtain⟨hB,a⟩:=l.k2 hB a
 refine ZZ rfl<|Zr<|ZZ rfl<|Zq<|Zr<|Zf rfl gS<|ZL mayV rfl ft a rfl<|Zv (cT (v:=mayV) rfl (Below.slT hB hmay) eN)<|ZZ rfl<|cx ?_
 refine cS (σ:=(Nat)) [5,7,11,25] (λk=>[(11, .int .i64 (k:Int)),(5, .int .u8 ((l5 S c k:Nat):Int))]) (λk W=>(Below w.heap.size w W)∧(At W h _ 59)∧(At W j _ 34)∧(k≤S.may.length)∧(True)) (λk=>S.may.length-k) (0) ⟨rfl,rfl,trivial⟩ ⟨hB,a,b,(my _),trivial⟩ ?_
 rintro k C D ⟨hB,a,b,hk,_⟩ E g
 refine Zr<|Zv (dk rfl rfl)<|ct<|Zq<|ZQ rfl (λo=> ?_) λo=> ?_
 refine cu<|Zq<|cx<|Zr<|Zi rfl<|Zv (df (v:=mayV) rfl (Below.slT hB hmay) rfl eN Om (by omega))<|Zv (fv rfl cA (dh.cell (Below.slT hB hmay) dE 0 Om (by omega) 0 rfl) (dh.cell (Below.slT hB hmay) dE 0 Om (by omega) 1 rfl) (dh.cell (Below.slT hB hmay) dE 0 Om (by omega) 2 rfl) (dh.cell (Below.slT hB hmay) dE 0 Om (by omega) 3 rfl))<|Zy (cI ee rfl λp r s t d=> ?_)
 have u:=ZO s hB
 obtain⟨hB,a,b⟩:=t.k3 hB a b
 replace d:At r p #[wv 0 0,wv 0 1,wv 0 2,wv 0 3] 40:=d
 refine Zi rfl<|Zy (cz rfl rfl cA rfl d rfl rfl λF e x=> ?_)
 replace hB:=Zg hB e u
 replace a:=At.grownAt a d e Dd
 replace b:=At.grownAt b d e Dd
 replace d:=x
 refine ct<|Zr<|Zv (cy rfl cZ rfl b)<|Zv (cy rfl cA rfl d)<|Zf rfl iF<|Zl rfl cK a rfl<|ZC (vs:=[.agg #[_,_], .agg #[_,_,_,_], .int .i64 _]) C8 (nD c.m c.v _ _ _ hc.1 hc.2) rfl λG H y z=> ?_
 obtain⟨hB,a,b⟩:=y.k3 hB a b
 obtain rfl:=z
 refine ct<|ZQ rfl (λf=> ?_) λf=> ?_
 have hlt:=vS S c k
 have h7:=Al (show k<8 by omega)
 refine cN<|Zi rfl<|Zi rfl<|Zv (jA (m:=1) rfl rfl Om (by simp only[IntKind.bits];omega) yR)<|Zv (Ab (n:=_) rfl rfl rfl oG yR)<|ZZ rfl<|ZT rfl rfl rfl ?_
 exact g _ _ (k+1) Za ⟨rfl,(by exact congrArg (λq:Nat=>Value.int .u8 (q:Int)) (Vz f)),trivial⟩ ⟨hB,a,b,Om,trivial⟩ Zo
 refine cu<|ZT rfl rfl rfl ?_
 exact g _ _ (k+1) Za ⟨rfl,(by exact congrArg (λq:Nat=>Value.int .u8 (q:Int)) (VP f)),trivial⟩ ⟨hB,a,b,Om,trivial⟩ Zo
 refine cR<|Zr<|Zi rfl<|ZZ rfl<|Zt<|cV (v:= .int .u8 _) rfl ⟨hB,?_⟩
 obtain rfl:k=S.may.length:=by omega
 rfl
theorem nZ (S:Sp) (onV mayV:Value) (m u o:Nat) (w:World) (hon:dh fT 4 w onV S.on) (hmay:dh fT 4 w mayV S.may) (hm:m<256) (hv:u<256) (ho:o<256):
    Fn Tryz.prog 197 #[.agg #[.int .i64 S.n,onV,mayV], .agg #[.int .u8 (m:Int), .int .u8 (u:Int), .int .u8 (o:Int)]] w λv w'=>v= .bool (qw S ⟨⟨m,u⟩,o⟩):=by
 refine cH (n:=22) Tryz.func197 rfl rfl rfl λhB=> ?_
 refine Zr<|Zy (dt (c:= #[_,_,_]) rfl rfl λt W3 x i a=> ?_)
 replace hB:=Ze hB i
 refine Zy (dt (c:= #[_,_,_]) rfl rfl λy W6 z j e=> ?_)
 obtain⟨hB,a⟩:=j.k2 hB a
 refine Zb rfl<|ct<|Zd dz λl p=> ?_
 obtain⟨hB,a,e⟩:=p.k3 hB a e
 have hS:=dz.refl l
 refine Tk 0 rfl (λ_ hq=>cy rfl el rfl (hq.at a)) hS<|To 1 rfl (TC (vs:=[.agg #[_,_,_]]) oB (iJ S _ _ _ (Below.slT hB hon) (Below.slT hB hmay)) rfl λA B f q=>⟨.inl (hS.trans f),?_⟩)
 have r:=a
 have d:=e
 replace hB:=Ze hB f
 replace hS:=hS.trans f
 obtain rfl:=q
 refine Tx 2 rfl (λ_ _=>jL (v:= .bool _) rfl) hS (λb=> ?_) λb=> ?_
 refine Tf 3 rfl rfl fy hS<|Tk 4 rfl (λ_ hq=>cB (v:= .int .u8 _) rfl dK (At.cell (hq.at d) rfl)) hS<|Tk 5 rfl (λ_ _=>il rfl rfl) hS<|Ty 6 rfl rfl hS<|Tx 7 rfl (λ_ _=>jL (v:= .bool _) rfl) hS (λg=> ?_) λg=> ?_
 refine Tf 8 rfl rfl fy hS<|Tk 9 rfl (λ_ hq=>cB (v:= .int .u8 _) rfl dK (At.cell (hq.at d) rfl)) hS<|Tk 10 rfl (λ_ hq=>cy rfl el rfl (hq.at r)) hS<|Tf 11 rfl rfl gE hS<|Tk 12 rfl (λ_ hq=>fD rfl cZ (At.cell (hq.at d) rfl) (At.cell (hq.at d) rfl)) hS<|To 13 rfl (TC (vs:=[.agg #[_,_,_], .agg #[_,_]]) Db (pC S _ _ ⟨m,u⟩ _ (Below.slT hB hon) (Below.slT hB hmay) ⟨hm,hv⟩ (by obtain⟨_,_,_,h4,h5,_⟩:=dD.1 b;omega)) rfl λC D h s=>⟨.inl (hS.trans h),?_⟩)
 replace hB:=Ze hB h
 replace hS:=hS.trans h
 obtain rfl:=s
 refine Tk 14 rfl (λ_ _=>qB (n:=_) rfl rfl rfl m5 (by have h1:=vS S ⟨m,u⟩ S.may.length;have h2:=OA (k:=S.may.length) (by obtain⟨_,_,_,h4,h5,_⟩:=dD.1 b;omega);show l5 S ⟨m,u⟩ S.may.length<256;omega)) hS<|Tk 15 rfl (λ_ _=>dW rfl rfl) hS<|Ty 16 rfl rfl hS<|Ty 17 rfl rfl hS<|Td<|Zt<|cV (v:= .bool _) rfl ⟨hB,?_⟩
 exact congrArg Value.bool (WR b g)
 refine Tp 8 rfl hS<|Tp 9 rfl hS<|Tp 10 rfl hS<|Tp 11 rfl hS<|Tp 12 rfl hS<|Tp 13 rfl hS<|Tp 14 rfl hS<|Tp 15 rfl hS<|Ty 16 rfl rfl hS<|Ty 17 rfl rfl hS<|Td<|Zt<|cV (v:= .bool false) rfl ⟨hB,?_⟩
 exact w7 (W0 g)
 refine Tp 3 rfl hS<|Tp 4 rfl hS<|Tp 5 rfl hS<|Ty 6 rfl rfl hS<|Ty 7 rfl rfl hS<|Tp 8 rfl hS<|Tp 9 rfl hS<|Tp 10 rfl hS<|Tp 11 rfl hS<|Tp 12 rfl hS<|Tp 13 rfl hS<|Tp 14 rfl hS<|Tp 15 rfl hS<|Ty 16 rfl rfl hS ?_
 refine Ty 17 rfl rfl hS<|Td<|Zt<|cV (v:= .bool false) rfl ⟨hB,?_⟩
 exact w7 (XF b)
theorem Ae (m u o m2 u2 o2:Nat) (w:World):
    Fn Tryz.prog 229 #[.agg #[.int .u8 (m:Int), .int .u8 (u:Int), .int .u8 (o:Int)], .agg #[.int .u8 (m2:Int), .int .u8 (u2:Int), .int .u8 (o2:Int)]] w λv w'=>v= .bool (DB ⟨⟨m,u⟩,o⟩ ⟨⟨m2,u2⟩,o2⟩):=by
 refine cH (n:=38) Tryz.func229 rfl rfl rfl λhB=> ?_
 refine Zr<|Zy (dt (c:= #[_,_,_]) rfl rfl λh W3 i f a=> ?_)
 replace hB:=Ze hB f
 refine Zy (dt (c:= #[_,_,_]) rfl rfl λj W6 k g b=> ?_)
 obtain⟨hB,a⟩:=g.k2 hB a
 refine Zb rfl<|ct<|Zq<|cx<|Zr<|Zf rfl fy<|Zl rfl dK a rfl<|Zf rfl fy<|Zl rfl dK b rfl<|Zv (ep rfl rfl)<|Zb rfl<|ct<|ZQ rfl (λd=> ?_) λd=> ?_
 refine Zr<|Zf rfl fy<|Zl rfl dK a rfl<|Zf rfl fy<|Zl rfl dK b rfl<|Zv (dk rfl rfl)<|Zb rfl<|ct<|Zt<|cV (v:= .bool _) rfl ⟨hB,?_⟩
 exact congrArg Value.bool (Xb d)
 refine Zr<|Zf rfl gE<|Zf rfl ea<|Zl rfl dK a rfl<|Zf rfl gE<|Zf rfl ea<|Zl rfl dK b rfl<|Zv (ep rfl rfl)<|Zb rfl<|ct<|ZQ rfl (λe=> ?_) λe=> ?_
 refine Zr<|Zf rfl gE<|Zf rfl ea<|Zl rfl dK a rfl<|Zf rfl gE<|Zf rfl ea<|Zl rfl dK b rfl<|Zv (dk rfl rfl)<|Zb rfl<|ct<|Zt<|cV (v:= .bool _) rfl ⟨hB,?_⟩
 exact congrArg Value.bool (Xe d e)
 refine cu<|Zr<|Zf rfl gE<|Zf rfl fE<|Zl rfl dK a rfl<|Zf rfl gE<|Zf rfl fE<|Zl rfl dK b rfl<|Zv (dk rfl rfl)<|Zb rfl<|ct<|Zt<|cV (v:= .bool _) rfl ?_
 refine⟨hB,?_⟩
 exact congrArg Value.bool (Xu d e)
theorem pl (xa:Value) (l:List Rw) (q:Nat) (w:World) (hl:dh gv 3 w xa l) (hq:cX Tryz.prog q=true) (hdo:∀(m u o m2 u2 o2:Nat) (w:World),Fn Tryz.prog q #[.agg #[.int .u8 (m:Int), .int .u8 (u:Int), .int .u8 (o:Int)], .agg #[.int .u8 (m2:Int), .int .u8 (u2:Int), .int .u8 (o2:Int)]] w λv w'=>v= .bool (DB ⟨⟨m,u⟩,o⟩ ⟨⟨m2,u2⟩,o2⟩)) (hlb:l.length≤2000000):
    Fn Tryz.prog 228 #[xa, .func (.func q) #[] #[]] w λv w'=>cD gv 3 158 w' w.heap.size v (fi l l.length):=by
 refine cH (n:=44) Tryz.func228 rfl rfl rfl λhB=> ?_
 refine Zr<|Zw (.slice none 0 0) rfl<|ct<|Zr<|Zw (.slice none 0 0) rfl<|ct<|Zq<|Zr<|Zw xa rfl<|Zv (cT (v:=xa) rfl (Below.slT hB hl) dM)<|ZZ rfl<|cx ?_
 refine cS (σ:=(Nat)×(Value)) [5,5,7,8,11,42] (λ(k,v0)=>[(11, .int .i64 (k:Int)),(5,v0)]) (λsg W=>match sg with|(k,v0)=>(Below w.heap.size w W)∧(cD gv 3 158 W w.heap.size v0 (fi l k))∧(k≤l.length)∧(True)) (λ(k,v0)=>l.length-k) ((0, .slice none 0 0)) ⟨rfl,rfl,trivial⟩ ⟨hB,cD.nil,(my _),trivial⟩ ?_
 rintro⟨k,v0⟩ aj W9 ⟨hB,ho,hk,_⟩ ak L
 refine Zr<|Zv (dk rfl rfl)<|ct<|Zq<|ZQ rfl (λS=> ?_) λS=> ?_
 refine cu<|Zq<|cx ?_
 have hsl:=pw l k
 have hC:(fi l k).length≤iZ v0:=(Sl.eqv ho.sl).2.1
 refine Zr<|Zv (df (v:=xa) rfl (Below.slT hB hl) rfl dM Om (by omega))<|Zv (gH rfl dP (dh.cell (Below.slT hB hl) eh ⟨⟨0,0⟩,0⟩ Om (by omega) 0 rfl) (dh.cell (Below.slT hB hl) eh ⟨⟨0,0⟩,0⟩ Om (by omega) 1 rfl) (dh.cell (Below.slT hB hl) eh ⟨⟨0,0⟩,0⟩ Om (by omega) 2 rfl))<|Zy (cI jD rfl λM al O T f=> ?_)
 have U:=ZO O hB
 have V:=aaQ (b:=M) ho (aae O.symm)
 obtain⟨hB,ho⟩:=T.k2 hB ho
 refine Zy (cz rfl rfl dP rfl f rfl rfl λao P X=> ?_)
 replace hB:=Zg hB P U
 replace ho:=aat ho V P
 replace f:=X
 refine ct<|Zr<|Zw v0 rfl<|Zv (cT (v:=v0) rfl ho.sl dM)<|ZZ rfl<|Zq<|cx ?_
 refine cS (σ:=(Nat)) [8,8,17,30] (λi=>[(8, .int .i64 (i:Int))]) (λi W=>(Below w.heap.size w W)∧(cD gv 3 158 W w.heap.size v0 _)∧(At W M _ 158)∧(i≤(fi l k).length)∧(pR (fi l k) (l.getD k ⟨⟨0,0⟩,0⟩) (fi l k).length=pR (fi l k) (l.getD k ⟨⟨0,0⟩,0⟩) i)∧(True)) (λi=>i) ((fi l k).length) ⟨rfl,trivial⟩ ⟨hB,ho,f,(am _),rfl,trivial⟩ ?_
 rintro i ap aq ⟨hB,ho,f,hi,hp,_⟩ ar Y
 refine Zq<|Zd dz λZ aa=> ?_
 obtain⟨hB,ho,f⟩:=aa.k3 hB ho f
 have hS:=dz.refl Z
 refine Ti 0 rfl rfl hS<|Tk 1 rfl (λ_ _=>il rfl rfl) hS<|Tx 2 rfl (λ_ _=>jL (v:= .bool _) rfl) hS (λab=> ?_) λab=> ?_
 refine Tw 3 (.func (.func q) #[] #[]) rfl rfl hS<|Tk 4 rfl (λ_ hq=>cy rfl dP rfl (hq.at f)) hS<|Tw 5 v0 rfl rfl hS<|Ti 6 rfl rfl hS<|Tk 7 rfl (λ_ _=>ld rfl rfl Om Om) hS<|Tk 8 rfl (λ_ hq=>df (v:=v0) rfl ((hq.ow ho)).sl rfl dM Om (by omega)) hS<|Tk 9 rfl (λ_ hq=>gH rfl dP (dh.cell ((hq.ow ho)).sl eh ⟨⟨0,0⟩,0⟩ Om (by omega) 0 rfl) (dh.cell ((hq.ow ho)).sl eh ⟨⟨0,0⟩,0⟩ Om (by omega) 1 rfl) (dh.cell ((hq.ow ho)).sl eh ⟨⟨0,0⟩,0⟩ Om (by omega) 2 rfl)) hS<|To 10 rfl (Yd.call (yr (q:=q) rfl hq (v0:= .agg #[_,_,_]) rfl (v1:= .agg #[_,_,_]) rfl) (hdo _ _ _ _ _ _ _) λau av A ac=>⟨.inl (hS.trans A),?_⟩)
 obtain⟨hB,ho,f⟩:=A.k3 hB ho f
 replace hS:=hS.trans A
 obtain rfl:=ac
 refine Ty 11 rfl rfl hS<|Td<|ZQ rfl (λB=> ?_) λB=> ?_
 refine cu<|cx<|cN<|Zi rfl<|Zv (ld rfl rfl Om Om)<|ZZ rfl ?_
 exact Y _ _ (i-1) Za ⟨congrArg (Value.int .i64) (by omega:(i:Int)-1=((i-1:Nat):Int)),trivial⟩ ⟨hB,ho,f,Om,(hp.trans (Gf Om B)),trivial⟩ Zo
 refine cR ?_
 have hpos:pR (fi l k) (l.getD k ⟨⟨0,0⟩,0⟩) (fi l k).length=i:=hp.trans (BL (by exact .inr B))
 have hsl:=pw l k
 have hC:(fi l k).length≤iZ v0:=(Sl.eqv ho.sl).2.1
 have hil:((i:Nat):Int).toNat=i:=rfl
 refine fe dz fQ (λC ad=> ?_)
 obtain⟨hB,ho,f⟩:=ad.k3 hB ho f
 have hS:=dz.refl C
 refine Tw 0 v0 rfl rfl hS<|Ti 1 rfl rfl hS<|Ti 2 rfl rfl hS<|Tk 3 rfl (λ_ hq=>nq (v:=v0) rfl ((hq.ow ho)).sl dM rfl rfl Om Om Om) hS ?_
 have c:dh gv 3 C (fP 3 v0 0 i i) (((fi l k).drop 0).take (i-0)):=ab2 eh ho.sl (by omega) (by omega) (by omega) (by omega)
 refine Tk 4 rfl (λ_ hq=>cy rfl dP rfl (hq.at f)) hS<|Tw 6 v0 rfl rfl hS<|Ti 7 rfl rfl hS<|Tk 8 rfl (λ_ hq=>nu (v:=v0) rfl ((hq.ow ho)).sl dM rfl Om Om) hS ?_
 have d:dh gv 3 C (fP 3 v0 i (fi l k).length (iZ v0)) (((fi l k).drop i).take ((fi l k).length-i)):=ab2 eh ho.sl (by omega) (by omega) (by omega) (by omega)
 refine To 5 rfl (eK (u:= .agg #[_,_,_]) rfl dM g7 rfl Dd Dd λg aw y D E=>⟨.inl (hS.trans D),?_⟩)
 have F:=ZO y hB
 have r:=an (dz.size hS) (aae y.symm)
 have ae:=acf (b:=g) c (aae y.symm)
 have af:=acf (b:=g) d (aae y.symm)
 obtain⟨hB,ho,c,d⟩:=D.k4 hB ho c d
 replace hS:=hS.trans D
 have Q:=jU (enc:=gv) (a:=(l.getD k ⟨⟨0,0⟩,0⟩)) E rfl rfl F
 refine To 9 rfl (dZ (v:= .slice (some ⟨g,0,none⟩) 1 1) (v2:=fP 3 v0 i (fi l k).length (iZ v0)) rfl rfl dM g7 Dd Q d (lp) (n4 hB) iq iq λG ax s h=>⟨.inl (db hS s (am _) (λj hj=>by have e:g=j:=Z9 hj;rw[←e];exact r)),?_⟩)
 replace hS:dz _ _:=db hS s (am _) (λj hj=>by have e:g=j:=Z9 hj;rw[←e];exact r)
 replace h:=cD.app (enc:=gv) rfl rfl rfl rfl h
 replace hB:=ZG hB s Q
 replace c:=ab4 c ae s
 replace d:=ab4 d af s
 refine To 10 rfl (jZ (N:=w.heap.size) (v:=fP 3 v0 0 i i) (v2:=G) rfl rfl dM g7 c (yJ iq) h.sl gj (Below.size hB) iq iq λt ay H p=>⟨.inl (hS.trans H),?_⟩)
 replace p:=cD.app (enc:=gv) rfl rfl rfl rfl p
 obtain⟨hB,c,d,h⟩:=H.k4 hB c d h
 replace hS:=hS.trans H
 refine Tw 11 t rfl rfl hS<|Td<|ZT rfl rfl rfl ?_
 exact L _ _ ((k+1,t)) Za ⟨rfl,rfl,trivial⟩ ⟨hB,(by rw[fi,Lg,hpos];have e:((fi l k).drop i).take ((fi l k).length-i)=(fi l k).drop i:=abe gj;rw[e]at p;simpa using p),Om,trivial⟩ (by show l.length-(k+1)<l.length-k;omega)
 refine Tp 3 rfl hS<|Tp 4 rfl hS<|Tp 5 rfl hS<|Tp 6 rfl hS<|Tp 7 rfl hS<|Tp 8 rfl hS<|Tp 9 rfl hS<|Tp 10 rfl hS<|Ty 11 rfl rfl hS<|Td<|dA rfl<|cR ?_
 have hpos:pR (fi l k) (l.getD k ⟨⟨0,0⟩,0⟩) (fi l k).length=i:=hp.trans (BL (by exact .inl (by omega)))
 have hsl:=pw l k
 have hC:(fi l k).length≤iZ v0:=(Sl.eqv ho.sl).2.1
 have hil:((i:Nat):Int).toNat=i:=rfl
 refine fe dz fQ (λI ag=> ?_)
 obtain⟨hB,ho,f⟩:=ag.k3 hB ho f
 have hS:=dz.refl I
 refine Tw 0 v0 rfl rfl hS<|Ti 1 rfl rfl hS<|Ti 2 rfl rfl hS<|Tk 3 rfl (λ_ hq=>nq (v:=v0) rfl ((hq.ow ho)).sl dM rfl rfl Om Om Om) hS ?_
 have c:dh gv 3 I (fP 3 v0 0 i i) (((fi l k).drop 0).take (i-0)):=ab2 eh ho.sl (by omega) (by omega) (by omega) (by omega)
 refine Tk 4 rfl (λ_ hq=>cy rfl dP rfl (hq.at f)) hS<|Tw 6 v0 rfl rfl hS<|Ti 7 rfl rfl hS<|Tk 8 rfl (λ_ hq=>nu (v:=v0) rfl ((hq.ow ho)).sl dM rfl Om Om) hS ?_
 have d:dh gv 3 I (fP 3 v0 i (fi l k).length (iZ v0)) (((fi l k).drop i).take ((fi l k).length-i)):=ab2 eh ho.sl (by omega) (by omega) (by omega) (by omega)
 refine To 5 rfl (eK (u:= .agg #[_,_,_]) rfl dM g7 rfl Dd Dd λg az z J E=>⟨.inl (hS.trans J),?_⟩)
 have F:=ZO z hB
 have r:=an (dz.size hS) (aae z.symm)
 have ah:=acf (b:=g) c (aae z.symm)
 have ai:=acf (b:=g) d (aae z.symm)
 obtain⟨hB,ho,c,d⟩:=J.k4 hB ho c d
 replace hS:=hS.trans J
 have R:=jU (enc:=gv) (a:=(l.getD k ⟨⟨0,0⟩,0⟩)) E rfl rfl F
 refine To 9 rfl (dZ (v:= .slice (some ⟨g,0,none⟩) 1 1) (v2:=fP 3 v0 i (fi l k).length (iZ v0)) rfl rfl dM g7 Dd R d (lp) (n4 hB) iq iq λG aA x h=>⟨.inl (db hS x (am _) (λj hj=>by have e:g=j:=Z9 hj;rw[←e];exact r)),?_⟩)
 replace hS:dz _ _:=db hS x (am _) (λj hj=>by have e:g=j:=Z9 hj;rw[←e];exact r)
 replace h:=cD.app (enc:=gv) rfl rfl rfl rfl h
 replace hB:=ZG hB x R
 replace c:=ab4 c ah x
 replace d:=ab4 d ai x
 refine To 10 rfl (jZ (N:=w.heap.size) (v:=fP 3 v0 0 i i) (v2:=G) rfl rfl dM g7 c (yJ iq) h.sl gj (Below.size hB) iq iq λt aB K p=>⟨.inl (hS.trans K),?_⟩)
 replace p:=cD.app (enc:=gv) rfl rfl rfl rfl p
 obtain⟨hB,c,d,h⟩:=K.k4 hB c d h
 replace hS:=hS.trans K
 refine Tw 11 t rfl rfl hS<|Td<|ZT rfl rfl rfl ?_
 exact L _ _ ((k+1,t)) Za ⟨rfl,rfl,trivial⟩ ⟨hB,(by rw[fi,Lg,hpos];have e:((fi l k).drop i).take ((fi l k).length-i)=(fi l k).drop i:=abe gj;rw[e]at p;simpa using p),Om,trivial⟩ (by show l.length-(k+1)<l.length-k;omega)
 refine cR<|Zr<|Zw v0 rfl<|Zw v0 rfl<|ct<|Zt<|cV (v:=v0) rfl ⟨hB,?_⟩
 obtain rfl:k=l.length:=by omega
 exact ho
theorem E9 (S:Sp) (onV mayV:Value) (w:World) (hon:dh fT 4 w onV S.on) (hmay:dh fT 4 w mayV S.may):
    Fn Tryz.prog 176 #[.agg #[.int .i64 S.n,onV,mayV]] w λv w'=>if dq S=true then ∃x,v= .tuple #[x, .int .i64 0]∧cD gv 3 158 w' w.heap.size x (eW S)else v= .tuple #[.slice none 0 0, .int .i64 1]:=by
 refine cH (n:=78) Tryz.func176 rfl rfl rfl λhB=> ?_
 refine Zr<|Zy (dt (c:= #[_,_,_]) rfl rfl λr W3 ax M a=> ?_)
 replace hB:=Ze hB M
 refine Zw (.slice none 0 0) rfl<|ZZ rfl<|Zq<|Zr<|Zv (cy rfl el rfl a)<|ZC (vs:=[.agg #[_,_,_]]) oB (iJ S _ _ _ (Below.slT hB hon) (Below.slT hB hmay)) rfl λay az N O=> ?_
 obtain⟨hB,a⟩:=N.k2 hB a
 obtain rfl:=O
 refine Zv (eR rfl)<|ct<|ZQ rfl (λt=> ?_) λt=> ?_
 refine Zr<|Zw (.slice none 0 0) rfl<|ZZ rfl<|Zt<|dL (v:= .slice none 0 0) rfl (v1:= .int .i64 1) rfl ⟨hB,?_⟩
 rw[if_neg (by rw[kT t];decide)]
 refine cu ?_
 have hr:dq S=true:=ms t
 obtain⟨h0,h8,h1,h4,h5,hin⟩:=dD.1 hr
 have aA:=OA (k:=S.may.length) (by omega)
 have aB:=aaz S.may.length
 refine Zr<|Zw (.slice none 0 0) rfl<|ct<|Zq<|Zr<|ZZ rfl<|cx ?_
 refine cS (σ:=(Nat)×(Value)) [4,10,12,12,16,75] (λ(o,v0)=>[(5, .int .i64 (o:Int)),(4,v0)]) (λsg W=>match sg with|(o,v0)=>(Below w.heap.size w W)∧(At W r _ 59)∧(cD gv 3 158 W w.heap.size v0 (kc S o))∧(1≤o∧o≤2^S.may.length)∧(True)) (λ(o,v0)=>2^S.may.length-o) ((1, .slice none 0 0)) ⟨rfl,rfl,trivial⟩ ⟨hB,a,(by rw[show kc S 1=[] from rfl];exact cD.nil),Om,trivial⟩ ?_
 rintro⟨o,v0⟩ aC aD ⟨hB,a,ho,hoo,_⟩ aE P
 refine Zq<|Zr<|Zi rfl<|Zf rfl gS<|ZL mayV rfl ft a rfl<|Zv (cT (v:=mayV) rfl (Below.slT hB hmay) eN)<|Zv (jA (m:=1) rfl rfl Om (by simp only[IntKind.bits];omega) tB)<|Zv (dk rfl rfl)<|ct<|ZQ rfl (λy=> ?_) λy=> ?_
 refine cu<|Zq<|cx ?_
 have hol:o<2^S.may.length:=by simp only[aap,so]at y;omega
 have hal:=vU (S:=S) h8 o
 refine Zr<|Zf rfl iF<|Zl rfl cK a rfl<|ZC vY (nn _ _) rfl λaF aG Q R=> ?_
 obtain⟨hB,a,ho⟩:=Q.k3 hB a ho
 obtain⟨sa,er,rfl,hhP7_2⟩:=r7 R
 refine Zw (.tuple #[.agg #[_,_,_,_], .int .i64 _]) rfl<|Zv (c7 rfl)<|Zv (da rfl)<|Zy (cI ee rfl λz T U V d=> ?_)
 have F:=ZO U hB
 obtain⟨hB,a,ho⟩:=V.k3 hB a ho
 replace d:At T z #[wv 0 0,wv 0 1,wv 0 2,wv 0 3] 40:=d
 refine Zy (cz rfl rfl cA rfl d rfl rfl λaH A X=> ?_)
 replace hB:=Zg hB A F
 replace a:=At.grownAt a d A Dd
 replace ho:=cD.grownAt ho d A Dd
 replace d:=X
 refine ZZ rfl<|Zq ?_
 obtain⟨_,_,hsa⟩:=zW hhP7_2 (λh=>h (hhP7_2.elim (λq=>q.2.2.2) (λq=>absurd ⟨h0,h8⟩ q.1)))
 subst hsa
 refine Zr<|Zf rfl gS<|ZL mayV rfl ft a rfl<|Zv (cT (v:=mayV) rfl (Below.slT hB hmay) eN)<|ZZ rfl<|cx ?_
 refine cS (σ:=(Nat)) [8,8,33,48] (λk=>[(33, .int .i64 (k:Int))]) (λk W=>(Below w.heap.size w W)∧(At W r _ 59)∧(cD gv 3 158 W w.heap.size v0 _)∧(At W z #[wv (lQ S o k) 0,wv (lQ S o k) 1,wv (lQ S o k) 2,wv (lQ S o k) 3] 40)∧(k≤S.may.length)∧(True)) (λk=>S.may.length-k) (0) ⟨rfl,trivial⟩ ⟨hB,a,ho,d,(my _),trivial⟩ ?_
 rintro k aI aJ ⟨hB,a,ho,d,hk,_⟩ aK G
 refine Zr<|Zv (dk rfl rfl)<|ct<|Zq<|ZQ rfl (λY=> ?_) λY=> ?_
 refine cu<|Zq<|cx<|Zr<|Zi rfl<|ZZ rfl<|Zr<|Zi rfl<|Zi rfl<|Zv (qd rfl rfl Om (by simp only[IntKind.bits];omega))<|Zv (mZ (n:=1) rfl rfl rfl (by simp only[ip];have:=aaY o (2^((k:Nat):Int).toNat);omega) Dd)<|Zv (dW rfl rfl) ?_
 refine ct<|ZQ rfl (λB=> ?_) λB=> ?_
 refine fe dz fQ (λZ aa=> ?_)
 obtain⟨hB,a,ho,d⟩:=aa.k4 hB a ho d
 have hS:=dz.refl Z
 refine Tk 0 rfl (λ_ hq=>cy rfl cA rfl (hq.at d)) hS<|Tf 1 rfl rfl gS hS<|Tk 2 rfl (λ_ hq=>cB (v:=mayV) rfl ft (At.cell (hq.at a) rfl)) hS<|Ti 3 rfl rfl hS<|Tk 4 rfl (λ_ hq=>df (v:=mayV) rfl (hq.slT (Below.slT hB hmay)) rfl eN Om (by omega)) hS<|Tk 5 rfl (λ_ hq=>fv rfl cA (dh.cell (hq.slT (Below.slT hB hmay)) dE 0 Om (by omega) 0 rfl) (dh.cell (hq.slT (Below.slT hB hmay)) dE 0 Om (by omega) 1 rfl) (dh.cell (hq.slT (Below.slT hB hmay)) dE 0 Om (by omega) 2 rfl) (dh.cell (hq.slT (Below.slT hB hmay)) dE 0 Om (by omega) 3 rfl)) hS<|To 6 rfl (TC (vs:=[.agg #[_,_,_,_], .agg #[_,_,_,_]]) tz (pp _ _ _) rfl λaL aM H ab=>⟨.inl (hS.trans H),?_⟩)
 obtain⟨hB,a,ho,d⟩:=H.k4 hB a ho d
 obtain rfl:=ab
 refine To 7 rfl (cz rfl rfl cA rfl d rfl rfl λaN C ac=>⟨.inr jW,?_⟩)
 replace hB:=Zg hB C F
 replace a:=At.grownAt a d C Dd
 replace ho:=cD.grownAt ho d C Dd
 replace d:=ac
 refine Td<|ZT rfl rfl rfl ?_
 exact G _ _ (k+1) Za ⟨rfl,trivial⟩ ⟨hB,a,ho,(by (rw[←TS (Ij B)];exact d)),Om,trivial⟩ Zo
 refine cu<|ZT rfl rfl rfl ?_
 exact G _ _ (k+1) Za ⟨rfl,trivial⟩ ⟨hB,a,ho,(by (rw[←TF (I1 B)];exact d)),Om,trivial⟩ Zo
 refine cR ?_
 obtain rfl:k=S.may.length:=by omega
 refine Zr<|Zv (cy rfl cA rfl d)<|Zf rfl iF<|Zl rfl cK a rfl<|ZC (vs:=[.agg #[_,_,_,_], .int .i64 _]) P0 (El (gY S o) _ _) rfl λaO aP ad ae=> ?_
 have af:=(Below.size hB)
 obtain⟨hB,a,ho,d⟩:=ad.k4 hB a ho d
 obtain⟨x_hP14_3,er_hP14_3,l_hP14_3,rfl,ho_hP14_3,hc_hP14_3⟩:=Qj ae
 replace ho_hP14_3:=cD.mono ho_hP14_3 af
 refine Zw (.tuple #[x_hP14_3, .int .i64 _]) rfl<|Zv (c7 rfl)<|Zv (da rfl)<|Zw x_hP14_3 rfl<|ZZ rfl ?_
 obtain⟨q2,q3⟩:=hc_hP14_3.elim (λh=>h.2) (λh=>absurd (M4 hr o) (by rw[h.1];decide))
 subst q2 q3
 have hpl:=wF (s:=gY S o) h8
 refine Zr<|Zw x_hP14_3 rfl<|Zv (cT (v:=x_hP14_3) rfl ho_hP14_3.sl eo)<|ZZ rfl<|cx ?_
 refine cS (σ:=(Nat)×(Value)) [4,4,12,12,58,75] (λ(i,v1)=>[(58, .int .i64 (i:Int)),(4,v1)]) (λsg W=>match sg with|(i,v1)=>(Below w.heap.size w W)∧(At W r _ 59)∧(At W z _ 40)∧(cD im 2 34 W w.heap.size x_hP14_3 _)∧(cD gv 3 158 W w.heap.size v1 (kc S o++jk S o i))∧(i≤(ej (gY S o) S.n).length)∧(True)) (λ(i,v1)=>(ej (gY S o) S.n).length-i) ((0,v0)) ⟨rfl,rfl,trivial⟩ ⟨hB,a,d,ho_hP14_3,(by rw[jk,aaT];exact ho),(my _),trivial⟩ ?_
 rintro⟨i,v1⟩ aQ aR ⟨hB,a,d,ho_hP14_3,f,hi,_⟩ aS I
 refine Zr<|Zv (dk rfl rfl)<|ct<|Zq<|ZQ rfl (λag=> ?_) λag=> ?_
 refine cu<|Zq<|cx ?_
 have hci:((ej (gY S o) S.n).getD i ⟨0,0⟩).m<256∧((ej (gY S o) S.n).getD i ⟨0,0⟩).v<256:=Pm h8 (by omega)
 have hrl:=tt S o i
 have hol2:=vS S ((ej (gY S o) S.n).getD i ⟨0,0⟩) S.may.length
 refine Zr<|Zv (df (v:=x_hP14_3) rfl ho_hP14_3.sl rfl eo Om (by omega))<|Zv (fD rfl cZ (dh.cell ho_hP14_3.sl gr ⟨0,0⟩ Om (by omega) 0 rfl) (dh.cell ho_hP14_3.sl gr ⟨0,0⟩ Om (by omega) 1 rfl))<|Zy (cI gV rfl λah aT J ai g=> ?_)
 have aj:=ZO J hB
 have ak:=aaQ (b:=ah) ho_hP14_3 (aae J.symm)
 obtain⟨hB,a,d,ho_hP14_3,f⟩:=ai.k5 hB a d ho_hP14_3 f
 refine Zy (cz rfl rfl cZ rfl g rfl rfl λaU j al=> ?_)
 replace hB:=Zg hB j aj
 replace a:=At.grownAt a g j Dd
 replace d:=At.grownAt d g j Dd
 replace ho_hP14_3:=aat ho_hP14_3 ak j
 replace f:=cD.grownAt f g j Dd
 replace g:=al
 refine ct<|Zr<|Zv (cy rfl el rfl a)<|Zv (cy rfl cZ rfl g)<|ZC (vs:=[.agg #[_,_,_], .agg #[_,_]]) Db (pC S _ _ ((ej (gY S o) S.n).getD i ⟨0,0⟩) _ (Below.slT hB hon) (Below.slT hB hmay) hci Om) rfl λaV aW ao ap=> ?_
 obtain⟨hB,a,d,ho_hP14_3,f,g⟩:=ao.k6 hB a d ho_hP14_3 f g
 obtain rfl:=ap
 refine Zi rfl<|Zv (ic rfl Tryz.underlying3 Tryz.underlying5 oG)<|Zv (dW rfl rfl)<|ct<|ZQ rfl (λD=> ?_) λD=> ?_
 refine cN<|Zw v1 rfl<|Zv (cy rfl cZ rfl g)<|Zi rfl<|Zv (ic rfl Tryz.underlying3 Tryz.underlying5 oG)<|Zv (kw (h0:=rfl) (h1:=rfl) (k1:=rfl) (c1_0:= .int .u8 _))<|Zy (eK (u:= .agg #[_,_,_]) rfl dM g7 rfl Dd Dd λaq aX aY ar au=> ?_)
 obtain⟨hB,a,d,ho_hP14_3,f⟩:=ar.k5 hB a d ho_hP14_3 f
 refine Zy (dZ (v:=v1) (v2:= .slice (some ⟨aq,0,none⟩) 1 1) rfl rfl dM g7 Dd f (eT au rfl) rfl (n4 hB) zX zX λK aZ l E=> ?_)
 replace E:=cD.snoc (enc:=gv) (x:=⟨(ej (gY S o) S.n).getD i ⟨0,0⟩,o⟩) rfl rfl rfl rfl E
 replace hB:=ZG hB l f
 replace a:=At.grownOw a f l Dd
 replace d:=At.grownOw d f l Dd
 replace ho_hP14_3:=cD.grownOw ho_hP14_3 f l Dd
 refine Zw K rfl<|ct<|ZT rfl rfl rfl ?_
 exact I _ _ ((i+1,K)) Za ⟨rfl,rfl,trivial⟩ ⟨hB,a,d,ho_hP14_3,(by (rw[←N7 (Ot D),←aav];exact E)),Om,trivial⟩ (by show (ej (gY S o) S.n).length-(i+1)<(ej (gY S o) S.n).length-i;omega)
 refine cu<|ZT rfl rfl rfl ?_
 exact I _ _ ((i+1,v1)) Za ⟨rfl,rfl,trivial⟩ ⟨hB,a,d,ho_hP14_3,(by (rw[←Mm (λh=>D (congrArg Int.ofNat h))];exact f)),Om,trivial⟩ (by show (ej (gY S o) S.n).length-(i+1)<(ej (gY S o) S.n).length-i;omega)
 refine cR<|cN<|Zi rfl<|Zv (eP rfl rfl Om Om)<|ZZ rfl ?_
 exact P _ _ ((o+1,v1)) Za ⟨rfl,rfl,trivial⟩ ⟨hB,a,(by rw[←H4 Om];have e:i=(ej (gY S o) S.n).length:=Om;subst e;exact f),Om,trivial⟩ (by show 2^S.may.length-(o+1)<2^S.may.length-o;omega)
 refine cR ?_
 obtain rfl:o=2^S.may.length:=by simp only[aap,so]at y;omega
 have hal:=vU (S:=S) h8 (2^S.may.length)
 refine Zr<|Zw v0 rfl<|ZC SG (pl _ (eW S) 229 _ ho.sl Qn (λm u o m2 u2 o2 w=>Ae m u o m2 u2 o2 w) (show (kc S (2^S.may.length)).length≤2000000 by omega)) rfl λL a0 av p=> ?_
 have a1:=abU ho
 have aw:=(Below.size hB)
 replace hB:=Ze hB av
 replace p:=cD.mono p aw
 rw[Kg]at p
 refine Zw L rfl<|ZZ rfl<|Zt<|dL (v:=L) rfl (v1:= .int .i64 0) rfl ⟨hB,?_⟩
 rw[if_pos hr]
 exact⟨_,rfl,p⟩
theorem uZ (S:Sp) (onV mayV:Value) (x:Rw) (w:World) (hon:dh fT 4 w onV S.on) (hmay:dh fT 4 w mayV S.may) (hbx:x.c.m<256∧x.c.v<256∧x.o<256):
    Fn Tryz.prog 150 #[.agg #[.int .i64 S.n,onV,mayV], .agg #[.int .u8 (x.c.m:Int), .int .u8 (x.c.v:Int), .int .u8 (x.o:Int)]] w λv w'=>v=if qw S x=true then .tuple #[.agg #[.int .u8 ((wo S x).c.m:Int), .int .u8 ((wo S x).c.v:Int), .int .u8 ((wo S x).o:Int)], .int .i64 0]else .tuple #[.agg #[.int .u8 0, .int .u8 0, .int .u8 0], .int .i64 1]:=by
 refine cH (n:=36) Tryz.func150 rfl rfl rfl λhB=> ?_
 refine Zr<|Zy (dt (c:= #[_,_,_]) rfl rfl λJ W3 ap K d=> ?_)
 replace hB:=Ze hB K
 refine Zy (dt (c:= #[_,_,_]) rfl rfl λL W6 M N a=> ?_)
 have k:=ZO M hB
 obtain⟨hB,d⟩:=N.k2 hB d
 refine Zy (cI jD rfl λO W9 F P b=> ?_)
 have G:=ZO F hB
 have l:=Zn F a.lt
 obtain⟨hB,d,a⟩:=P.k3 hB d a
 refine ZZ rfl<|Zq<|Zr<|Zv (cy rfl el rfl d)<|Zv (cy rfl dP rfl a)<|ZC (vs:=[.agg #[_,_,_], .agg #[_,_,_]]) Cg (nZ S _ _ _ _ _ _ (Below.slT hB hon) (Below.slT hB hmay) hbx.1 hbx.2.1 hbx.2.2) rfl λaq ar Q R=> ?_
 obtain⟨hB,d,a,b⟩:=Q.k4 hB d a b
 obtain rfl:=R
 refine Zv (eR rfl)<|ct<|ZQ rfl (λp=> ?_) λp=> ?_
 refine Zr<|Zv (Cu)<|Zy (cz rfl rfl dP rfl b rfl rfl λau T U=> ?_)
 replace hB:=Zg hB T G
 replace b:=U
 refine ZZ rfl<|Zt<|eI rfl dP b rfl (v1:= .int .i64 1) rfl ⟨hB,?_⟩
 rw[if_neg (by rw[show qw S x=false from kT p];decide)]
 refine cu<|Zq ?_
 have hi:qw S x=true:=ms p
 obtain⟨h0,h8,h1,h4,h5,hin⟩:=dD.1 (ie.1 hi).1
 refine Zr<|Zf rfl iF<|Zl rfl cK d rfl<|ZZ rfl<|cx ?_
 refine cS (σ:=(Nat)) [6,7,15,29] (λi=>[(15, .int .i64 (i:Int))]) (λi W=>(Below w.heap.size w W)∧(At W J _ 59)∧(At W O _ 158)∧(At W L #[.int .u8 ((d9 S x i).m:Int), .int .u8 ((d9 S x i).v:Int), .int .u8 (x.o:Int)] 158)∧((i:Int)≤S.n)∧(True)) (λi=>S.n.toNat-i) (0) ⟨rfl,trivial⟩ ⟨hB,d,b,a,Om,trivial⟩ ?_
 rintro i av aw ⟨hB,d,b,a,hi2,_⟩ ax g
 refine Zr<|Zv (dk rfl rfl)<|ct<|Zq<|ZQ rfl (λV=> ?_) λV=> ?_
 refine cu<|Zq<|cx ?_
 have hg:=uB (S:=S) (x:=x) ⟨hbx.1,hbx.2.1⟩ i
 have hle:=yn (d9 S x i).m (i:Int)
 have hle2:(d9 S x i).v &&& lI (d9 S x i).m (i:Int)≤(d9 S x i).v:=Nat.and_le_left
 refine Zr<|Zi rfl<|ZZ rfl<|Zd dz λX Y=> ?_
 obtain⟨hB,d,b,a⟩:=Y.k4 hB d b a
 have hS:=dz.refl X
 refine Tf 0 rfl rfl gE hS<|Tk 1 rfl (λ_ hq=>fD rfl cZ (At.cell (hq.at a) rfl) (At.cell (hq.at a) rfl)) hS<|Ti 2 rfl rfl hS<|Tf 4 rfl rfl fy hS<|Tk 5 rfl (λ_ hq=>cB (v:= .int .u8 _) rfl dK (At.cell (hq.at a) rfl)) hS ?_
 refine tw 3 7 jW rfl rfl rfl rfl rfl rfl rfl rfl (Yd.call (xR xo (v0:= .agg #[_,_]) rfl (v1:= .int .i64 _) rfl) (lB _ _ (i:Int) _ hg.1 hg.2) (λZ ay q r=>⟨.inl (hS.trans q),?_⟩)) (cI jD rfl (λaa az s t e=>⟨.inl (hS.trans t),?_⟩))
 obtain⟨hB,d,b,a⟩:=q.k4 hB d b a
 replace hS:=hS.trans q
 obtain rfl:=r
 refine Tk 6 rfl (λ_ _=>kw (h0:=rfl) (h1:=rfl) (k1:=rfl) (c1_0:= .int .u8 _)) hS<|To 7 rfl (cI jD rfl λaa aA u H e=>⟨.inl (hS.trans H),?_⟩)
 have y:=ZO u hB
 have z:=Zn u b.lt
 have A:=Zn u a.lt
 obtain⟨hB,d,b,a⟩:=H.k4 hB d b a
 refine To 8 rfl (cz rfl rfl dP rfl e rfl rfl λaB h ab=>⟨.inr jW,?_⟩)
 replace hB:=Zg hB h y
 replace d:=At.grownAt d e h Dd
 replace b:=At.grownNe b z h
 replace a:=At.grownNe a A h
 replace e:=ab
 refine Td<|Zr<|Zv (cy rfl el rfl d)<|Zv (cy rfl dP rfl e)<|ZC (vs:=[.agg #[_,_,_], .agg #[_,_,_]]) Cg (nZ S _ _ (jF (d9 S x i) i).m (jF (d9 S x i) i).v x.o _ (Below.slT hB hon) (Below.slT hB hmay) (by show lI (d9 S x i).m (i:Int)<256;omega) (by show (d9 S x i).v &&& lI (d9 S x i).m (i:Int)<256;omega) hbx.2.2) rfl λac aC ad B=> ?_
 obtain⟨hB,d,b,a,e⟩:=ad.k5 hB d b a e
 obtain rfl:=B
 refine ct<|ZQ rfl (λf=> ?_) λf=> ?_
 refine cN<|Zv (cy rfl dP rfl e)<|Zy (cz rfl rfl dP rfl a rfl rfl λaD C ae=> ?_)
 replace hB:=Zg hB C k
 replace d:=At.grownAt d a C Dd
 replace b:=At.grownNe b (Ne.symm l) C
 replace a:=ae
 refine ct<|ZT rfl rfl rfl ?_
 exact g _ _ (i+1) Za ⟨rfl,trivial⟩ ⟨hB,d,b,(by (rw[←Ja f];exact a)),Om,trivial⟩ Zo
 refine cu<|ZT rfl rfl rfl ?_
 exact g _ _ (i+1) Za ⟨rfl,trivial⟩ ⟨hB,d,b,(by (rw[←IY f];exact a)),Om,trivial⟩ Zo
 have y:=ZO s hB
 have z:=Zn s b.lt
 have A:=Zn s a.lt
 obtain⟨hB,d,b,a⟩:=t.k4 hB d b a
 replace hS:=hS.trans t
 refine To 3 rfl (TC (vs:=[.agg #[_,_], .int .i64 _]) xo (lB _ _ (i:Int) _ hg.1 hg.2) rfl λZ aE D r=>⟨.inl (hS.trans D),?_⟩)
 obtain⟨hB,d,b,a,e⟩:=D.k5 hB d b a e
 replace hS:=hS.trans D
 obtain rfl:=r
 refine Tk 6 rfl (λ_ _=>kw (h0:=rfl) (h1:=rfl) (k1:=rfl) (c1_0:= .int .u8 _)) hS<|To 8 rfl (cz rfl rfl dP rfl e rfl rfl λaF j af=>⟨.inr jW,?_⟩)
 replace hB:=Zg hB j y
 replace d:=At.grownAt d e j Dd
 replace b:=At.grownNe b z j
 replace a:=At.grownNe a A j
 replace e:=af
 refine Td<|Zr<|Zv (cy rfl el rfl d)<|Zv (cy rfl dP rfl e)<|ZC (vs:=[.agg #[_,_,_], .agg #[_,_,_]]) Cg (nZ S _ _ (jF (d9 S x i) i).m (jF (d9 S x i) i).v x.o _ (Below.slT hB hon) (Below.slT hB hmay) (by show lI (d9 S x i).m (i:Int)<256;omega) (by show (d9 S x i).v &&& lI (d9 S x i).m (i:Int)<256;omega) hbx.2.2) rfl λac aG ag B=> ?_
 obtain⟨hB,d,b,a,e⟩:=ag.k5 hB d b a e
 obtain rfl:=B
 refine ct<|ZQ rfl (λf=> ?_) λf=> ?_
 refine cN<|Zv (cy rfl dP rfl e)<|Zy (cz rfl rfl dP rfl a rfl rfl λaH E ah=> ?_)
 replace hB:=Zg hB E k
 replace d:=At.grownAt d a E Dd
 replace b:=At.grownNe b (Ne.symm l) E
 replace a:=ah
 refine ct<|ZT rfl rfl rfl ?_
 exact g _ _ (i+1) Za ⟨rfl,trivial⟩ ⟨hB,d,b,(by (rw[←Ja f];exact a)),Om,trivial⟩ Zo
 refine cu<|ZT rfl rfl rfl ?_
 exact g _ _ (i+1) Za ⟨rfl,trivial⟩ ⟨hB,d,b,(by (rw[←IY f];exact a)),Om,trivial⟩ Zo
 refine cR ?_
 obtain rfl:i=S.n.toNat:=by omega
 refine Zr<|Zv (cy rfl el rfl d)<|Zf rfl gE<|Zv (fD rfl cZ (At.cell a rfl) (At.cell a rfl))<|ZC (vs:=[.agg #[_,_,_], .agg #[_,_]]) Db (pC S _ _ (d9 S x S.n.toNat) _ (Below.slT hB hon) (Below.slT hB hmay) (uB ⟨hbx.1,hbx.2.1⟩ _) Om) rfl λaI aJ ai aj=> ?_
 obtain⟨hB,b,a⟩:=ai.k3 hB b a
 obtain rfl:=aj
 refine Zf rfl fy<|Zy (dm (v:= .int .u8 _) rfl rfl dK rfl a gj λaK I ak=> ?_)
 replace hB:=Zg hB I k
 replace b:=At.grownNe b (Ne.symm l) I
 replace a:=ak
 replace a:At _ _ #[_,_,_] _:=a
 refine ct<|Zr<|Zv (cy rfl dP rfl a)<|Zy (cz rfl rfl dP rfl b rfl rfl λaL al ao=> ?_)
 replace hB:=Zg hB al G
 replace b:=ao
 refine ZZ rfl<|Zt<|eI rfl dP b rfl (v1:= .int .i64 0) rfl ⟨hB,?_⟩
 rw[if_pos hi]
 rfl
end
section
open Go Go.RowKit
def ix (l:List Rw):Prop:=∀x,x∈l→x.c.m<256∧x.c.v<256∧x.o<256
theorem ix.get {l:List Rw} (h:ix l) {k:Nat} (hk:k<l.length):(l.getD k ⟨⟨0,0⟩,0⟩).c.m<256∧(l.getD k ⟨⟨0,0⟩,0⟩).c.v<256∧(l.getD k ⟨⟨0,0⟩,0⟩).o<256:=h _ (dy hk)
theorem Na {S:Sp} {l:List Rw} {k:Nat} (hk:k<l.length) (h:¬Pr S (l.getD k ⟨⟨0,0⟩,0⟩)=true):Value.bool false= .bool (mQ S l):=w7 λhm=>h (ko.1 hm k hk)
theorem WU {S:Sp} {x:Rw} (h:(!dC x.c.m x.c.v S.n)=true):¬Pr S x=true:=λhk=>by
 rw[(ig.1 hk).1]at h;cases h
theorem Yt {S:Sp} {x:Rw} (h:(x.o:Int)=0):¬Pr S x=true:=λhk=>by
 have:=(ig.1 hk).2.1;omega
theorem WK {S:Sp} {x:Rw} (h:((1*2^S.on.length:Nat):Int)≤(x.o:Int)):¬Pr S x=true:=λhk=>by
 have:=(ig.1 hk).2.2
 rw[aap]at h;omega
theorem Ww {S:Sp} {x:Rw} (h:(!dC x.c.m x.c.v S.n)=false) (h2:¬(x.o:Int)=0) (h3:¬((1*2^S.on.length:Nat):Int)≤(x.o:Int)):Pr S x=true:=by
 rw[aap]at h3
 exact ig.2 ⟨ms h,by omega,by omega⟩
def Av (l:List Rw) (n out:Int):Bool:=decide (0≤n∧n≤8∧0≤out∧out<4)&&l.all λx=>dC x.c.m x.c.v n
theorem tR {l:List Rw} {n out:Int}:Av l n out=true↔(0≤n∧n≤8∧0≤out∧out<4)∧∀k,k<l.length→dC (l.getD k ⟨⟨0,0⟩,0⟩).c.m (l.getD k ⟨⟨0,0⟩,0⟩).c.v n=true:=by
 unfold Av
 rw[we,decide_eq_true_eq,aaj]
 constructor
 ·rintro⟨h1,h2⟩;exact⟨h1,λk hk=>h2 _ (dy hk)⟩
 ·rintro⟨h1,h2⟩
  refine⟨h1,λx hx=> ?_⟩
  obtain⟨k,hk,rfl⟩:=eZ (d:=⟨⟨0,0⟩,0⟩) hx
  exact h2 k hk
theorem xP {l:List Rw} {n out:Int} (h:¬(0≤n∧n≤8∧0≤out∧out<4)):¬Av l n out=true:=λk=>h (tR.1 k).1
theorem V5 {l:List Rw} {n out:Int} {k:Nat} (hk:k<l.length) (h:dC (l.getD k ⟨⟨0,0⟩,0⟩).c.m (l.getD k ⟨⟨0,0⟩,0⟩).c.v n=false):¬Av l n out=true:=λq=>by
 rw[(tR.1 q).2 k hk]at h;cases h
theorem R2 {l:List Rw} {n out:Int} {v:Value} (h:v=if Av l n out=true then .tuple #[eb (nT l n.toNat out.toNat l.length), .int .i64 0]else .tuple #[eb 0, .int .i64 1]):
  ∃(sa:Nat) (er:Int),v= .tuple #[eb sa, .int .i64 er]∧((Av l n out=true∧sa=nT l n.toNat out.toNat l.length∧er=0)∨(Av l n out=false∧sa=0∧er=1)):=by
 by_cases ho:Av l n out=true
 ·rw[if_pos ho]at h
  exact⟨_,_,h, .inl ⟨ho,rfl,rfl⟩⟩
 ·rw[if_neg ho]at h
  exact⟨_,_,h, .inr ⟨by simpa using ho,rfl,rfl⟩⟩
theorem Sj {S:Sp} {l:List Rw} {o:Nat} (hr:dq S=true) (hm:mQ S l=true) (ho:o<S.on.length):Av l S.n (o:Int)=true:=by
 obtain⟨h0,h8,h1,h4,h5,_⟩:=dD.1 hr
 exact tR.2 ⟨by omega,λk hk=>(ig.1 (ko.1 hm k hk)).1⟩
theorem Uy {S:Sp} {l:List Rw} (h:dq S=false):Value.bool false= .bool (io S l):=w7 λk=>by
 rw[(fN.1 k).1]at h;cases h
theorem Uk {S:Sp} {l:List Rw} (h:mQ S l=false):Value.bool false= .bool (io S l):=w7 λk=>by
 rw[(fN.1 k).2.1]at h;cases h
theorem VS {S:Sp} {l:List Rw} {o:Nat} (ho:o<S.on.length) (h:eO (Bh S o) (nT l S.n.toNat o l.length)=false):Value.bool false= .bool (io S l):=w7 λk=>by
 have:=(fN.1 k).2.2 o ho
 unfold B6 at this
 rw[h]at this;cases this
theorem V4 {S:Sp} {l:List Rw} {o:Nat} (ho:o<S.on.length) (h:eO (nT l S.n.toNat o l.length) (kM S o)=false):Value.bool false= .bool (io S l):=w7 λk=>by
 have:=(fN.1 k).2.2 o ho
 unfold B6 at this
 rw[h,aaB]at this;cases this
theorem Oq {S:Sp} {l:List Rw} {o:Nat} (h1:eO (Bh S o) (nT l S.n.toNat o l.length)=true) (h2:eO (nT l S.n.toNat o l.length) (kM S o)=true):B6 S l o=true:=by
 unfold B6;rw[h1,h2];rfl
def DA (l:List Rw) (p o:Nat):Bool:=l.any λx=>x.o.testBit o&&mE x.c.m x.c.v p
theorem uY {l:List Rw} {p o:Nat}:DA l p o=true↔∃k,k<l.length∧((l.getD k ⟨⟨0,0⟩,0⟩).o.testBit o&&mE (l.getD k ⟨⟨0,0⟩,0⟩).c.m (l.getD k ⟨⟨0,0⟩,0⟩).c.v p)=true:=by
 unfold DA
 rw[aaO]
 constructor
 ·rintro⟨x,hx,h⟩
  obtain⟨k,hk,rfl⟩:=eZ (d:=⟨⟨0,0⟩,0⟩) hx
  exact⟨k,hk,h⟩
 ·rintro⟨k,hk,h⟩;exact⟨_,dy hk,h⟩
theorem jR {S:Sp} {l:List Rw} {o:Nat} (hr:dq S=true) (hm:mQ S l=true) (ho:o<S.on.length):
  B6 S l o=true↔∀p,p<2^S.n.toNat→((Bh S o).testBit p=true→DA l p o=true)∧(DA l p o=true→(kM S o).testBit p=true):=by
 obtain⟨h0,h8,h1,h4,h5,hin⟩:=dD.1 hr
 have hp:=fq h8
 obtain⟨w1,w2⟩:=hin o ho
 have hcv:∀p,p<2^S.n.toNat→((nT l S.n.toNat o l.length).testBit p=true↔DA l p o=true):=λp hpn=>by
  rw[lE (by omega) p _ (am _),uY]
  have key:∀k,k<l.length→(UH (l.getD k ⟨⟨0,0⟩,0⟩) o p↔((l.getD k ⟨⟨0,0⟩,0⟩).o.testBit o&&mE (l.getD k ⟨⟨0,0⟩,0⟩).c.m (l.getD k ⟨⟨0,0⟩,0⟩).c.v p)=true):=λk hk=>by
   have hv:=(dw.1 (ig.1 (ko.1 hm k hk)).1).2.2.2
   unfold UH hold mE
   rw[we,decide_eq_true_eq,hv]
  constructor
  ·rintro⟨_,k,hk,h⟩;exact⟨k,hk,(key k hk).1 h⟩
  ·rintro⟨k,hk,h⟩;exact⟨hpn,k,hk,(key k hk).2 h⟩
 unfold B6
 rw[we,d4,d4]
 constructor
 ·rintro⟨g1,g2⟩ p hpn
  exact⟨λh=>(hcv p hpn).1 (g1 p (by omega) h),λh=>g2 p (by omega) ((hcv p hpn).2 h)⟩
 ·intro g
  have hlt:∀p,p<256→(kM S o).testBit p=true→p<2^S.n.toNat:=λp hp2 h=>by
   have:=d4.1 w2 p hp2 h
   rw[fw]at this
   simpa using this
  refine⟨λp hp2 h=> ?_,λp hp2 h=> ?_⟩
  ·have hpn:=hlt p hp2 (d4.1 w1 p hp2 h)
   exact(hcv p hpn).2 ((g p hpn).1 h)
  ·have hpn:=((lE (by omega) p _ (am _)).1 h).1
   exact(g p hpn).2 ((hcv p hpn).1 h)
theorem M9 {o:Nat} {i:Int} (h:((o/2^i.toNat &&& 1:Nat):Int)=1):o.testBit i.toNat=true:=oA.1 h
theorem Ox {o:Nat} {i:Int} (h:¬((o/2^i.toNat &&& 1:Nat):Int)=1):¬o.testBit i.toNat=true:=λk=>h (oA.2 k)
end
end Go.Proofs.YtedeonkjellcpaaGreatDoor
