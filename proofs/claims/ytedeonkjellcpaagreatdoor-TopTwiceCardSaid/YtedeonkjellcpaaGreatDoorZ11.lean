/- Words and walks of the row. No condition. -/
import Derived.Test.YtedeonkjellcpaaGreatDoorScp
namespace Go.Proofs.YtedeonkjellcpaaGreatDoor
open Go Go.RowKit
set_option autoImplicit true
set_option relaxedAutoImplicit true
set_option linter.unusedVariables false
set_option linter.unusedSimpArgs false
section
theorem nV:jE L k=true↔∀i,i<k→0<(L.getD i []).length:=by
 unfold jE
 grind
theorem Z7 (hk:k<L.length) (h:((L.getD k []).length:Int)=0):Value.bool false= .bool (jE L L.length):=by grind [x8,nV]
theorem YU (hk:k=L.length) (h:∀q,q<k→¬((L.getD q []).length:Int)=0):Value.bool true= .bool (jE L L.length):=by grind [Re,nV]
theorem Vh (hj:j<(L.getD i []).length) (h:(iN (fC (Bd L i)) ((L.getD i []).getD j 0)).getD false=true):Fg (Bd L i) (L.getD i [])=true:=acC.2 ⟨_,dF hj,decide_eq_true (uS h)⟩
theorem VX (hj:j=(L.getD i []).length) (h:∀q,q<j→(iN (fC (Bd L i)) ((L.getD i []).getD q 0)).getD false=false):¬Fg (Bd L i) (L.getD i [])=true:=λe=>by
 obtain⟨c,h1,h2⟩:=acC.1 e
 obtain⟨q,hq,rfl⟩:=fh (d:=0) h1
 exact rE (h q (by omega)) (of_decide_eq_true h2)
theorem X3 (h:Fg (Bd L k) (L.getD k [])=true):Bd L (k+1)=Bd L k:=if_pos h
theorem ZR (h:¬Fg (Bd L k) (L.getD k [])=true):Bd L (k+1)=rk (Bd L k) (L.getD k []) (L.getD k []).length:=if_neg h
theorem aaE (h:Fg (Bd L k) (L.getD k [])=true):Value.int .i64 (Fq L k:Int)= .int .i64 (Fq L (k+1):Int):=by rw[Fq,if_pos h]
theorem Y2 (h:¬Fg (Bd L k) (L.getD k [])=true):Value.int .i64 ((Fq L k:Int)+1)= .int .i64 (Fq L (k+1):Int):=by rw[Fq,if_neg h];rfl
theorem I4 (L:ML):∀k,Fq L k≤k
 |0=>am _
 |k+1=>by
  have:=I4 L k
  rw[Fq]
  split<;>omega
theorem abt {r:List Int} {c:Int} {j:Nat} (h:c∈r.take j):Value.bool true= .bool (decide (c∈r.take (j+1))):=by grind
theorem abP {r:List Int} {c:Int} {j:Nat} (hj:j<r.length) (h:¬c∈r.take j):Value.bool (decide (r.getD j 0=c))= .bool (decide (c∈r.take (j+1))):=by
 congr 1
 rw[decide_eq_decide,acg,aaQ,th hj,Do,th hj]
 grind
structure Bb (L:ML) (i M:Nat) (l:List (Int×Int)):Prop where
 nd:(l.map (·.1)).Nodup
 inl:∀c,c∈l.map (·.1)→sQ L c
 lim:∀p,p∈l→0≤p.2∧p.2≤M
 ne:∀k,k<i→0<(L.getD k []).length→l≠[]
section
variable {L:ML} {i j M:Nat} {l:List (Int×Int)} {c:Int}
theorem Bb.nil:Bb L 0 0 []:=⟨List.nodup_nil,λc h=>(by cases h),λp h=>(by cases h),λk hk=>(by cases hk)⟩
theorem Bb.mono (h:Bb L i M l) (hM:M≤M'):Bb L i M' l:=⟨h.nd,h.inl,λp hp=>⟨(h.lim p hp).1,by have:=(h.lim p hp).2;omega⟩,h.ne⟩
theorem Bb.get (h:Bb L i M l) (c:Int):0≤(iN l c).getD 0∧(iN l c).getD 0≤M:=by
 cases e:iN l c with
 |none=>exact⟨Int.le_refl _,Int.natCast_nonneg _⟩
 |some v=>exact h.lim (c,v) ((nP h.nd).1 e)
theorem Li {α β:Type} [DecidableEq α] {l:List (α×β)} {c:α} {v:β} {p:α×β} (h:p∈iM l c v):p=(c,v)∨p∈l:=by
 grind [iM,List.mem_singleton]
theorem KA {v:Int}:iM l c v≠[]:=λe=>by
 have:=lh l c v
 rw[e]at this
 have h2:c∈jm (l.map (·.1)) c:=gy.2 (.inr rfl)
 rw[←this]at h2
 cases h2
theorem Bb.put (h:Bb L i M l) (hi:i<L.length) (hj:j<(L.getD i []).length):Bb L i (M+1) (iM l ((L.getD i []).getD j 0) ((iN l ((L.getD i []).getD j 0)).getD 0+1)):=by
 refine⟨?_,λc hc=> ?_,λp hp=> ?_,λk _ _=>KA⟩
 ·rw[lh];exact ka h.nd _
 ·rw[lh]at hc
  rcases gy.1 hc with k|rfl
  ·exact h.inl c k
  ·exact⟨_,dF (d:=[]) hi,dF hj⟩
 ·rcases Li hp with rfl|k
  ·have:=h.get ((L.getD i []).getD j 0)
   exact⟨by dsimp only;omega,by dsimp only;omega⟩
  ·have:=h.lim p k
   exact⟨this.1,by omega⟩
theorem Bb.next (h:Bb L i M l) (hn:0<(L.getD i []).length→l≠[]) (hM:M≤M'):Bb L (i+1) M' l:=⟨h.nd,h.inl,λp hp=>⟨(h.lim p hp).1,by have:=(h.lim p hp).2;omega⟩,λk hk hkl=>by
 rcases aaU.1 hk with q|rfl
 ·exact h.ne k q hkl
 ·exact hn hkl⟩
def BeP (L:ML) (seen:List Int) (b:Int):Prop:=(seen=[]∧b= -1)∨(0≤b∧sQ L b)
theorem IO {n v:Int} {seen:List Int} (hr:dR n L=true) (h:Bb L i M l) (hc:(c,v)∈l):BeP L (c::seen) c:=
 have q:=h.inl c (abS.2 ⟨_,hc,rfl⟩)
 .inr ⟨(sH hr q).1,q⟩
theorem Pn {seen:List Int} {b:Int} (h:BeP L seen b) (hb:¬b<0):BeP L (c::seen) b:= .inr (h.resolve_left λq=>by have:=q.2;omega)
theorem VL {seen:List Int} {b:Int} (h:BeP L seen b) (hu:Bb L i M l) (hi:i=L.length) (hs:∀p,p∈l→p.1∈seen) (hk:∃k,k<L.length∧0<(L.getD k []).length):sQ L b:=by
 obtain⟨k,hk,hl⟩:=hk
 rcases h with ⟨rfl,_⟩|h
 ·have:=hu.ne k (by omega) hl
  match l,this,hs with
  |p::_,_,hs=>cases hs p (aaZ ..)
 ·exact h.2
end
theorem HD (h:∀c,c∈a↔c∈b) (k:Nat):l8 a k=l8 b k:=by
 unfold l8
 grind
theorem Ur (l:List Int) (k:Nat):l8 (rk [] l l.length) k=l8 l k:=HD (λc=>by
 rw[sK _ (am _),aaY]
 simp) k
structure ON (n:Int) (L0 L:ML) (out:List Int):Prop where
 r:dR n L=true
 full:jE L L.length=true
 up:∀X,oa L X→oa L0 (out++X)
 len:out.length+L.length≤L0.length
theorem aed {n:Int} {L:ML} (hr:dR n L=true) (hf:jE L L.length=true):ON n L L []:=⟨hr,hf,λX h=>h,by simp⟩
theorem Ar:jE L L.length=true↔∀r,r∈L→r≠[]:=by
 rw[nV]
 constructor
 ·intro h r hr
  obtain⟨j,hj,rfl⟩:=fh (d:=[]) hr
  exact λe=>by have:=h j hj;rw[e]at this;cases this
 all_goals grind
theorem ON.inl {n c:Int} {L0 L:ML} {out:List Int} (h:ON n L0 L out) (hp:(L.length:Int)>0) (hb:(∃k,k<L.length∧0<(L.getD k []).length)→sQ L c):sQ L c:=
 hb ⟨0,by omega,nV.1 h.full 0 (by omega)⟩
theorem ON.next {n c:Int} {L0 L:ML} {out:List Int} (h:ON n L0 L out) (hc:sQ L c):ON n L0 (tZ L c) (out++[c]):=by
 refine⟨Ac h.r c,Ar.2 λr hr=>Ar.1 h.full r (oO.1 hr).1,λX hX=> ?_,?_⟩
 ·rw[ab7]
  exact h.up _ (Iv hX)
 ·have:=CD hc
  have:=h.len
  grind
theorem ON.fin {n:Int} {L0 L:ML} {out:List Int} (h0:dR n L0=true) (h:ON n L0 L out) (hp:¬(L.length:Int)>0):oa L0 (l8 out n.toNat):=by
 have:L=[]:=ab4 (by omega)
 subst this
 have h2:=h.up [] (KN _)
 grind [rY]
end
section
structure Jy where
 n:Int
 rv:Value
 tv:Value
def DB:Jy:=⟨0,undef,undef⟩
def IU (x:Jy):List Value:=[.int .i64 x.n,x.rv,x.tv]
theorem uY:∀a,(IU a).length=3:=λ_=>rfl
abbrev O8:=ML×List Int
def m7:O8:=([],[])
structure iG (TV TI:TypeId) (W:World) (xs:List Jy) (st:List O8):Prop where
 len:xs.length=st.length
 mx:∀k,k<st.length→∃vs,cH encV 1 TV W 0 (xs.getD k DB).rv vs∧LO TI 0 W vs (st.getD k m7).1
 ch:∀k,k<st.length→cH dX 1 TI W 0 (xs.getD k DB).tv (st.getD k m7).2
section
variable {TV TI T':TypeId} {W W':World} {xs:List Jy} {st:List O8} {N':Nat}
theorem iG.map (h:iG TV TI W xs st) (f:∀(α:Type) (enc:α→List Value) (T:TypeId) (v:Value) (l:List α),T=TV∨T=TI→cH enc 1 T W 0 v l→cH enc 1 T W' 0 v l):iG TV TI W' xs st:=
 ⟨h.len,λk hk=>by
  obtain⟨vs,h1,h2⟩:=h.mx k hk
  exact⟨vs,f _ _ _ _ _ (.inl rfl) h1,h2.len,λi hi=>f _ _ _ _ _ (.inr rfl) (h2.get i hi)⟩,λk hk=>f _ _ _ _ _ (.inr rfl) (h.ch k hk)⟩
theorem iG.ext (hE:dA W W') (h:iG TV TI W xs st):iG TV TI W' xs st:=h.map λ_ _ _ _ _ _ k=>hE.ow k
theorem iG.below (hB:Below w.heap.size w W) (h:iG TV TI w xs st):iG TV TI W xs st:=h.map λ_ _ _ _ _ _ k=>Below.ow hB k
theorem iG.grownAt (h:iG TV TI W xs st) (hm:At W b c T') (hG:W.grownBy W' (some b)) (h1:T'≠TV) (h2:T'≠TI):iG TV TI W' xs st:=
 h.map λ_ _ _ _ _ hT k=>k.grownAt hm hG (by rcases hT with rfl|rfl<;>assumption)
theorem iG.grownOw (h:iG TV TI W xs st) (hv:cH enc sz T' W N' v l) (hG:W.grownBy W' v.ownBlock) (h1:T'≠TV) (h2:T'≠TI):iG TV TI W' xs st:=
 h.map λ_ _ _ _ _ hT k=>k.grownOw hv hG (by rcases hT with rfl|rfl;exact h1.symm;exact h2.symm)
theorem qf {α:Type} {a b:List α} {d:α} {i:Nat} (h:i<a.length):(a++b).getD i d=a.getD i d:=by
 grind
theorem pa:(a++[x]).getD a.length d=x:=by
 grind
theorem jv {α:Type} {l:List α} {d:α} {i k:Nat} (h:i<k):(l.take k).getD i d=l.getD i d:=by
 grind
theorem iG.take (h:iG TV TI W xs st) (k:Nat):iG TV TI W (xs.take k) (st.take k):=by
 refine⟨by rw[aaX,aaX,h.len],λi hi=> ?_,λi hi=> ?_⟩
 ·rw[aaX]at hi
  rw[jv (by omega),jv (by omega)]
  exact h.mx i (by omega)
 ·rw[aaX]at hi
  rw[jv (by omega),jv (by omega)]
  exact h.ch i (by omega)
theorem iG.snoc {x:Jy} {y:O8} {vs:List Value} (h:iG TV TI W xs st) (h1:cH encV 1 TV W 0 x.rv vs) (h2:LO TI 0 W vs y.1) (h3:cH dX 1 TI W 0 x.tv y.2):iG TV TI W (xs++[x]) (st++[y]):=by
 refine⟨by simp[h.len],λi hi=> ?_,λi hi=> ?_⟩
 ·rw[An,acf]at hi
  by_cases e:i<st.length
  ·rw[qf (h.len▸e),qf e];exact h.mx i e
  ·obtain rfl:i=st.length:=by omega
   rw[pa,←h.len,pa];exact⟨vs,h1,h2⟩
 ·rw[An,acf]at hi
  by_cases e:i<st.length
  ·rw[qf (h.len▸e),qf e];exact h.ch i e
  ·obtain rfl:i=st.length:=by omega
   rw[pa,←h.len,pa];exact h3
theorem iG.one (h1:cH encV 1 TV W 0 x.rv vs) (h2:LO TI 0 W vs y.1) (h3:cH dX 1 TI W 0 x.tv y.2):iG TV TI W [x] [y]:=
 iG.snoc (xs:=[]) (st:=[]) ⟨rfl,λk hk=>(by cases hk),λk hk=>(by cases hk)⟩ h1 h2 h3
end
structure MG (xs:List Jy) (st:List O8):Prop where
 r:∀k,k<st.length→dR (xs.getD k DB).n (st.getD k m7).1=true
 l:∀k,k<st.length→(st.getD k m7).1.length≤1000000
 c:∀k,k<st.length→k+cnt (st.getD k m7).1≤4000
 t:∀k,k<st.length→(st.getD k m7).2.length+4001*cnt (st.getD k m7).1≤16004000
section
variable {xs:List Jy} {st:List O8}
theorem MG.len (h:MG xs st):st.length≤4001:=by
 cases e:st.length with
 |zero=>omega
 |succ k=>have:=h.c k (by omega);omega
theorem MG.take (h:MG xs st) (hl:xs.length=st.length) (k:Nat):MG (xs.take k) (st.take k):=by
 refine⟨λi hi=> ?_,λi hi=> ?_,λi hi=> ?_,λi hi=> ?_⟩<;>rw[aaX]at hi
 ·rw[jv (by omega),jv (by omega)];exact h.r i (by omega)
 ·rw[jv (by omega)];exact h.l i (by omega)
 ·rw[jv (by omega)];exact h.c i (by omega)
 ·rw[jv (by omega)];exact h.t i (by omega)
theorem MG.snoc (h:MG xs st) (hl:xs.length=st.length) {x:Jy} {y:O8} (h1:dR x.n y.1=true) (h2:y.1.length≤1000000) (h3:st.length+cnt y.1≤4000) (h4:y.2.length+4001*cnt y.1≤16004000):MG (xs++[x]) (st++[y]):=by
 refine⟨λi hi=> ?_,λi hi=> ?_,λi hi=> ?_,λi hi=> ?_⟩<;>rw[An,acf]at hi<;>by_cases e:i<st.length
 ·rw[qf (hl▸e),qf e];exact h.r i e
 ·obtain rfl:i=st.length:=by omega
  rw[pa,←hl,pa];exact h1
 ·rw[qf e];exact h.l i e
 ·obtain rfl:i=st.length:=by omega
  rw[pa];exact h2
 ·rw[qf e];exact h.c i e
 ·obtain rfl:i=st.length:=by omega
  rw[pa];exact h3
 ·rw[qf e];exact h.t i e
 all_goals grind
end
theorem OE (L:ML):cnt L≤4000:=by
 grind [cnt,Nat.le_trans,List.countP_le_length]
theorem aee {n:Int} {L:ML} {rv tv:Value} (hr:dR n L=true) (hl:L.length≤1000000):MG [⟨n,rv,tv⟩] [(L,[])]:=by
 grind [OE,MG,List.length_nil]
def Y7 (ops:Array Oper) (i j:Nat):Bool:=((ops[i]?).map λo=>o.after.toList.any λe=>Region.binds .any e&&e.on==j).getD false
theorem lc (h:i∈Region.ready .any ops L) (hd:Y7 ops i j=true):L.getD j false=true:=by
 unfold Region.ready at h
 have h2:=(ac4.1 h).2
 rw[so]at h2
 have h3:=h2.2
 unfold Y7 at hd
 grind
theorem mj (h:i∈Region.ready .any ops L):L.getD i false=false:=by
 unfold Region.ready at h
 grind
section
variable {P:Program} {n:Nat} {ops:Array Oper} {Q:(Nat→Value)→World→Prop} {S:World→Prop} {f0:Nat→Value}
theorem xC (I:Array Bool→(Nat→Value)→World→Prop)
  (hstep:∀i,A.contains i=true→∀L g w,i<L.size→i∈Region.ready .any ops L→I L g w→∃oi d,ops[i]? =some oi∧gi ops (mask T f0 g) oi=true∧oi.dst=some d∧j7 n (some d)=true∧pd T d=true∧
   Yd P oi (mask T f0 g) w λv w'=>(S w'∨mH ops L i=true)∧I (L.setIfInBounds i true) (upd g d v) w')
  (hfin:∀g w,I L1 g w→WT P n ops Q S k L1 (mask T f0 g) w):
  ∀(m:Nat) (Ls:List (Array Bool)),H4 ops A L1 m Ls=true→∀L,L∈Ls→∀g w,I L g w→WT P n ops Q S (k+m) L (mask T f0 g) w
 |0,Ls,h,L,hL,g,w,hI=>by
  have e:L=L1:=by
   have:=aa1.1 h L hL
   exact eq_of_beq this
  subst e
  exact hfin g w hI
 |m+1,Ls,h,L,hL,g,w,hI=>by
  rw[H4,so]at h
  have h1:=aa1.1 h.1 L hL
  rw[so]at h1
  refine⟨λhsz hcl a ha=>⟨λh0=>(by rw[h0]at h1;exact absurd h1.1 (by decide)),λj hj=> ?_⟩⟩
  have hA:=aa1.1 h1.2 j hj
  have hjlt:j<L.size:=by
   obtain⟨_,oj,hoj,_⟩:=mem_ready.1 hj
   rw[hsz];exact(ac9.1 hoj).1
  obtain⟨oi,d,hi,hw,hd,hok,hT,hY⟩:=hstep j hA L g w hjlt hj hI
  refine FO (K:=λf' w'=>(S w'∨mH ops L j=true)∧WT P n ops Q S (k+m) (L.setIfInBounds j true) f' w') hi hw hd hok ha
   (λf' a' w' hr' hk=>⟨hk.1,hk.2.out (by simpa using hsz) (hcl.add hj) a' hr'⟩) (hY.mono λv w' hv=>⟨hv.1,?_⟩)
  rw[GD hT]
  refine xC I hstep hfin m _ h.2 _ ?_ _ _ hv.2
  unfold OJ
  rw[List.mem_eraseDups]
  exact List.mem_flatMap.2 ⟨L,hL,abS.2 ⟨j,hj,rfl⟩⟩
theorem Ug {w:World} (I:Array Bool→(Nat→Value)→World→Prop) (hc:H4 ops A L1 m [L0]=true) (h0:I L0 f0 w)
  (hstep:∀i,A.contains i=true→∀L g w,i<L.size→i∈Region.ready .any ops L→I L g w→∃oi d,ops[i]? =some oi∧gi ops (mask T f0 g) oi=true∧oi.dst=some d∧j7 n (some d)=true∧pd T d=true∧
   Yd P oi (mask T f0 g) w λv w'=>(S w'∨mH ops L i=true)∧I (L.setIfInBounds i true) (upd g d v) w')
  (hfin:∀g w,I L1 g w→WT P n ops Q S k L1 (mask T f0 g) w):WT P n ops Q S (k+m) L0 f0 w:=by
 have:=xC (f0:=f0) (T:=T) I hstep hfin m [L0] hc L0 (aaG.2 rfl) f0 w h0
 rwa [CC]at this
end
theorem abL {L:Array Bool} {i j:Nat} (hi:i<L.size):(L.setIfInBounds i true).getD j false=if j=i then true else L.getD j false:=by
 by_cases h:j=i
 ·subst h
  rw[if_pos rfl]
  exact sI.2 (.inl ⟨rfl,hi⟩)
 ·rw[if_neg h]
  grind [sI]
structure i6 (TV TI:TypeId) (wd:World) (n c:Int) (rest:ML) (vs8:List Value) (ov:Value) (out:List Int) (f3 f5 f8 f9 f11 f13 f14 f15:Bool) (u3 u5 u8 u9 u11 u13 u14 u15:Value) (W:World):Prop where
 s:dA wd W
 c5:f5=true→f3=true
 c8:f8=true→f3=true
 c11:f11=true→f8=true∧f9=true
 c14:f14=true→f11=true∧f13=true
 c15:f15=true→f14=true
 o3:f3=true→∃r vs,u3= .agg #[.int .i64 n,r]∧cH encV 1 TV W 0 r vs∧LO TI 0 W vs (qE rest c)∧(f9=true→f11=false→∀x,x∈vs→fp u9 x)∧(f11=true→f14=false→∀x,x∈vs→fp u11 x)
 o5:f5=true→∃r,u3= .agg #[.int .i64 n,r]∧u5= .agg #[.int .i64 n,r,ov]
 o8:f8=true→∃r,u8= .agg #[.int .i64 n,r]∧cH encV 1 TV W 0 r vs8
 o9:f9=true→f11=false→cH dX 1 TI W wd.heap.size u9 ([]:List Int)
 o11:f11=true→f14=false→cH dX 1 TI W wd.heap.size u11 out
 o13:f13=true→f14=false→cH dX 1 TI W wd.heap.size u13 [c]∧(f9=true→f11=false→fp u9 u13)
 o14:f14=true→cH dX 1 TI W wd.heap.size u14 (out++[c])
 o15:f15=true→∃r,u8= .agg #[.int .i64 n,r]∧u15= .agg #[.int .i64 n,r,u14]
section
variable {TV TI:TypeId} {wd W W':World} {n c:Int} {rest:ML} {vs8:List Value} {ov:Value} {out:List Int} {f3 f5 f8 f9 f11 f13 f14 f15:Bool} {u3 u5 u8 u9 u11 u13 u14 u15 v:Value} {r:Value} {vs:List Value}
theorem LO.row (h:LO TI N W vs L) (hx:x∈vs):∃l,cH dX 1 TI W N x l:=by
 obtain⟨j,hj,rfl⟩:=fh (d:=undef) hx
 exact⟨_,h.get j (by rw[←h.len];exact hj)⟩
theorem aef (W:World):i6 TV TI W n c rest vs8 ov out false false false false false false false false u3 u5 u8 u9 u11 u13 u14 u15 W:=by
 constructor<;>first|exact dA.refl _|(intro h;cases h)
theorem i6.ext (h:i6 TV TI wd n c rest vs8 ov out f3 f5 f8 f9 f11 f13 f14 f15 u3 u5 u8 u9 u11 u13 u14 u15 W) (hE:dA W W'):i6 TV TI wd n c rest vs8 ov out f3 f5 f8 f9 f11 f13 f14 f15 u3 u5 u8 u9 u11 u13 u14 u15 W':=
 ⟨h.s.trans hE,h.c5,h.c8,h.c11,h.c14,h.c15,λq=>by obtain⟨r,vs,a,b,c,d⟩:=h.o3 q;exact⟨r,vs,a,hE.ow b,LO.ext hE c,d⟩,h.o5,λq=>by obtain⟨r,a,b⟩:=h.o8 q;exact⟨r,a,hE.ow b⟩,
  λa b=>hE.ow (h.o9 a b),λa b=>hE.ow (h.o11 a b),λa b=>⟨hE.ow (h.o13 a b).1,(h.o13 a b).2⟩,λa=>hE.ow (h.o14 a),h.o15⟩
theorem i6.p3 (h:i6 TV TI wd n c rest vs8 ov out f3 f5 f8 f9 f11 f13 f14 f15 u3 u5 u8 u9 u11 u13 u14 u15 W) (n3:f3=false) (hE:dA W W') (h1:cH encV 1 TV W' 0 r vs) (h2:LO TI W.heap.size W' vs (qE rest c)):
  i6 TV TI wd n c rest vs8 ov out true f5 f8 f9 f11 f13 f14 f15 (.agg #[.int .i64 n,r]) u5 u8 u9 u11 u13 u14 u15 W':=by
 have k:=h.ext hE
 have n5:f5=true→False:=λq=>by rw[h.c5 q]at n3;cases n3
 have n8:f8=true→False:=λq=>by rw[h.c8 q]at n3;cases n3
 have n11:f11=true→False:=λq=>n8 (h.c11 q).1
 refine⟨k.s,λ_=>rfl,λ_=>rfl,k.c11,k.c14,k.c15,λ_=>⟨r,vs,rfl,h1,h2.mono (me _),λa b x hx=> ?_,λq=>(n11 q).elim⟩,λq=>(n5 q).elim,λq=>(n8 q).elim,k.o9,k.o11,k.o13,k.o14,k.o15⟩
 obtain⟨l,hl⟩:=h2.row hx
 exact fp.new (adi (h.o9 a b)) hl
theorem i6.p5 (h:i6 TV TI wd n c rest vs8 ov out f3 f5 f8 f9 f11 f13 f14 f15 u3 u5 u8 u9 u11 u13 u14 u15 W) (n3:f3=true) (e:u3= .agg #[.int .i64 n,r]):
  i6 TV TI wd n c rest vs8 ov out f3 true f8 f9 f11 f13 f14 f15 u3 (.agg #[.int .i64 n,r,ov]) u8 u9 u11 u13 u14 u15 W:=
 ⟨h.s,λ_=>n3,h.c8,h.c11,h.c14,h.c15,h.o3,λ_=>⟨r,e,rfl⟩,h.o8,h.o9,h.o11,h.o13,h.o14,h.o15⟩
theorem i6.p8 (h:i6 TV TI wd n c rest vs8 ov out f3 f5 f8 f9 f11 f13 f14 f15 u3 u5 u8 u9 u11 u13 u14 u15 W) (n3:f3=true) (n8:f8=false) (hE:dA W W') (h1:cH encV 1 TV W' 0 r vs8):
  i6 TV TI wd n c rest vs8 ov out f3 f5 true f9 f11 f13 f14 f15 u3 u5 (.agg #[.int .i64 n,r]) u9 u11 u13 u14 u15 W':=by
 have k:=h.ext hE
 have n15:f15=true→False:=λq=>by rw[(h.c11 (h.c14 (h.c15 q)).1).1]at n8;cases n8
 exact⟨k.s,k.c5,λ_=>n3,λq=>⟨rfl,(k.c11 q).2⟩,k.c14,k.c15,k.o3,k.o5,λ_=>⟨r,rfl,h1⟩,k.o9,k.o11,k.o13,k.o14,λq=>(n15 q).elim⟩
theorem i6.p9 (h:i6 TV TI wd n c rest vs8 ov out f3 f5 f8 f9 f11 f13 f14 f15 u3 u5 u8 u9 u11 u13 u14 u15 W) (n9:f9=false) (hb:b=W.heap.size) (hE:dA W W') (hm:At W' b #[] TI):
  i6 TV TI wd n c rest vs8 ov out f3 f5 f8 true f11 f13 f14 f15 u3 u5 u8 (.slice (some ⟨b,0,none⟩) 0 0) u11 u13 u14 u15 W':=by
 have k:=h.ext hE
 have n11:f11=true→False:=λq=>by rw[(h.c11 q).2]at n9;cases n9
 have ap:∀x,(∀j,x.ownBlock=some j→j<W.heap.size)→fp (.slice (some ⟨b,0,none⟩) 0 0) x:=λx hx j h1 h2=>by
  obtain rfl:b=j:=aaK h1
  have:=hx b h2
  omega
 refine⟨k.s,k.c5,k.c8,λq=>(n11 q).elim,k.c14,k.c15,λq=> ?_,k.o5,k.o8,λ_ _=>u7 hm (hb▸dA.size h.s),k.o11,λa b=>⟨(k.o13 a b).1,λ_ _=>ap _ (adi (h.o13 a b).1)⟩,k.o14,k.o15⟩
 obtain⟨r,vs,a1,a2,a3,a4,a5⟩:=h.o3 q
 exact⟨r,vs,a1,hE.ow a2,LO.ext hE a3,λ_ _ x hx=>by obtain⟨l,hl⟩:=a3.row hx;exact ap _ (adi hl),λq=>(n11 q).elim⟩
theorem i6.p13 (h:i6 TV TI wd n c rest vs8 ov out f3 f5 f8 f9 f11 f13 f14 f15 u3 u5 u8 u9 u11 u13 u14 u15 W) (n13:f13=false) (hE:dA W W') (hm:cH dX 1 TI W' W.heap.size v [c]):
  i6 TV TI wd n c rest vs8 ov out f3 f5 f8 f9 f11 true f14 f15 u3 u5 u8 u9 u11 v u14 u15 W':=by
 have k:=h.ext hE
 have n14:f14=true→False:=λq=>by rw[(h.c14 q).2]at n13;cases n13
 exact⟨k.s,k.c5,k.c8,k.c11,λq=>(n14 q).elim,k.c15,k.o3,k.o5,k.o8,k.o9,k.o11,λ_ _=>⟨hm.mono (dA.size h.s),λa b=>fp.new (adi (h.o9 a b)) hm⟩,k.o14,k.o15⟩
theorem LO.grownAp (h:LO TI N W vs L) (ha:∀x,x∈vs→fp u x) (hG:W.grownBy W' u.ownBlock):LO TI N W' vs L:=
 ⟨h.len,λk hk=>(h.get k hk).grownAp (ha _ (dF (by rw[h.len];exact hk))) hG⟩
theorem i6.p11 (h:i6 TV TI wd n c rest vs8 ov out f3 f5 f8 f9 f11 f13 f14 f15 u3 u5 u8 u9 u11 u13 u14 u15 W) (hT:TI≠TV) (n11:f11=false) (n8:f8=true) (n9:f9=true) (hG:W.grownBy W' u9.ownBlock) (ho:cH dX 1 TI W' wd.heap.size v out)
  (hob:v.ownBlock=u9.ownBlock∨v.ownBlock=some W.heap.size):i6 TV TI wd n c rest vs8 ov out f3 f5 f8 f9 true f13 f14 f15 u3 u5 u8 u9 v u13 u14 u15 W':=by
 have n14:f14=true→False:=λq=>by rw[(h.c14 q).1]at n11;cases n11
 have h9:=h.o9 n9 n11
 refine⟨dg h.s hG (am _) (λj hj=>cH.lt h9 j hj),h.c5,h.c8,λ_=>⟨n8,n9⟩,λq=>(n14 q).elim,h.c15,λq=> ?_,h.o5,λq=> ?_,λ_ q=>(by cases q),λ_ _=>ho,λa b=>⟨?_,λ_ q=>(by cases q)⟩,λq=>(n14 q).elim,h.o15⟩
 ·obtain⟨r,vs,a1,a2,a3,a4,a5⟩:=h.o3 q
  exact⟨r,vs,a1,a2.grownOw h9 hG hT.symm,a3.grownAp (a4 n9 n11) hG,λ_ q=>(by cases q),λ_ _ x hx=>by obtain⟨l,hl⟩:=a3.row hx;exact fp.app (a4 n9 n11 x hx) hob hl⟩
 ·obtain⟨r,a1,a2⟩:=h.o8 q
  exact⟨r,a1,a2.grownOw h9 hG hT.symm⟩
 ·exact(h.o13 a b).1.grownAp ((h.o13 a b).2 n9 n11) hG
theorem i6.p14 (h:i6 TV TI wd n c rest vs8 ov out f3 f5 f8 f9 f11 f13 f14 f15 u3 u5 u8 u9 u11 u13 u14 u15 W) (hT:TI≠TV) (n14:f14=false) (n11:f11=true) (n13:f13=true) (hG:W.grownBy W' u11.ownBlock) (ho:cH dX 1 TI W' wd.heap.size v (out++[c])):
  i6 TV TI wd n c rest vs8 ov out f3 f5 f8 f9 f11 f13 true f15 u3 u5 u8 u9 u11 u13 v u15 W':=by
 have n15:f15=true→False:=λq=>by rw[h.c15 q]at n14;cases n14
 have h11:=h.o11 n11 n14
 refine⟨dg h.s hG (am _) (λj hj=>cH.lt h11 j hj),h.c5,h.c8,h.c11,λ_=>⟨n11,n13⟩,λ_=>rfl,λq=> ?_,h.o5,λq=> ?_,λ_ q=>(by rw[n11]at q;cases q),λ_ q=>(by cases q),λ_ q=>(by cases q),λ_=>ho,λq=>(n15 q).elim⟩
 ·obtain⟨r,vs,a1,a2,a3,a4,a5⟩:=h.o3 q
  exact⟨r,vs,a1,a2.grownOw h11 hG hT.symm,a3.grownAp (a5 n11 n14) hG,λ_ q=>(by rw[n11]at q;cases q),λ_ q=>(by cases q)⟩
 ·obtain⟨r,a1,a2⟩:=h.o8 q
  exact⟨r,a1,a2.grownOw h11 hG hT.symm⟩
theorem i6.p15 (h:i6 TV TI wd n c rest vs8 ov out f3 f5 f8 f9 f11 f13 f14 f15 u3 u5 u8 u9 u11 u13 u14 u15 W) (n14:f14=true) (e:u8= .agg #[.int .i64 n,r]):
  i6 TV TI wd n c rest vs8 ov out f3 f5 f8 f9 f11 f13 f14 true u3 u5 u8 u9 u11 u13 u14 (.agg #[.int .i64 n,r,u14]) W:=
 ⟨h.s,h.c5,h.c8,h.c11,h.c14,λ_=>n14,h.o3,h.o5,h.o8,h.o9,h.o11,h.o13,h.o14,λ_=>⟨r,e,rfl⟩⟩
end
structure pS (n:Int) (L:ML) (bud:Int) (xs:List Jy) (st:List O8) (best:List Int) (steps:Int):Prop where
 sw:tK L st best
 sl:MG xs st
 len:xs.length=st.length
 bl:best.length≤4000
 s0:0≤steps
 sb:steps≤bud
 ps:steps.toNat+KI st≤2^cnt L-1
theorem wN (h:st.length=k+1):st=st.take k++[st.getD k m7]:=by
 grind [m7,List.take_add_one,List.getElem?_eq_getElem,List.take_length]
theorem K0 {n:Int} {Lx rest:ML} {T:List Int} (hr:dR n Lx=true) (hf:jE Lx Lx.length=true) (h:m5 Lx rest T):∀r,r∈rest→0<r.length:=λr hr2=>by
 have hs:oa Lx Lx.flatten:=λq hq=>by
  match q,hq,Ar.1 hf q hq with
  |c::q',hq,_=>exact⟨c,aaZ ..,List.mem_flatten.2 ⟨_,hq,aaZ ..⟩⟩
 obtain⟨X,_,h2,_⟩:=h.dn _ (mw _ _) (rY hr hs)
 obtain⟨c,hc,_⟩:=h2 r hr2
 exact ads.2 λe=>by rw[e]at hc;cases hc
section
variable {n n':Int} {L rest:ML} {bud steps:Int} {xs:List Jy} {st:List O8} {best T:List Int} {k:Nat} {c:Int} {rv tv:Value}
theorem aeh (hr:dR n L=true) (hl:L.length≤1000000) (hb:oa L best) (hbl:best.length≤4000) (h0:0≤bud):pS n L bud [⟨n,rv,tv⟩] [(L,[])] best 0:=
 ⟨aeg hb,aee hr hl,rfl,hbl,Int.le_refl _,h0,by simp[KI]⟩
theorem pS.sw' (h:pS n L bud xs st best steps) (hk:st.length=k+1):tK L (st.take k++[st.getD k m7]) best:=by rw[←wN hk];exact h.sw
theorem pS.drop (h:pS n L bud xs st best steps) (hk:st.length=k+1) (hs:tK L (st.take k) best') (hl:best'.length≤4000):pS n L bud (xs.take k) (st.take k) best' steps:=
 ⟨hs,h.sl.take h.len k,by rw[aaX,aaX,h.len],hl,h.s0,h.sb,by
  have h1:=h.ps
  have h2:=OG (st.take k) (st.getD k m7)
  rw[←wN hk]at h2
  omega⟩
theorem pS.none (h:pS n L bud xs st best steps) (hk:st.length=k+1) (hf:(!jE (st.getD k m7).1 (st.getD k m7).1.length)=true):pS n L bud (xs.take k) (st.take k) best steps:=by
 have hf2:¬∀i,i<(st.getD k m7).1.length→0<((st.getD k m7).1.getD i []).length:=λq=>by rw[nV.2 q]at hf;cases hf
 obtain⟨i,hi⟩:=Classical.not_forall.1 hf2
 obtain⟨hi,hl⟩:=Classical.not_imp.1 hi
 exact h.drop hk ((h.sw' hk).none (dF (d:=[]) hi) (ab4 (by omega))) h.bl
theorem pS.leaf (h:pS n L bud xs st best steps) (hk:st.length=k+1) (hr:m5 (st.getD k m7).1 rest T) (he:rest.length=0) (hl:((st.getD k m7).2++T).length<best.length):pS n L bud (xs.take k) (st.take k) ((st.getD k m7).2++T) steps:=
 h.drop hk ((h.sw' hk).leaf hr (ab4 he) hl) (go (Nat.le_of_lt hl) h.bl)
theorem pS.leaf0 (h:pS n L bud xs st best steps) (hk:st.length=k+1) (hr:m5 (st.getD k m7).1 rest T) (hl:¬((st.getD k m7).2++T).length<best.length):pS n L bud (xs.take k) (st.take k) best steps:=
 h.drop hk ((h.sw' hk).leaf0 hr hl) h.bl
theorem pS.prune (h:pS n L bud xs st best steps) (hk:st.length=k+1) (hr:m5 (st.getD k m7).1 rest T) (hl:best.length≤((st.getD k m7).2++T).length+Fq rest rest.length):pS n L bud (xs.take k) (st.take k) best steps:=
 h.drop hk ((h.sw' hk).prune hr hl) h.bl
theorem pS.branch (h:pS n L bud xs st best steps) (hk:st.length=k+1) (hr:m5 (st.getD k m7).1 rest T) (hrr:dR n' rest=true) (hT:T.length≤4000) (hrl:rest.length≤1000000) (hc:sQ rest c) (hne:¬steps=bud) (e1:x1.n=n') (e2:x2.n=n'):
  pS n L bud (xs.take k++[x1,x2]) (st.take k++[(qE rest c,(st.getD k m7).2++T),(tZ rest c,(st.getD k m7).2++T++[c])]) best (steps+1):=by
 have hcm:=uZ hr.sub
 have h1:=I1 hrr hc
 have h2:=HV hrr hc
 have h3:=h.sl.c k (by omega)
 have h4:=h.sl.t k (by omega)
 have ht:(xs.take k).length=(st.take k).length:=by rw[aaX,aaX,h.len]
 have hk2:(st.take k).length=k:=by rw[aaX];omega
 refine⟨(h.sw' hk).branch hr c,?_,by simp only[An,ht];rfl,h.bl,by have:=h.s0;omega,by have:=h.sb;omega,?_⟩
 ·have hl1:((st.getD k m7).2++T).length+4001*cnt (qE rest c)≤16004000:=by rw[An];omega
  have hl2:((st.getD k m7).2++T++[c]).length+4001*cnt (tZ rest c)≤16004000:=by rw[An,An,acf];omega
  have s1:=(h.sl.take h.len k).snoc ht (x:=x1) (y:=(qE rest c,(st.getD k m7).2++T)) (by rw[e1];exact GS hrr c) (by dsimp only;rw[len_le];exact hrl) (by dsimp only;omega) hl1
  have s2:=s1.snoc (by simp only[An,ht];rfl) (x:=x2) (y:=(tZ rest c,(st.getD k m7).2++T++[c])) (by rw[e2];exact Ac hrr c) (by dsimp only;have:=Nx rest c;omega) (by rw[An,acf];dsimp only;omega) hl2
  rw[ab7,ab7]at s2
  exact s2
 ·have h5:=zy (st:=st.take k) (x:=st.getD k m7) (a:=(st.getD k m7).2++T) (b:=(st.getD k m7).2++T++[c]) hrr hr hc
  rw[←wN hk]at h5
  have h6:=h.ps
  omega
theorem pS.out (h:pS n L bud xs st best steps) (hk:st.length=k+1) (hr:m5 (st.getD k m7).1 rest T) (hrr:dR n' rest=true) (hc:sQ rest c) (he:steps=bud):bud.toNat+1<2^cnt L:=by
 have h5:=zy (st:=st.take k) (x:=st.getD k m7) (a:=[]) (b:=[]) hrr hr hc
 rw[←wN hk]at h5
 have h6:=h.ps
 omega
theorem adQ (h:st.length=k+1):EH (st.take k)<EH st:=by
 grind [M8,m7,wN]
theorem ad9 (hk:st.length=k+1) (hr:m5 (st.getD k m7).1 rest T) (hrr:dR n' rest=true) (hc:sQ rest c):EH (st.take k++[(qE rest c,a),(tZ rest c,b)])<EH st:=by
 have:=HR (st:=st.take k) (x:=st.getD k m7) (a:=a) (b:=b) hrr hr hc
 grind [wN]
end
theorem iG.two {xs:List Jy} (h:iG TV TI W xs st) (a1:cH encV 1 TV W 0 x1.rv vs1) (a2:LO TI 0 W vs1 y1.1) (a3:cH dX 1 TI W 0 x1.tv y1.2)
  (b1:cH encV 1 TV W 0 x2.rv vs2) (b2:LO TI 0 W vs2 y2.1) (b3:cH dX 1 TI W 0 x2.tv y2.2):iG TV TI W (xs++[x1,x2]) (st++[y1,y2]):=by
 have:=(h.snoc a1 a2 a3).snoc b1 b2 b3
 grind
theorem VV {n:Int} {v u:Value} (h:v.oneCell'=true) (k:u.oneCell'=true):[Value.int .i64 n,v,u].all Value.oneCell'=true:=by simp only[acL,adj,h,k,acx];rfl
section
variable {P:Program} {f:Nat→Value} {w:World} {d:Option Nat} {t t2 ty:TypeId} {ps:String} {af:Array Edge} {g:Option (Nat×Bool)} {x y:Operand}
theorem M1 {a b:Int} {k:Nat} (hx:dm f x= .int .i64 a) (hy:dm f y= .int .i64 b) (hk:a-b=(k:Int)) (hl:k≤1000000000):
  (execOp (dm f) ⟨d, .binOp .sub t x y t2,ty,ps,af,g⟩).run P w= .ok (.value (.int .i64 (k:Int))) w:=by
 rw[←hk]
 grind [jY]
end
theorem Uo {n m:Int} {a b c d:Value} (ha:a.oneCell'=true) (hb:b.oneCell'=true) (hc:c.oneCell'=true) (hd:d.oneCell'=true):([(⟨n,a,b⟩:Jy),⟨m,c,d⟩].flatMap IU).all Value.oneCell'=true:=by
 simp only[ach,List.flatMap_nil,IU,acw,acB,aco,acL,adj,ha,hb,hc,hd,acx]
 rfl
theorem rO {L:Array Bool} {i:Nat} (hi:i<L.size):(L.setIfInBounds i true).getD i false=true:=by simp_all
theorem eg {L:Array Bool} {i j:Nat} (hi:i<L.size) (h:j≠i):(L.setIfInBounds i true).getD j false=L.getD j false:=(abL hi).trans (if_neg h)
theorem adK {TV TI:TypeId} {wd W:World} {n c:Int} {rest:ML} {vs8:List Value} {ov:Value} {out:List Int} {f3 f5 f8 f9 f11 f13 f14 f15 g3 g5 g8 g9 g11 g13 g14 g15:Bool} {u3 u5 u8 u9 u11 u13 u14 u15:Value}
  (h:i6 TV TI wd n c rest vs8 ov out f3 f5 f8 f9 f11 f13 f14 f15 u3 u5 u8 u9 u11 u13 u14 u15 W) (e3:g3=f3) (e5:g5=f5) (e8:g8=f8) (e9:g9=f9) (e11:g11=f11) (e13:g13=f13) (e14:g14=f14) (e15:g15=f15):
  i6 TV TI wd n c rest vs8 ov out g3 g5 g8 g9 g11 g13 g14 g15 u3 u5 u8 u9 u11 u13 u14 u15 W:=by
 grind
theorem R5 {n:Int} {Lx rest:ML} {T:List Int} (hr:dR n Lx=true) (hf:jE Lx Lx.length=true) (h:m5 Lx rest T) (hp:0<rest.length):∃c,sQ rest c:=by
 have hm:rest.getD 0 []∈rest:=dF hp
 have:=K0 hr hf h _ hm
 exact⟨_,_,hm,dF (d:=0) this⟩
theorem pS.fin {n:Int} {L:ML} {bud steps:Int} {xs:List Jy} {st:List O8} {best:List Int} (h:pS n L bud xs st best steps) (hr:dR n L=true) (hx:xs.length=0):Sj L n (l8 best n.toNat):=by
 have:st=[]:=ab4 (by rw[←h.len];exact hx)
 subst this
 exact h.sw.fin hr
end
section
theorem WO (hr:dt S=true):iH (eZ S):=λx hx=>by
 have h:=(fT.1 ((vk hr).1 hx)).1
 have h1:=nR (gE h)
 have h2:=fm (dw.1 hr).2.1
 have h3:=(rD h).2
 omega
theorem qt (hr:dt S=true) (hi:i<(eZ S).length):rM S ((eZ S).getD i ⟨⟨0,0⟩,0⟩)=true:=by grind [vk,dF]
def oB (S:Sp):Bool:=decide (20<S.on.length)||decide (20<S.may.length)
theorem Sq (h:(20:Int)<(S.on.length:Int)):true=oB S:=by
 unfold oB;rw[decide_eq_true (show 20<S.on.length by omega),Bool.true_or]
theorem Sm (h:¬(20:Int)<(S.on.length:Int)):decide ((20:Int)<(S.may.length:Int))=oB S:=by
 unfold oB;rw[decide_eq_false (show ¬20<S.on.length by omega),Bool.false_or,acb,decide_eq_true_eq,decide_eq_true_eq];omega
def GN (l:List Rw) (x:Rw):Nat→Bool
 |0=>false
 |k+1=>GN l x k||uo (l.getD k ⟨⟨0,0⟩,0⟩) x
theorem sW:∀k,GN l x k=true↔∃j,j<k∧uo (l.getD j ⟨⟨0,0⟩,0⟩) x=true
 |0=>by simp[GN]
 |k+1=>by
  rw[GN,acr,sW k]
  constructor
  ·rintro(⟨j,hj,h⟩|h)
   ·exact⟨j,by omega,h⟩
   ·exact⟨k,by omega,h⟩
  ·rintro⟨j,hj,h⟩
   rcases aaU.1 hj with hj|rfl
   ·exact .inl ⟨j,hj,h⟩
   ·exact .inr h
theorem Jx (h:rF S x=true):GN (eZ S) x (eZ S).length=true:=by
 obtain⟨h1,h2⟩:=oS h
 obtain⟨j,hj,he⟩:=fh (d:=⟨⟨0,0⟩,0⟩) ((vk (ir.1 h).1).2 h1)
 grind [sW]
theorem Jg (hr:dt S=true):gH S (eZ S)=true:=by
 obtain⟨h0,h8,h1,h4,h5,hin⟩:=dw.1 hr
 have hp:=fm h8
 refine eW.2 ⟨hr,j6.2 λk hk=> ?_,λo ho=> ?_⟩
 ·have hi:=(fT.1 (qt hr hk)).1
  exact f7.2 ⟨gE hi,(ir.1 hi).2.1,h5▸(rD hi).1⟩
 ·obtain⟨w1,w2⟩:=hin o ho
  refine Nu (dJ.2 λp hp2 h=> ?_) (dJ.2 λp hp2 h=> ?_)
  ·have hm:=dJ.1 w1 p hp2 h
   have hpn:p<2^S.n.toNat:=by
    have:=dJ.1 w2 p hp2 hm
    rw[fo]at this
    simpa using this
   have hpow:=ace S.n.toNat
   have hx:rF S ⟨⟨2^S.n.toNat-1,p⟩,2^o⟩=true:=by
    have hand:p &&& (2^S.n.toNat-1)=p:=by rw[acT,ada hpn]
    refine ir.2 ⟨hr,ace o,λj hj=> ?_⟩
    have hj':(2^o).testBit j=true:=hj
    rw[ab5,decide_eq_true_eq]at hj'
    subst hj'
    refine⟨by omega,?_⟩
    have:=(gw (s:=jZ S o) (n:=S.n) (c:=⟨2^S.n.toNat-1,p⟩)).2 ⟨dB.2 ⟨h0,h8,by show 2^S.n.toNat-1<2^S.n.toNat;omega,hand⟩,λq hq hqp=>by
     have hqp':q &&& (2^S.n.toNat-1)=p:=hqp
     rw[acT,ada hq]at hqp'
     subst hqp';exact hm⟩
    exact this
   obtain⟨j,hj,hh⟩:=(sW _).1 (Jx hx)
   obtain⟨g1,g2⟩:=qd.1 hh
   have hi:=(fT.1 (qt hr hj)).1
   refine(lH (by omega) p _ (am _)).2 ⟨hpn,j,hj,g2 o (by show (2^o).testBit o=true;rw[ab5];simp),?_⟩
   refine mQ (p:=p) (dB.1 (gE hi)).2.2.2 g1 ?_
   show p &&& (2^S.n.toNat-1)=p
   rw[acT,ada hpn]
  ·obtain⟨hpn,j,hj,hb,hh⟩:=(lH (by omega) p _ (am _)).1 h
   have hi:=(fT.1 (qt hr hj)).1
   have hw:=((ir.1 hi).2.2 o hb).2
   exact(gw.1 hw).2 p hpn hh
end
section
def mJ (x:Rw) (k:Nat):Rw:=⟨x.c,x.o-2^k⟩
def sG (l:List Rw) (i k:Nat):List Rw:=l.set i (mJ (l.getD i ⟨⟨0,0⟩,0⟩) k)
def qS (x:Rw):List Rw:=if 0<x.o then [x]else []
def nX (l:List Rw):List Rw:=l.filter λx=>decide (0<x.o)
def mW (l:List Rw) (i k:Nat):List Rw:=
 if andNot (l.getD i ⟨⟨0,0⟩,0⟩).o (2^k)=0 then l.take i++l.drop (i+1)else l.set i ⟨(l.getD i ⟨⟨0,0⟩,0⟩).c,andNot (l.getD i ⟨⟨0,0⟩,0⟩).o (2^k)⟩
def qO (l:List Rw):Prop:=∀x,x∈l→0<x.o
theorem BK (a b:List Rw):nX (a++b)=nX a++nX b:=adw ..
theorem Mo (x:Rw):nX [x]=qS x:=by
 unfold nX qS
 grind
theorem HM (x:Rw) (b:List Rw):nX (x::b)=qS x++nX b:=by rw[←Mo,←BK];rfl
theorem B6 (h:qO l):nX l=l:=List.filter_eq_self.2 λx hx=>decide_eq_true (h x hx)
theorem qO.app (ha:qO a) (hb:qO b):qO (a++b):=λx hx=>(aaQ.1 hx).elim (ha x) (hb x)
theorem qO.kp (x:Rw):qO (qS x):=λy hy=>by
 unfold qS at hy
 split at hy
 ·simp at hy;subst hy;assumption
 ·cases hy
theorem qO.drop (h:qO l) (k:Nat):qO (l.drop k):=λx hx=>h x (List.mem_of_mem_drop hx)
theorem yy (x:Rw):(qS x).length=if 0<x.o then 1 else 0:=by grind [qS]
theorem uQ (h:0<x.o):qS x=[x]:=if_pos h
theorem QF (h:x.o=0):qS x=[]:=if_neg (by omega)
theorem zU (h:gH S l=true):qO l:=λx hx=>by
 obtain⟨k,hk,rfl⟩:=fh (d:=⟨⟨0,0⟩,0⟩) hx
 exact(f7.1 (j6.1 (eW.1 h).2.1 k hk)).2.1
theorem Fd (h:o.testBit k=true):andNot o (2^k)=o-2^k:=by
 have hlow:(andNot o (2^k)).testBit k=false:=by rw[ee];simp
 have hs:=Un hlow
 have e:andNot o (2^k) ||| 2^k=o:=aaF λj=>by
  rw[acq,ee,ab5]
  by_cases hj:k=j
  ·subst hj;simp[h]
  ·simp[hj]
 omega
theorem iR (h:o.testBit k=true) (j:Nat):(o-2^k).testBit j=(o.testBit j&& !decide (k=j)):=by
 rw[←Fd h,ee,ab5]
theorem RN (o k:Nat):o-2^k≤o:=by grind
theorem zi {A B:List Rw} {x d:Rw} {i:Nat} (hi:i=A.length):(A++x::B).getD i d=x:=by
 grind
theorem Kr {A B:List Rw} {x y:Rw} {i:Nat} (hi:i=A.length):(A++x::B).set i y=A++y::B:=by
 simp_all
theorem Qx {A B:List Rw} {x:Rw} {i:Nat} (hi:i=A.length):(A++x::B).take i=A:=by grind
theorem Nh {A B:List Rw} {x:Rw} {i:Nat} (hi:i=A.length):(A++x::B).drop (i+1)=B:=by
 simp_all
theorem MV (hi:i=A.length) (hb:x.o.testBit k=true):mW (A++x::B) i k=A++qS (mJ x k)++B:=by
 unfold mW
 rw[zi hi,Fd hb,Qx hi,Nh hi,Kr hi]
 by_cases h:x.o-2^k=0
 ·rw[if_pos h,QF h,acw]
 ·rw[if_neg h,uQ (show 0<(mJ x k).o from Nat.pos_of_ne_zero h)]
  simp[mJ]
theorem F0 {l:List Rw} {i:Nat} (hi:i<l.length):l=l.take i++l.getD i ⟨⟨0,0⟩,0⟩::l.drop (i+1):=by
 simp_all
theorem QW {l:List Rw} {i:Nat} (hi:i<l.length):l.drop i=l.getD i ⟨⟨0,0⟩,0⟩::l.drop (i+1):=by
 simp_all
theorem Gu {l:List Rw} {i:Nat} {x d:Rw} (hi:i<l.length):(l.set i x).getD i d=x:=by
 grind
theorem XR {l:List Rw} {i k:Nat} (hi:i<l.length) (h:(((l.set i ⟨(l.getD i ⟨⟨0,0⟩,0⟩).c,andNot (l.getD i ⟨⟨0,0⟩,0⟩).o (1*2^k)⟩).getD i ⟨⟨0,0⟩,0⟩).o:Int)=0):
  (l.set i ⟨(l.getD i ⟨⟨0,0⟩,0⟩).c,andNot (l.getD i ⟨⟨0,0⟩,0⟩).o (1*2^k)⟩).take i++(l.set i ⟨(l.getD i ⟨⟨0,0⟩,0⟩).c,andNot (l.getD i ⟨⟨0,0⟩,0⟩).o (1*2^k)⟩).drop (i+1)=mW l i k:=by
 rw[Gu hi,abJ]at h
 unfold mW
 rw[if_pos (show andNot (l.getD i ⟨⟨0,0⟩,0⟩).o (2^k)=0 from Int.ofNat_inj.1 h),List.take_set_of_le (am _),List.drop_set_of_lt (acY _)]
theorem Vz {l:List Rw} {i k:Nat} (hi:i<l.length) (h:¬(((l.set i ⟨(l.getD i ⟨⟨0,0⟩,0⟩).c,andNot (l.getD i ⟨⟨0,0⟩,0⟩).o (1*2^k)⟩).getD i ⟨⟨0,0⟩,0⟩).o:Int)=0):
  l.set i ⟨(l.getD i ⟨⟨0,0⟩,0⟩).c,andNot (l.getD i ⟨⟨0,0⟩,0⟩).o (1*2^k)⟩=mW l i k:=by
 rw[Gu hi,abJ]at h
 unfold mW
 grind
theorem Lh (l:List Rw) (i k:Nat):(mW l i k).length≤l.length:=by
 unfold mW
 grind
def LQ (S:Sp) (A B:List Rw) (c:Cb) (o:Nat):Nat→Nat
 |0=>o
 |k+1=>if (LQ S A B c o k).testBit k=true∧gH S (A++qS ⟨c,LQ S A B c o k-2^k⟩++B)=true then LQ S A B c o k-2^k else LQ S A B c o k
def m0 (S:Sp) (l:List Rw):Nat→List Rw
 |0=>[]
 |j+1=>m0 S l j++qS ⟨(l.getD j ⟨⟨0,0⟩,0⟩).c,LQ S (m0 S l j) (l.drop (j+1)) (l.getD j ⟨⟨0,0⟩,0⟩).c (l.getD j ⟨⟨0,0⟩,0⟩).o S.on.length⟩
def tQ (S:Sp) (l:List Rw) (j k:Nat):Nat:=LQ S (m0 S l j) (l.drop (j+1)) (l.getD j ⟨⟨0,0⟩,0⟩).c (l.getD j ⟨⟨0,0⟩,0⟩).o k
def tR (S:Sp) (l:List Rw) (j k:Nat):Rw:=⟨(l.getD j ⟨⟨0,0⟩,0⟩).c,tQ S l j k⟩
def xY (S:Sp) (l:List Rw) (j k:Nat):List Rw:=m0 S l j++qS (tR S l j k)++l.drop (j+1)
def lp (S:Sp) (l:List Rw):List Rw:=m0 S l l.length
theorem kA (S:Sp) (l:List Rw) (j:Nat):m0 S l (j+1)=m0 S l j++qS (tR S l j S.on.length):=rfl
theorem rV (S:Sp) (l:List Rw) (j k:Nat):tQ S l j (k+1)=if (tQ S l j k).testBit k=true∧gH S (m0 S l j++qS (mJ (tR S l j k) k)++l.drop (j+1))=true then tQ S l j k-2^k else tQ S l j k:=rfl
theorem U1 (h1:(tQ S l j k).testBit k=true) (h2:gH S (m0 S l j++qS (mJ (tR S l j k) k)++l.drop (j+1))=true):tQ S l j (k+1)=tQ S l j k-2^k:=by rw[rV,if_pos ⟨h1,h2⟩]
theorem aby (h:¬((tQ S l j k).testBit k=true∧gH S (m0 S l j++qS (mJ (tR S l j k) k)++l.drop (j+1))=true)):tQ S l j (k+1)=tQ S l j k:=by rw[rV,if_neg h]
theorem OV (S:Sp) (l:List Rw) (j:Nat):∀k,tQ S l j k≤(l.getD j ⟨⟨0,0⟩,0⟩).o
 |0=>am _
 |k+1=>by
  rw[rV]
  have:=OV S l j k
  split
  ·have:=RN (tQ S l j k) k;omega
  ·exact this
theorem vu (S:Sp) (l:List Rw) (j:Nat):∀k q,(tQ S l j k).testBit q=true→(l.getD j ⟨⟨0,0⟩,0⟩).o.testBit q=true
 |0,q,h=>h
 |k+1,q,h=>by
  rw[rV]at h
  split at h
  ·rename_i hc
   rw[iR hc.1,so]at h
   exact vu S l j k q h.1
  ·exact vu S l j k q h
theorem rT (S:Sp) (l:List Rw) (j:Nat) (k:Nat):∀e q,(tQ S l j (k+e)).testBit q=true→(tQ S l j k).testBit q=true
 |0,q,h=>h
 |e+1,q,h=>by
  rw[←Nat.add_assoc,rV]at h
  split at h
  ·rename_i hc
   rw[iR hc.1,so]at h
   exact rT S l j k e q h.1
  ·exact rT S l j k e q h
theorem iH.nil:iH []:=λx hx=>by cases hx
theorem iH.any (h:iH l) (k:Nat):(l.getD k ⟨⟨0,0⟩,0⟩).o<256:=by
 by_cases hk:k<l.length
 ·exact(h.get hk).2.2
 all_goals grind
theorem iH.app (ha:iH a) (hb:iH b):iH (a++b):=λx hx=>(aaQ.1 hx).elim (ha x) (hb x)
theorem iH.drop (h:iH l) (k:Nat):iH (l.drop k):=λx hx=>h x (List.mem_of_mem_drop hx)
theorem iH.take (h:iH l) (k:Nat):iH (l.take k):=λx hx=>h x (List.mem_of_mem_take hx)
theorem iH.kp (h:x.c.m<256∧x.c.v<256∧x.o<256):iH (qS x):=λy hy=>by
 unfold qS at hy
 split at hy
 ·simp at hy;subst hy;exact h
 ·cases hy
theorem iH.some (h:iH l):iH (nX l):=λx hx=>h x (ac4.1 hx).1
theorem iH.set (h:iH l) (hx:x.c.m<256∧x.c.v<256∧x.o<256):iH (l.set i x):=λy hy=>(List.mem_or_eq_of_mem_set hy).elim (h y) (λe=>e▸hx)
theorem U7 (h:iH l) (hj:j<l.length) (k:Nat):(tR S l j k).c.m<256∧(tR S l j k).c.v<256∧(tR S l j k).o<256:=by
 obtain⟨h1,h2,h3⟩:=h.get hj
 have:=OV S l j k
 exact⟨h1,h2,show tQ S l j k<256 by omega⟩
theorem UK (h:iH l):∀j,j≤l.length→iH (m0 S l j)
 |0,_=>iH.nil
 |j+1,hj=>by rw[kA];exact(UK h j (by omega)).app (iH.kp (U7 h (by omega) _))
theorem YD (h:iH l) (hj:j<l.length) (k:Nat):iH (xY S l j k):=((UK h j (by omega)).app (iH.kp (U7 h hj k))).app (h.drop _)
theorem yM (S:Sp) (l:List Rw):∀j,qO (m0 S l j)
 |0=>λx hx=>by cases hx
 |j+1=>by rw[kA];exact(yM S l j).app (qO.kp _)
theorem Jj (S:Sp) (l:List Rw):∀j,(m0 S l j).length≤j
 |0=>am _
 |j+1=>by
  have:=Jj S l j
  rw[kA,An,yy]
  split<;>omega
theorem Fc {S:Sp} {l:List Rw} {j:Nat} (hp:qO l) (hj:j<l.length):m0 S l j++l.drop j=xY S l j 0:=by
 unfold xY
 rw[QW hj,uQ (x:=tR S l j 0) (hp _ (dF hj)),ab7]
 rfl
theorem EA (S:Sp) (l:List Rw) (j:Nat):xY S l j S.on.length=m0 S l (j+1)++l.drop (j+1):=by rw[kA];rfl
theorem Nv (h:0<tQ S l j k):xY S l j k=m0 S l j++tR S l j k::l.drop (j+1):=by
 grind [xY,uQ,tR,List.append_assoc]
theorem SJ (h:0<tQ S l j k):(xY S l j k).getD (m0 S l j).length ⟨⟨0,0⟩,0⟩=tR S l j k:=by
 grind [Nv,zi]
theorem GB (hb:(tQ S l j k).testBit k=true):mW (xY S l j k) (m0 S l j).length k=m0 S l j++qS (mJ (tR S l j k) k)++l.drop (j+1):=by
 rw[Nv (D9 hb)]
 exact MV rfl hb
theorem UQ (hb:(tQ S l j k).testBit k=true) (hc:gH S (mW (xY S l j k) (m0 S l j).length k)=true):mW (xY S l j k) (m0 S l j).length k=xY S l j (k+1):=by
 rw[GB hb]at hc ⊢
 unfold xY tR
 rw[U1 hb hc]
 rfl
theorem FI (h:(tQ S l j k).testBit k=false∨gH S (mW (xY S l j k) (m0 S l j).length k)=false):xY S l j k=xY S l j (k+1):=by
 grind [tQ,aby,GB,xY,tR]
def nbR (S:Sp) (l:List Rw) (i k:Nat):Bool:=(l.getD i ⟨⟨0,0⟩,0⟩).o.testBit k&&gH S (nX (sG l i k))
def yr (S:Sp) (l:List Rw):Bool:=gH S l&&(List.range l.length).all λi=>(List.range S.on.length).all λk=> !nbR S l i k
theorem xO:yr S l=true↔gH S l=true∧∀i,i<l.length→∀k,k<S.on.length→nbR S l i k=false:=by
 unfold yr
 simp_all
theorem kpL (x:Rw):(qS x).length≤1∧((qS x).length=1→0<x.o)∧(¬(qS x).length=1→x.o=0):=by
 rw[yy]
 grind
theorem Gt:(xY S l j k).length=(m0 S l j).length+(qS (tR S l j k)).length+(l.length-(j+1)):=by
 grind [xY,List.length_append,List.length_drop]
theorem QP:(m0 S l j++l.drop j).length=(m0 S l j).length+(l.length-j):=by grind
theorem Uy (h:iH l) (hi:i<l.length) (k:Nat):iH (mW l i k):=by
 unfold mW
 obtain⟨h1,h2,h3⟩:=h.get hi
 split
 ·exact(h.take _).app (h.drop _)
 ·exact h.set ⟨h1,h2,by have:=sN (l.getD i ⟨⟨0,0⟩,0⟩).o (2^k);show andNot _ _<256;omega⟩
theorem SX (h:((o/2^((k:Nat):Int).toNat &&& 1:Nat):Int)=0):o.testBit k=false:=by grind
theorem Ng (h:¬((o/2^((k:Nat):Int).toNat &&& 1:Nat):Int)=0):o.testBit k=true:=by grind
theorem Oy (h:o=0):o.testBit k=false:=by grind
def uK (a b:List Rw):Prop:=∀x,x∈a→∃y,y∈b∧x.c=y.c∧∀j,x.o.testBit j=true→y.o.testBit j=true
theorem uK.refl (a:List Rw):uK a a:=λx hx=>⟨x,hx,rfl,λ_ h=>h⟩
theorem uK.trans (h:uK a b) (k:uK b c):uK a c:=λx hx=>by
 obtain⟨y,hy,h1,h2⟩:=h x hx
 obtain⟨z,hz,h3,h4⟩:=k y hy
 exact⟨z,hz,h1.trans h3,λj hj=>h4 j (h2 j hj)⟩
theorem uK.app (h:uK a b) (k:uK c d):uK (a++c) (b++d):=λx hx=>by
 rcases aaQ.1 hx with hx|hx
 ·obtain⟨y,hy,h⟩:=h x hx;exact⟨y,aaQ.2 (.inl hy),h⟩
 ·obtain⟨y,hy,h⟩:=k x hx;exact⟨y,aaQ.2 (.inr hy),h⟩
theorem uK.kp (hc:x.c=y.c) (ho:∀j,x.o.testBit j=true→y.o.testBit j=true):uK (qS x) (qS y):=λz hz=>by
 unfold qS at hz
 split at hz
 ·rename_i hp
  simp at hz
  subst hz
  obtain⟨j,hj⟩:=uu hp
  exact⟨y,by rw[uQ (D9 (ho j hj))];exact aaG.2 rfl,hc,ho⟩
 ·cases hz
theorem uK.cv (h:uK a b) (hc:Ej a p o=true):Ej b p o=true:=by
 unfold Ej at*
 rw[acC]at*
 obtain⟨x,hx,h1⟩:=hc
 obtain⟨y,hy,e,h2⟩:=h x hx
 grind
theorem j8:km S l=true↔∀x,x∈l→Qd S x=true:=by grind [km,List.all_eq_true]
theorem uK.may (h:uK a b) (hp:qO a) (k:km S b=true):km S a=true:=j8.2 λx hx=>by
 obtain⟨y,hy,e,h2⟩:=h x hx
 obtain⟨h3,_,h5⟩:=f7.1 (j8.1 k y hy)
 refine f7.2 ⟨e▸h3,hp x hx,gI.2 λj hj=>aaT.2 λhb=> ?_⟩
 have:=h2 j hb
 rw[gI.1 h5 j hj]at this
 cases this
theorem Qe (ha:gH S a=true) (hu:gH S u=true) (h1:uK a b) (h2:uK b u) (hp:qO b):gH S b=true:=by
 obtain⟨hr,hma,hca⟩:=eW.1 ha
 obtain⟨_,hmu,hcu⟩:=eW.1 hu
 have hmb:=h2.may hp hmu
 refine eW.2 ⟨hr,hmb,λo ho=>(iC hr hmb ho).2 λp hpn=> ?_⟩
 exact⟨λh=>h1.cv (((iC hr hma ho).1 (hca o ho) p hpn).1 h),λh=>((iC hr hmu ho).1 (hcu o ho) p hpn).2 (h2.cv h)⟩
theorem Pk:∀j,j≤l.length→uK (m0 S l j) (l.take j)
 |0,_=>λx hx=>by cases hx
 |j+1,hj=>by
  have e:l.take (j+1)=l.take j++[l.getD j ⟨⟨0,0⟩,0⟩]:=by
   rw[acg,Do,th (show j<l.length by omega)]
   rfl
  rw[kA,e]
  refine(Pk j (by omega)).app λx hx=>⟨_,aaG.2 rfl,?_⟩
  unfold qS at hx
  split at hx
  ·simp at hx;subst hx;exact⟨rfl,λq hq=>vu S l j _ q hq⟩
  ·cases hx
theorem Ju (h:gH S l=true):∀j,j≤l.length→gH S (m0 S l j++l.drop j)=true
 |0,_=>h
 |j+1,hj=>by
  have ih:=Ju h j (by omega)
  rw[Fc (zU h) (by omega)]at ih
  rw[←EA]
  have:∀k,gH S (xY S l j k)=true:=λk=>by
   induction k with
   |zero=>exact ih
   |succ k ihk=>
    by_cases hb:(tQ S l j k).testBit k=true
    ·by_cases hc:gH S (mW (xY S l j k) (m0 S l j).length k)=true
     ·rw[←UQ hb hc];exact hc
     ·rw[←FI (.inr (by simpa using hc))];exact ihk
    ·rw[←FI (.inl (by simpa using hb))];exact ihk
  exact this _
theorem Gi (h:gH S l=true):gH S (lp S l)=true:=by
 have:=Ju h l.length (am _)
 rwa [List.drop_length,acw]at this
theorem um (S:Sp) (l:List Rw) (j:Nat):∀e,m0 S l j<+:m0 S l (j+e)
 |0=>acO _
 |e+1=>by rw[←Nat.add_assoc,kA];exact(um S l j e).trans (List.prefix_append _ _)
theorem Ff:∀m i,i<(m0 S l m).length→∃j,j<m∧(m0 S l j).length=i∧0<tQ S l j S.on.length∧(m0 S l m).getD i ⟨⟨0,0⟩,0⟩=tR S l j S.on.length
 |0,i,h=>by cases h
 |m+1,i,h=>by
  rw[kA]at h ⊢
  by_cases hi:i<(m0 S l m).length
  ·obtain⟨j,hj,h1,h2,h3⟩:=Ff m i hi
   refine⟨j,by omega,h1,h2,?_⟩
   rw[←h3,Do,acI hi,Do]
  ·rw[An,yy]at h
   have hp:0<(tR S l m S.on.length).o:=Classical.byContradiction λhn=>by rw[if_neg hn]at h;omega
   rw[if_pos hp]at h
   refine⟨m,by omega,by omega,hp,?_⟩
   rw[uQ hp]
   exact zi (by omega)
theorem NF (hp:qO l) (hjm:j≤m) (hm:m≤l.length):uK ((m0 S l m).drop (m0 S l j).length) (l.drop j):=by
 induction m with
 |zero=>
  obtain rfl:j=0:=by omega
  exact λx hx=>by simp[m0]at hx
 |succ m ih=>
  by_cases e:j=m+1
  ·subst e
   rw[List.drop_length]
   exact λx hx=>by cases hx
  ·have hjm':j≤m:=by omega
   have hpre:=(um S l j (m-j)).length_le
   rw[show j+(m-j)=m by omega]at hpre
   rw[kA,List.drop_append_of_le_length hpre]
   intro x hx
   rcases aaQ.1 hx with hx|hx
   ·exact ih hjm' (by omega) x hx
   ·unfold qS at hx
    split at hx
    ·simp at hx
     subst hx
     refine⟨l.getD m ⟨⟨0,0⟩,0⟩,?_,rfl,λq hq=>vu S l m _ q hq⟩
     have:=dF (d:=⟨⟨0,0⟩,0⟩) (show m-j<(l.drop j).length by rw[aci];omega)
     rwa [Do,List.getElem?_drop,show j+(m-j)=m by omega,←Do]at this
    ·cases hx
theorem FT (h:gH S l=true):yr S (lp S l)=true:=by
 have hpl:=zU h
 refine xO.2 ⟨Gi h,λi hi k hk=>aaT.2 λhn=> ?_⟩
 unfold nbR at hn
 rw[so]at hn
 obtain⟨hb,hc⟩:=hn
 obtain⟨j,hj,h1,h2,h3⟩:=Ff l.length i hi
 have hp2:qO (lp S l):=yM S l l.length
 have hb':(tQ S l j S.on.length).testBit k=true:=by
  rw[show (lp S l).getD i ⟨⟨0,0⟩,0⟩=_ from h3]at hb
  exact hb
 have hbk1:(tQ S l j (k+1)).testBit k=true:=by
  have:=rT S l j (k+1) (S.on.length-(k+1)) k
  rw[show k+1+(S.on.length-(k+1))=S.on.length by omega]at this
  exact this hb'
 have hbk:(tQ S l j k).testBit k=true:=rT S l j k 1 k hbk1
 have hno:¬gH S (m0 S l j++qS (mJ (tR S l j k) k)++l.drop (j+1))=true:=λhcc=>by
  rw[U1 hbk hcc,iR hbk]at hbk1
  simp at hbk1
 apply hno
 have hpre:=um S l j (l.length-j)
 rw[show j+(l.length-j)=l.length by omega]at hpre
 have htk:(lp S l).take i=m0 S l j:=by rw[←h1];exact(List.prefix_iff_eq_take.1 hpre).symm
 have hlen:(m0 S l (j+1)).length=i+1:=by rw[kA,An,yy,if_pos (show 0<(tR S l j S.on.length).o from h2),h1]
 have hdr:=NF (S:=S) hpl (show j+1≤l.length by omega) (am _)
 rw[hlen]at hdr
 have hx:=F0 (l:=lp S l) (i:=i) hi
 have hA:i=((lp S l).take i).length:=by rw[aaX];exact(adm (Nat.le_of_lt hi)).symm
 have e:nX (sG (lp S l) i k)=m0 S l j++qS (mJ (tR S l j S.on.length) k)++(lp S l).drop (i+1):=by
  have h2:sG (lp S l) i k=(lp S l).take i++mJ ((lp S l).getD i ⟨⟨0,0⟩,0⟩) k::(lp S l).drop (i+1):=by
   unfold sG
   conv=>lhs;arg 1;rw[hx]
   exact Kr hA
  rw[h2,BK,HM,htk,B6 (yM S l j),B6 (hp2.drop _),show (lp S l).getD i ⟨⟨0,0⟩,0⟩=_ from h3,ab7]
 rw[e]at hc
 have hle1:uK (m0 S l j++qS (mJ (tR S l j S.on.length) k)++(lp S l).drop (i+1)) (m0 S l j++qS (mJ (tR S l j k) k)++l.drop (j+1)):=by
  refine uK.app (uK.app (uK.refl (m0 S l j)) (uK.kp (x:=mJ (tR S l j S.on.length) k) (y:=mJ (tR S l j k) k) rfl λq hq=> ?_)) hdr
  have hq':(tQ S l j S.on.length-2^k).testBit q=true:=hq
  show (tQ S l j k-2^k).testBit q=true
  rw[iR hb',so]at hq'
  rw[iR hbk,so]
  refine⟨?_,hq'.2⟩
  have:=rT S l j k (S.on.length-k) q
  rw[show k+(S.on.length-k)=S.on.length by omega]at this
  exact this hq'.1
 have hle2:uK (m0 S l j++qS (mJ (tR S l j k) k)++l.drop (j+1)) l:=by
  conv=>rhs;rw[F0 hj]
  rw[ab7]
  refine(Pk j (by omega)).app ?_
  refine uK.trans ?_ (uK.refl (l.getD j ⟨⟨0,0⟩,0⟩::l.drop (j+1)))
  rw[show l.getD j ⟨⟨0,0⟩,0⟩::l.drop (j+1)=[l.getD j ⟨⟨0,0⟩,0⟩]++l.drop (j+1) from rfl]
  refine uK.app (λx hx=>⟨_,aaG.2 rfl,?_⟩) (uK.refl _)
  unfold qS at hx
  split at hx
  ·simp at hx
   subst hx
   refine⟨rfl,λq hq=> ?_⟩
   have hq':(tQ S l j k-2^k).testBit q=true:=hq
   rw[iR hbk,so]at hq'
   exact vu S l j k q hq'.1
  ·cases hx
 exact Qe hc h hle1 hle2 (((yM S l j).app (qO.kp _)).app (hpl.drop _))
end
section
def Hs (l:List Cb) (n:Nat) (but:Int):Nat→Nat
 |0=>0
 |k+1=>if (k:Int)=but then Hs l n but k else Hs l n but k ||| rj (l.getD k ⟨0,0⟩).m ((l.getD k ⟨0,0⟩).v &&& (l.getD k ⟨0,0⟩).m) n
theorem lT (hn:n≤8) (p:Nat):∀k,k≤l.length→(∀c,c∈l→c.v &&& c.m=c.v)→((Hs l n but k).testBit p=true↔∃j,j<k∧¬(j:Int)=but∧p<2^n∧hold (l.getD j ⟨0,0⟩) p)
 |0,_,_=>by simp[Hs]
 |k+1,hk,hv=>by
  have ih:=lT (but:=but) hn p k (by omega) hv
  rw[Hs]
  split
  ·rename_i h
   rw[ih]
   constructor
   ·rintro⟨j,hj,r⟩;exact⟨j,by omega,r⟩
   ·rintro⟨j,hj,h2,r⟩
    rcases aaU.1 hj with hj|rfl
    ·exact⟨j,hj,h2,r⟩
    ·exact absurd h h2
  ·rename_i h
   rw[acq,acr,ih,kg hn,hv _ (dF (by omega)),so,decide_eq_true_eq,decide_eq_true_eq]
   constructor
   ·rintro(⟨j,hj,r⟩|⟨h1,h2⟩)
    ·exact⟨j,by omega,r⟩
    ·exact⟨k,by omega,h,h1,h2⟩
   ·rintro⟨j,hj,h2,h3,h4⟩
    rcases aaU.1 hj with hj|rfl
    ·exact .inl ⟨j,hj,h2,h3,h4⟩
    ·exact .inr ⟨h3,h4⟩
section
variable {on m:Nat} {n:Int}
theorem O3 (h:BO on m n=true):∃k:Nat,n=(k:Int)∧k≤8∧oI k on m 0:=by
 obtain⟨h0,h8⟩:=lf (kL.1 h).1
 obtain⟨k,rfl⟩:=ab2 h0
 obtain⟨h1,h2⟩:=Db h
 exact⟨k,rfl,h1,h2⟩
theorem Vf (h:BO on m n=true):∀c,c∈kf on m n→c.v &&& c.m=c.v:=λc hc=>(yn h hc).2.2.2
theorem Wt (h:BO on m n=true):dW on (Hs (kf on m n) n.toNat (-1) (kf on m n).length)=true:=by
 have hv:=Vf h
 obtain⟨k,rfl,h8,hg⟩:=O3 h
 rw[dJ]
 intro p hp ho
 obtain⟨c,hc,hh⟩:=(lW h8 (k+1) on m 0 hg (by omega)).2 p (hg.out p hp (hg.sub p hp ho)) ho
 obtain⟨j,hj,rfl⟩:=fh (d:=⟨0,0⟩) hc
 exact(lT h8 p _ (am _) hv).2 ⟨j,hj,by omega,hg.out p hp (hg.sub p hp ho),hh⟩
abbrev FZ (on m:Nat) (n:Int):List Cb:=I7 m n (kf on m n)
theorem Rq (h:BO on m n=true):(FZ on m n).length≤19683:=go (sD _ _ _ _) (FN (lf (kL.1 h).1).2)
theorem wy (h:BO on m n=true) (hc:c∈FZ on m n):iL c.m c.v m n=true:=by
 obtain⟨j,hj,rfl⟩:=(sA _).1 hc
 exact(ul (yn h (dF hj)).1).1
theorem Yu (h:BO on m n=true):∀c,c∈FZ on m n→c.m<256∧c.v<256:=λc hc=>by
 have:=nR (mN (wy h hc))
 have h2:=fm (lf (kL.1 h).1).2
 omega
theorem UU (h:BO on m n=true):∀c,c∈FZ on m n→c.v &&& c.m=c.v:=λc hc=>(dB.1 (mN (wy h hc))).2.2.2
theorem Wx (h:BO on m n=true):dW on (Hs (FZ on m n) n.toNat (-1) (FZ on m n).length)=true:=by
 have hv:=UU h
 have h1:=Wt h
 have hcv:=Vf h
 have hgp:∀j,j<(kf on m n).length→∃k,k<(FZ on m n).length∧(FZ on m n).getD k ⟨0,0⟩=lD m n ((kf on m n).getD j ⟨0,0⟩):=λj hj=>fh ((sA _).2 ⟨j,hj,rfl⟩)
 have hgr:∀j,j<(kf on m n).length→jF (lD m n ((kf on m n).getD j ⟨0,0⟩)) ((kf on m n).getD j ⟨0,0⟩)=true:=λj hj=>(ul (yn h (dF hj)).1).2
 obtain⟨q,rfl,h8,hg⟩:=O3 h
 rw[dJ]
 intro p hp ho
 obtain⟨j,hj,_,h2,h3⟩:=(lT h8 p _ (am _) hcv).1 (dJ.1 h1 p hp ho)
 obtain⟨k,hk,he⟩:=hgp j hj
 refine(lT h8 p _ (am _) hv).2 ⟨k,hk,by omega,h2,?_⟩
 have:=mQ (p:=p) (show (lD m q ((kf on m q).getD j ⟨0,0⟩)).v &&& (lD m q ((kf on m q).getD j ⟨0,0⟩)).m=_ by rw[←he];exact hv _ (dF hk)) (hgr j hj) h3
 rw[he]
 exact this
end
end
section
def vY (S:Sp) (o:Nat):List Cb:=I7 (jZ S o) S.n (kf (zn S o) (jZ S o) S.n)
def xZ (S:Sp) (o i:Nat):Rw:=xQ S ⟨(vY S o).getD i ⟨0,0⟩,2^o⟩
def Je (S:Sp) (o:Nat) (acc:List Rw):Nat→List Rw
 |0=>acc
 |i+1=>jm (Je S o acc i) (xZ S o i)
def Iz (S:Sp):Nat→List Rw
 |0=>[]
 |o+1=>Je S o (Iz S o) (vY S o).length
def m8 (S:Sp):List Rw:=Iz S S.on.length
theorem r8 (hr:dt S=true) (ho:o<S.on.length):BO (zn S o) (jZ S o) S.n=true:=by
 grind [dw,kL,yv,decide_eq_true]
theorem PB (hr:dt S=true) (ho:o<S.on.length):(vY S o).length≤19683:=Rq (r8 hr ho)
theorem JI (hr:dt S=true) (ho:o<S.on.length) (hi:i<(vY S o).length):((vY S o).getD i ⟨0,0⟩).m<256∧((vY S o).getD i ⟨0,0⟩).v<256:=Yu (r8 hr ho) _ (dF hi)
theorem zr (hr:dt S=true) (ho:o<S.on.length) (hi:i<(vY S o).length):rF S ⟨(vY S o).getD i ⟨0,0⟩,2^o⟩=true:=by
 obtain⟨h0,h8,h1,h4,h5,hin⟩:=dw.1 hr
 refine ir.2 ⟨hr,ace o,λj hj=> ?_⟩
 have hj':(2^o).testBit j=true:=hj
 rw[ab5,decide_eq_true_eq]at hj'
 subst hj'
 exact⟨by omega,(gF.1 (wy (r8 hr ho) (dF hi))).1⟩
theorem ZE (hr:dt S=true) (ho:o<S.on.length) (hi:i<(vY S o).length):(xZ S o i).c.m<256∧(xZ S o i).c.v<256∧(xZ S o i).o<256:=by
 obtain⟨h0,h8,h1,h4,h5,hin⟩:=dw.1 hr
 obtain⟨g1,g2⟩:=vG (S:=S) (x:=⟨(vY S o).getD i ⟨0,0⟩,2^o⟩) (JI hr ho hi) S.n.toNat
 refine⟨g1,g2,?_⟩
 have:=(rD (fT.1 (oS (zr hr ho hi)).1).1).2
 show (xQ S ⟨(vY S o).getD i ⟨0,0⟩,2^o⟩).o<256
 omega
theorem El (S:Sp) (o:Nat) (acc:List Rw):∀i,(Je S o acc i).length≤acc.length+i
 |0=>am _
 |i+1=>go (si _ _) (by have:=El S o acc i;omega)
theorem Em (hr:dt S=true):∀o,o≤S.on.length→(Iz S o).length≤o*19683
 |0,_=>am _
 |o+1,ho=>by
  have h1:=Em hr o (by omega)
  have h2:=El S o (Iz S o) (vY S o).length
  have h3:=PB hr (show o<S.on.length by omega)
  rw[Iz]
  omega
theorem KC:∀i,x∈Je S o acc i↔x∈acc∨∃q,q<i∧x=xZ S o q
 |0=>by simp[Je]
 |i+1=>by
  rw[Je,gy,KC i]
  constructor
  ·rintro((h|⟨q,hq,h⟩)|h)
   ·exact .inl h
   ·exact .inr ⟨q,by omega,h⟩
   ·exact .inr ⟨i,by omega,h⟩
  ·rintro(h|⟨q,hq,h⟩)
   ·exact .inl (.inl h)
   ·rcases aaU.1 hq with hq|rfl
    ·exact .inl (.inr ⟨q,hq,h⟩)
    ·exact .inr h
theorem yx:∀o,x∈Iz S o↔∃q,q<o∧∃i,i<(vY S q).length∧x=xZ S q i
 |0=>by simp[Iz]
 |o+1=>by
  rw[Iz,KC,yx o]
  constructor
  ·rintro(⟨q,hq,h⟩|h)
   ·exact⟨q,by omega,h⟩
   ·exact⟨o,by omega,h⟩
  ·rintro⟨q,hq,h⟩
   rcases aaU.1 hq with hq|rfl
   ·exact .inl ⟨q,hq,h⟩
   ·exact .inr h
theorem Mh (hr:dt S=true):(m8 S).length≤78732:=by
 have h:=Em hr _ (am _)
 grind [dw,m8]
theorem xz (hr:dt S=true) (hx:x∈m8 S):rM S x=true:=by
 obtain⟨q,hq,i,hi,rfl⟩:=(yx _).1 hx
 exact(oS (zr hr hq hi)).1
theorem Tt (hr:dt S=true):iH (m8 S):=λx hx=>by
 obtain⟨q,hq,i,hi,rfl⟩:=(yx _).1 hx
 exact ZE hr hq hi
theorem wz (hr:dt S=true):gH S (m8 S)=true:=by
 obtain⟨h0,h8,h1,h4,h5,hin⟩:=dw.1 hr
 have hm:km S (m8 S)=true:=j8.2 λx hx=>by
  have hi:=(fT.1 (xz hr hx)).1
  exact f7.2 ⟨gE hi,(ir.1 hi).2.1,h5▸(rD hi).1⟩
 refine eW.2 ⟨hr,hm,λo ho=>(iC hr hm ho).2 λp hp=>⟨λhb=> ?_,λhb=> ?_⟩⟩
 ·have hok:=r8 hr ho
  have hp8:p<256:=by have:=fm h8;omega
  obtain⟨i,hi,_,_,hh⟩:=(lT (n:=S.n.toNat) (by omega) p _ (am _) (UU hok)).1 (dJ.1 (Wx hok) p hp8 hb)
  obtain⟨hpr,hho⟩:=oS (zr hr ho (i:=i) hi)
  obtain⟨g1,g2⟩:=qd.1 hho
  have hv:(xZ S o i).c.v &&& (xZ S o i).c.m=(xZ S o i).c.v:=(dB.1 (gE (fT.1 hpr).1)).2.2.2
  unfold Ej
  rw[acC]
  refine⟨xZ S o i,(yx _).2 ⟨o,ho,i,hi,rfl⟩,?_⟩
  rw[so]
  refine⟨g2 o (by show (2^o).testBit o=true;rw[ab5];simp),?_⟩
  have:=mQ (p:=p) hv g1 hh
  unfold oJ
  rw[decide_eq_true_eq,hv]
  exact this
 ·unfold Ej at hb
  rw[acC]at hb
  obtain⟨x,hx,h2⟩:=hb
  rw[so]at h2
  have hi:=(fT.1 (xz hr hx)).1
  have hv:=(dB.1 (gE hi)).2.2.2
  have h3:=h2.2
  unfold oJ at h3
  rw[decide_eq_true_eq,hv]at h3
  exact(gw.1 ((ir.1 hi).2.2 o h2.1).2).2 p hp h3
theorem Jn {ml:List Rw} {kk:Rw} (h:(!(iN (fC ml) ⟨⟨kk.c.m,kk.c.v⟩,kk.o⟩).getD false)=true):kk∉ml:=by
 rw[mU]at h
 simpa using h
theorem DK {ml:List Rw} {kk:Rw} (h:(!(iN (fC ml) ⟨⟨kk.c.m,kk.c.v⟩,kk.o⟩).getD false)=false):kk∈ml:=by
 rw[mU]at h
 simpa using h
theorem Jo (h:xZ S o i∉Je S o acc i):Je S o acc i++[xZ S o i]=Je S o acc (i+1):=(Fu h).symm
theorem yL (h:xZ S o i∈Je S o acc i):Je S o acc i=Je S o acc (i+1):=(AB h).symm
end
section
def A9 (l:List Rw) (ks:List Int):Nat→List Rw
 |0=>[]
 |k+1=>if (k:Int)∈ks then A9 l ks k++[l.getD k ⟨⟨0,0⟩,0⟩]else A9 l ks k
theorem Z6 {l:List Rw} {ks:List Int} {k:Nat} (h:(k:Int)∈ks):A9 l ks k++[l.getD k ⟨⟨0,0⟩,0⟩]=A9 l ks (k+1):=(if_pos h).symm
theorem aaB {l:List Rw} {ks:List Int} {k:Nat} (h:¬(k:Int)∈ks):A9 l ks k=A9 l ks (k+1):=(if_neg h).symm
theorem yq (l:List Rw) (ks:List Int):∀k,(A9 l ks k).length=(l8 ks k).length
 |0=>rfl
 |k+1=>by
  rw[A9,nK]
  split
  ·rw[An,An,yq l ks k];rfl
  ·exact yq l ks k
theorem NG (l:List Rw) (ks:List Int) (k:Nat):(A9 l ks k).length≤ks.length:=by grind [yq,GH]
theorem JO (l:List Rw) (ks:List Int) (k:Nat):(A9 l ks k).length≤k:=by grind [yq,mK]
theorem Ct {l:List Rw} {m:Nat} (h:m<l.length):l.take m++[l.getD m ⟨⟨0,0⟩,0⟩]=l.take (m+1):=by
 simp_all
theorem Jk {l:List Rw} {ks:List Int}:∀k,k≤l.length→(A9 l ks k).Sublist (l.take k)
 |0,_=>by simp[A9]
 |k+1,hk=>by
  have ih:=Jk (l:=l) (ks:=ks) k (by omega)
  rw[A9,←Ct (by omega:k<l.length)]
  split
  ·exact ih.append (List.Sublist.refl _)
  ·exact ih.trans (List.sublist_append_left _ _)
def Wm (n:Nat) (ks:List Int):List Bool:=(List.range n).map λc:Nat=>decide ((c:Int)∈ks)
theorem Kl (h:k<n):(Wm n ks).getD k false=decide ((k:Int)∈ks):=by
 grind [Wm,List.getElem?_range]
theorem Pw:∀k,k≤l.length→A9 l ks k=QJ l (Wm l.length ks) k
 |0,_=>rfl
 |k+1,hk=>by
  rw[A9,QJ,Pw k (by omega),Kl (show k<l.length by omega)]
  simp only[decide_eq_true_eq]
theorem M4:∀k,k≤n→R6 (Wm n ks) k=l8 ks k
 |0,_=>rfl
 |k+1,hk=>by
  rw[R6,nK,M4 k (by omega),Kl (show k<n by omega)]
  simp only[decide_eq_true_eq]
section
variable {S:Sp}
theorem LD (hr:dt S=true) (h4:S.n≤4) (h3:S.on.length≤3):(eZ S).length≤2048:=by
 obtain⟨h0,h8,_,_,h5,_⟩:=dw.1 hr
 have hn:(eZ S).Nodup:=(qr S _).imp λh e=>by rw[e,Av]at h;cases h
 have h:=uD (b:=(List.range 2048).map λq=>(⟨⟨q%16,q/16%16⟩,q/256⟩:Rw)) hn λx hx=> ?_
 ·simpa using h
 ·have hp:=(fT.1 ((vk hr).1 hx))
  have ho:=(rD hp.1).1
  have hrt:=gE hp.1
  obtain⟨r1,r2,r3,r4⟩:=dB.1 hrt
  have hp3:2^S.may.length≤2^3:=aaV (by decide) (by omega)
  have hp4:2^S.n.toNat≤2^4:=aaV (by decide) (by omega)
  have hm:x.c.m<16:=by omega
  have hvm:x.c.v≤x.c.m:=by rw[←r4];exact acX
  have hv:x.c.v<16:=by omega
  refine abS.2 ⟨x.c.m+16*x.c.v+256*x.o,acp.2 (by omega),?_⟩
  have e1:(x.c.m+16*x.c.v+256*x.o)%16=x.c.m:=by omega
  have e2:(x.c.m+16*x.c.v+256*x.o)/16%16=x.c.v:=by omega
  have e3:(x.c.m+16*x.c.v+256*x.o)/256=x.o:=by omega
  rw[e1,e2,e3]
theorem yS (hr:dt S=true):∀q,q<(eZ S).length→rF S ((eZ S).getD q ⟨⟨0,0⟩,0⟩)=true:=by grind [fT,qt]
theorem I6 (hr:dt S=true) (hl:(eZ S).length≤4000) (h:oa (mL S (eZ S)) ks):gH S (A9 (eZ S) ks (eZ S).length)=true:=by
 rw[Pw _ (am _)]
 have hm:=UZ (bs:=Wm (eZ S).length ks) hr (yS hr) hl (am _)
 have hs:qy (mL S (eZ S)) (R6 (Wm (eZ S).length ks) (eZ S).length)=true:=by
  rw[M4 _ (am _)]
  have:=rY (kR (S:=S) hl) h
  rw[my]at this
  exact KV.2 this
 grind [kR]
theorem RO (hr:dt S=true) (hl:(eZ S).length≤4000):oa (mL S (eZ S)) (XB (eZ S).length):=by
 have hm:=UZ (bs:=Wm (eZ S).length (XB (eZ S).length)) hr (yS hr) hl (am _)
 have e:A9 (eZ S) (XB (eZ S).length) (eZ S).length=eZ S:=by
  have key:∀k,k≤(eZ S).length→A9 (eZ S) (XB (eZ S).length) k=(eZ S).take k:=by
   intro k
   induction k with
   |zero=>intro _;simp[A9]
   |succ k ih=>
    intro hk
    rw[A9,if_pos (SD.2 ⟨by omega,by omega⟩),ih (by omega),Ct (by omega)]
  rw[key _ (am _),aaY]
 rw[←Pw _ (am _),e,M4 _ (am _),Jg hr,kR hl,ack]at hm
 have h2:qy (mL S (eZ S)) (l8 (XB (eZ S).length) (eZ S).length)=true:=hm
 grind [zW,KV,sF]
theorem Ux (h:oa L X):jE L L.length=true:=Pe.2 λi hi=>by
 obtain⟨c,h1,_⟩:=h _ (dF (d:=[]) hi)
 exact acl h1
theorem Vr (hr:dt S=true) (h:gH S Z=true) (hi:i<Z.length):rF S (Z.getD i ⟨⟨0,0⟩,0⟩)=true:=by
 obtain⟨_,hm,hc⟩:=eW.1 h
 obtain⟨h0,h8,h1,h4,h5,hin⟩:=dw.1 hr
 have hok:=f7.1 (j6.1 hm i hi)
 refine ir.2 ⟨hr,hok.2.1,λj hj=> ?_⟩
 have hjl:j<S.on.length:=by
  rcases acy j S.on.length with k|k
  ·exact k
  ·have:=gI.1 hok.2.2 j k
   rw[hj]at this;cases this
 refine⟨by omega,gw.2 ⟨hok.1,λp hp hh=> ?_⟩⟩
 refine((iC hr hm hjl).1 (hc j hjl) p hp).2 (sX.2 ⟨i,hi,?_⟩)
 rw[hj,ack]
 unfold oJ
 grind
theorem RL (hr:dt S=true) (h:gH S Z=true):∃Y:List Int,Y.Nodup∧oa (mL S (eZ S)) Y∧Y.length≤Z.length:=by
 obtain⟨_,hm,hc⟩:=eW.1 h
 have place:∀z,∃c:Nat,z∈Z→rF S z=true→c<(eZ S).length∧uo ((eZ S).getD c ⟨⟨0,0⟩,0⟩) z=true:=λz=>by
  by_cases hz:rF S z=true
  ·obtain⟨j,h1,h2⟩:=(sW _).1 (Jx hz)
   exact⟨j,λ_ _=>⟨h1,h2⟩⟩
  ·exact⟨0,λ_ k=>absurd k hz⟩
 let idx:Rw→Int:=λz=>((Classical.choose (place z):Nat):Int)
 have hidx:∀z,z∈Z→rF S z=true→∃c:Nat,idx z=(c:Int)∧c<(eZ S).length∧uo ((eZ S).getD c ⟨⟨0,0⟩,0⟩) z=true:=λz h1 h2=>⟨_,rfl,Classical.choose_spec (place z) h1 h2⟩
 have fold:∀(l:List Rw) (acc:List Int),acc.Nodup→((l.foldl (λa z=>jm a (idx z)) acc).Nodup∧(l.foldl (λa z=>jm a (idx z)) acc).length≤acc.length+l.length∧∀x,x∈acc∨(∃z,z∈l∧x=idx z)→x∈l.foldl (λa z=>jm a (idx z)) acc):=by
  intro l
  induction l with
  |nil=>intro acc ha;exact⟨ha,by simp,λx hx=>hx.elim id λ⟨z,hz,_⟩=>by cases hz⟩
  |cons z l ih=>
   intro acc ha
   obtain⟨i1,i2,i3⟩:=ih (jm acc (idx z)) (ka ha _)
   have hl:=si acc (idx z)
   refine⟨i1,?_,λx hx=>i3 x ?_⟩
   ·rw[adn,aaW];omega
   ·rcases hx with hx|⟨y,hy,e⟩
    ·exact .inl (gy.2 (.inl hx))
    ·rcases ab9.1 hy with q|q
     ·rw[q]at e;exact .inl (gy.2 (.inr e))
     ·exact .inr ⟨y,q,e⟩
 obtain⟨f1,f2,f3⟩:=fold Z [] List.nodup_nil
 refine⟨_,f1,λr hr2=> ?_,by simpa using f2⟩
 obtain⟨q,hq,j,hj,e⟩:=(pL _).1 (nG.1 hr2)
 obtain⟨p,hp,hpb,hpe⟩:=mq hj
 rw[hpe,my]at e
 have hpn:p<2^S.n.toNat:=UC hr hq hpb hp
 obtain⟨i,hi,hb⟩:=sX.1 (((iC hr hm hq).1 (hc q hq) p hpn).1 hpb)
 rw[so]at hb
 have hz:Z.getD i ⟨⟨0,0⟩,0⟩∈Z:=dF hi
 have hin:rF S (Z.getD i ⟨⟨0,0⟩,0⟩)=true:=Vr hr h hi
 obtain⟨c,h1,h2,h3⟩:=hidx _ hz hin
 obtain⟨h4,h5⟩:=qd.1 h3
 refine⟨(c:Int),?_,f3 _ (.inr ⟨_,hz,h1.symm⟩)⟩
 rw[e]
 refine pF.2 ⟨c,rfl,h2,?_⟩
 unfold Ms
 rw[h5 q hb.1,ack]
 have hv1:=(dB.1 (gE hin)).2.2.2
 have hv2:=(dB.1 (gE (yS hr c h2))).2.2.2
 have hp1:=of_decide_eq_true hb.2
 rw[hv1]at hp1
 unfold oJ
 rw[decide_eq_true_eq,hv2]
 grind [mQ]
end
structure Bq (S:Sp) (R:List Rw):Prop where
 cov:gH S R=true
 sub:R.Sublist (eZ S)
 min:∀Z,gH S Z=true→R.length≤Z.length
theorem Sa (hr:dt S=true) (hl:(eZ S).length≤4000) (h:m5 (mL S (eZ S)) L T) (k:Sj L ((eZ S).length:Int) X) (hk:∀c,c∈ks↔c∈T++X) (hn:ks.Nodup):Bq S (A9 (eZ S) ks (eZ S).length):=by
 obtain⟨h1,h2⟩:=Sj.both h k
 refine⟨I6 hr hl (zW h1 λc hc=>(hk c).2 hc),?_,λZ hZ=> ?_⟩
 ·have:=Jk (l:=eZ S) (ks:=ks) _ (am _)
  rwa [aaY]at this
 ·obtain⟨Y,y1,y2,y3⟩:=RL hr hZ
  have:=h2 Y y1 y2
  have h3:=NG (eZ S) ks (eZ S).length
  have h4:=uD hn λc hc=>(hk c).1 hc
  omega
end
section
def pB (m v:Nat):Nat→Nat
 |0=>0
 |k+1=>pB m v k+(if m.testBit k=true then 2^(2*k+(if v.testBit k=true then 1 else 0))else 0)
def vN (c:Cb):Nat:=pB c.m c.v 8
theorem VB (k:Nat):2^(2*k)+2^(2*k)+2^(2*k)+2^(2*k)=2^(2*(k+1)):=by
 grind
theorem SB (k:Nat):2^(2*k+1)=2^(2*k)+2^(2*k):=by omega
theorem Dr (m v:Nat):∀k,pB m v k<2^(2*k)
 |0=>by simp[pB]
 |k+1=>by
  have ih:=Dr m v k
  have h1:=VB k
  have h2:=SB k
  rw[pB]
  split
  ·split
   ·rw[h2];omega
   ·rw[ac7];omega
  ·omega
theorem QI (hx:x<2^a) (ha:a≤e):(x+2^e).testBit t=(x.testBit t||decide (t=e)):=by
 have hlt:x<2^e:=ab0 hx (aaV (by decide) ha)
 have h:=acu hlt 1
 grind
theorem rN (m v:Nat):∀(k j b:Nat),b<2→((pB m v k).testBit (2*j+b)=true↔j<k∧m.testBit j=true∧v.testBit j=decide (b=1))
 |0,j,b,_=>by simp[pB]
 |k+1,j,b,hb=>by
  have ih:=rN m v k j b hb
  rw[pB]
  by_cases hm:m.testBit k=true
  ·rw[if_pos hm]
   generalize hv:(if v.testBit k=true then 1 else 0:Nat)=d
   have hd:d<2∧v.testBit k=decide (d=1):=by
    subst hv
    split
    ·rename_i h;exact⟨by omega,by rw[h];rfl⟩
    ·rename_i h;exact⟨by omega,by simpa using h⟩
   rw[QI (Dr m v k) (by omega),acr,ih,decide_eq_true_iff]
   constructor
   ·rintro(⟨h1,h2,h3⟩|h)
    ·exact⟨by omega,h2,h3⟩
    ·obtain rfl:j=k:=by omega
     obtain rfl:b=d:=by omega
     exact⟨by omega,hm,hd.2⟩
   ·rintro⟨h1,h2,h3⟩
    by_cases e:j=k
    ·subst e
     rw[hd.2]at h3
     have:(d=1)↔(b=1):=decide_eq_decide.1 h3
     exact .inr (by omega)
    ·exact .inl ⟨by omega,h2,h3⟩
  ·rw[if_neg hm,ac7,ih]
   constructor
   ·rintro⟨h1,h2⟩;exact⟨by omega,h2⟩
   ·rintro⟨h1,h2,h3⟩
    refine⟨?_,h2,h3⟩
    by_cases e:j=k
    ·subst e;exact absurd h2 hm
    ·omega
theorem DX (h:vN c=vN d) (hj:j<8) (hc:c.m.testBit j=true):d.m.testBit j=true∧d.v.testBit j=c.v.testBit j:=by
 unfold vN at h
 cases hv:c.v.testBit j with
 |false=>
  have h1:=(rN c.m c.v 8 j 0 (by decide)).2 ⟨hj,hc,hv⟩
  rw[h]at h1
  exact((rN d.m d.v 8 j 0 (by decide)).1 h1).2
 |true=>
  have h1:=(rN c.m c.v 8 j 1 (by decide)).2 ⟨hj,hc,hv⟩
  rw[h]at h1
  exact((rN d.m d.v 8 j 1 (by decide)).1 h1).2
theorem NN (hc:c.m<256) (hd:d.m<256) (vc:c.v &&& c.m=c.v) (vd:d.v &&& d.m=d.v) (h:vN c=vN d):c=d:=by
 have hi:∀(a:Nat),a<256→∀j,8≤j→a.testBit j=false:=λa ha j hj=>(gI (n:=8)).1 ha j hj
 have em:c.m=d.m:=aaF λj=>by
  rcases acy j 8 with hj|hj
  ·cases e1:c.m.testBit j with
   |true=>exact(DX h hj e1).1.symm
   |false=>
    cases e2:d.m.testBit j with
    |false=>rfl
    |true=>rw[(DX h.symm hj e2).1]at e1;cases e1
  ·rw[hi _ hc j hj,hi _ hd j hj]
 have ev:c.v=d.v:=aaF λj=>by
  rcases acy j 8 with hj|hj
  ·cases e1:c.m.testBit j with
   |true=>exact(DX h hj e1).2.symm
   |false=>rw[fD vc,fD vd,←em,e1,acM,acM]
  ·rw[fD vc,fD vd,hi _ hc j hj,hi _ hd j hj,acM,acM]
 cases c;cases d
 grind
theorem Gz (m v i:Nat) (h:∀j,j<i→m.testBit j=false):∀k,2^(2*i)∣pB m v k
 |0=>Nat.dvd_zero _
 |k+1=>by
  rw[pB]
  refine Nat.dvd_add (Gz m v i h k) ?_
  split
  ·rename_i hk
   refine adk 2 ?_
   have:¬k<i:=λq=>by rw[h k q]at hk;cases hk
   omega
  ·exact Nat.dvd_zero _
theorem BQ {i one:Nat} (h1:one=0∨one=1) (hm:c.m.testBit i=false) (hv:c.v.testBit i=false):∀k,pB (i7 i one c).m (i7 i one c).v k=pB c.m c.v k+(if i<k then 2^(2*i+one)else 0)
 |0=>by simp[pB]
 |k+1=>by
  have ih:=BQ h1 hm hv k
  have lm:=kl c i one k
  have lv:(i7 i one c).v.testBit k=(c.v.testBit k||(decide (k=i)&&decide (one=1))):=by
   rcases h1 with rfl|rfl
   ·rw[o4];simp
   ·rw[o0];simp
  rw[pB,pB,ih,lm,lv]
  by_cases e:k=i
  ·subst e
   rcases h1 with rfl|rfl<;>simp[hm,hv]
  ·rw[decide_eq_false e,adq,acs,adq]
   by_cases q:i<k
   ·have q2:i<k+1:=by omega
    rw[if_pos q,if_pos q2]
    omega
   ·have q2:¬i<k+1:=by omega
    rw[if_neg q,if_neg q2]
    omega
structure Rt (n:Nat) (c:Cb):Prop where
 m:c.m<2^n
 v:c.v &&& c.m=c.v
def MJ (n s:Nat) (c:Cb):Prop:=∀p,p<2^n→hold c p→s.testBit p=true
theorem Xr {n:Nat} (h8:n≤8) {c:Cb}:dS c.m c.v (n:Int)=true↔Rt n c:=by
 rw[dB,my]
 exact⟨λh=>⟨h.2.2.1,h.2.2.2⟩,λh=>⟨by omega,by omega,h.m,h.v⟩⟩
theorem JQ (hi:i<8) (h:Rt n c):Rt n (jI c i):=by
 refine⟨gI.2 λj hj=> ?_,?_⟩
 ·show (lK c.m (i:Int)).testBit j=false
  rw[fH hi,gI.1 h.m j hj,acs]
 ·show (c.v &&& lK c.m (i:Int)) &&& lK c.m (i:Int)=_
  rw[Nat.and_assoc,Nat.and_self]
  rfl
theorem g6 {n s:Nat} (h8:n≤8) {c:Cb}:iL c.m c.v s (n:Int)=true↔Rt n c∧MJ n s c∧∀i,i<n→c.m.testBit i=true→¬MJ n s (jI c i):=by
 have hw:∀d:Cb,tV d.m d.v s (n:Int)=true↔Rt n d∧MJ n s d:=λd=>by
  have:=gw (s:=s) (n:=(n:Int)) (c:=d)
  rw[Xr h8,my]at this
  exact this
 rw[gF,hw,my]
 constructor
 ·rintro⟨⟨h1,h2⟩,h3⟩
  refine⟨h1,h2,λi hi hb hq=> ?_⟩
  have h4:=h3 i hi
  unfold lF at h4
  rw[hb,ack]at h4
  have h5:=(hw (jI c i)).2 ⟨JQ (by omega) h1,hq⟩
  have h6:tV (lK c.m (i:Int)) (c.v &&& lK c.m (i:Int)) s (n:Int)=true:=h5
  rw[h4]at h6
  cases h6
 ·rintro⟨h1,h2,h3⟩
  refine⟨⟨h1,h2⟩,λi hi=>aaT.2 λh4=> ?_⟩
  unfold lF at h4
  obtain⟨h5,h6⟩:=ac2.1 h4
  grind [jI]
def wo (n s x:Nat):Prop:=∃c:Cb,iL c.m c.v s (n:Int)=true∧x=vN c
structure xG (n s i:Nat):Prop where
 le:i≤n
 out:∀p,p<256→s.testBit p=true→p<2^n
 free:∀p j,p<256→j<i→s.testBit (p ^^^ 2^j)=s.testBit p
theorem OQ (h:∀p,p<256→s.testBit p=true→p<2^n):xG n s 0:=⟨me _,h,λ_ j _ hj=>absurd hj (Nat.not_lt_zero j)⟩
section
variable {n s t i:Nat}
theorem xG.good (h:xG n s i):oI n 0 s i:=⟨h.le,λp _ hq=>(by rw[acn]at hq;cases hq),h.out,λp j _ _=>(by rw[acn,acn]),h.free⟩
theorem xG.side (h8:n≤8) (h:xG n s i) (hi:i<n) (x:Bool):xG n (cS s i x) (i+1):=by
 have g:=h.good.side h8 hi x
 exact⟨g.le,g.out,g.freeM⟩
theorem xG.and (h:xG n s i) (k:xG n t i):xG n (s &&& t) i:=by
 refine⟨h.le,λp hp hq=> ?_,λp j hp hj=> ?_⟩
 ·rw[abd,so]at hq
  exact h.out p hp hq.1
 ·rw[abd,abd,h.free p j hp hj,k.free p j hp hj]
theorem xG.lt (h8:n≤8) (h:xG n s i) (h0:¬Bc s 0=true) (h1:¬Bc s (fk n)=true):i<n:=by
 rcases acy i n with k|k
 ·exact k
 ·obtain rfl:i=n:=by have:=h.le;omega
  have g:oI i s s i:=⟨h.le,λ_ _ q=>q,h.out,h.free,h.free⟩
  rcases g.end h8 with q|q
  all_goals grind
theorem RJ (hj:j<8) (hv:c.v &&& c.m=c.v) (hb:c.m.testBit j=false):jI c j=c:=by
 have e:lK c.m (j:Int)=c.m:=aaF λq=>by
  rw[fH hj]
  by_cases k:q=j
  ·subst k;rw[hb];rfl
  ·simp[k]
 show Cb.mk (lK c.m (j:Int)) (c.v &&& lK c.m (j:Int))=c
 rw[e,hv]
theorem F2 (h8:n≤8) (hc:Rt n c) (hj:j<n) (hf:∀p,p<2^n→s.testBit (p ^^^ 2^j)=s.testBit p) (h:MJ n s c):MJ n s (jI c j):=by
 intro p hp hh
 by_cases hb:c.m.testBit j=true
 ·have hh':p &&& lK c.m (j:Int)=c.v &&& lK c.m (j:Int):=hh
  rcases(B5 (by omega) hb hc.v).1 hh' with k|k
  ·exact h p hp k
  ·rw[←hf p hp]
   refine h _ (DV hj hp) ?_
   unfold hold
   refine aaF λq=> ?_
   have e:=congrArg (λx=>x.testBit q) k
   simp only[abd,sR]at e ⊢
   by_cases e2:q=j
   ·subst e2
    rw[if_pos rfl]
    rw[if_pos rfl,hb,acx]at e
    rw[hb,acx,e,Bool.not_not]
   ·rw[if_neg e2]at e ⊢
    exact e
 ·refine h p hp ?_
  have e:jI c j=c:=RJ (by omega) hc.v (by simpa using hb)
  grind
theorem uh (h8:n≤8) (h:xG n s i) {c:Cb} (hp:iL c.m c.v s (n:Int)=true) {j:Nat} (hj:j<i):c.m.testBit j=false:=by
 obtain⟨h1,h2,h3⟩:=(g6 h8).1 hp
 have hle:=h.le
 have h256:=gm h8
 refine aaT.2 λhb=>h3 j (by omega) hb ?_
 exact F2 h8 h1 (by omega) (λp hp=>h.free p j (by omega) hj) h2
theorem v6 (h8:n≤8) (h:xG n s i) (hx:wo n s x):2^(2*i)∣x:=by
 obtain⟨c,hc,rfl⟩:=hx
 exact Gz _ _ _ (λj hj=>uh h8 h hc hj) 8
theorem Ef (h8:n≤8) {x:Nat} (hx:wo n s x):x<2^(2*n):=by
 obtain⟨c,hc,rfl⟩:=hx
 obtain⟨h1,_,_⟩:=(g6 h8).1 hc
 have key:∀d,pB c.m c.v (n+d)=pB c.m c.v n:=λd=>by
  induction d with
  |zero=>rfl
  |succ d ih=>rw[←Nat.add_assoc,pB,gI.1 h1.m (n+d) (by omega),ih];simp
 unfold vN
 rw[show 8=n+(8-n)by omega,key]
 exact Dr _ _ _
theorem YI (h8:n≤8) (h:Bc s 0=true) (x:Nat):¬wo n s x:=by
 rintro⟨c,hc,rfl⟩
 obtain⟨h1,h2,_⟩:=(g6 h8).1 hc
 have h256:=gm h8
 have hv:c.v<2^n:=gI.2 λj hj=>by rw[fD h1.v,gI.1 h1.m j hj,acM]
 have h3:=h2 c.v hv h1.v
 grind [tB]
theorem SW (h8:n≤8) (h:Bc s (fk n)=true) (x:Nat):wo n s x↔x=0:=by
 have h256:=gm h8
 have all:∀c,MJ n s c:=λc p hp _=>by rw[tB.1 h p (by omega),fo];exact decide_eq_true hp
 constructor
 ·rintro⟨c,hc,rfl⟩
  obtain⟨h1,h2,h3⟩:=(g6 h8).1 hc
  have hm:∀j,c.m.testBit j=false:=λj=>by
   rcases acy j n with k|k
   ·exact aaT.2 λhb=>h3 j k hb (all _)
   ·exact gI.1 h1.m j k
  have key:∀k,pB c.m c.v k=0:=λk=>by
   induction k with
   |zero=>rfl
   |succ k ih=>rw[pB,ih,hm];rfl
  exact key 8
 ·rintro rfl
  refine⟨⟨0,0⟩,(g6 h8).2 ⟨⟨ace n,rfl⟩,all _,λi _ hb=> ?_⟩,rfl⟩
  grind
theorem yt (h8:n≤8) (hi:i<n) (hc:Rt n c) (hm:c.m.testBit i=false) (b:Bool):MJ n (cS s i b) c↔MJ n s (i7 i (if b=true then 1 else 0) c):=by
 have h256:=gm h8
 have h1:(if b=true then 1 else 0:Nat)=0∨(if b=true then 1 else 0:Nat)=1:=by cases b;exact .inl rfl;exact .inr rfl
 have hb:decide ((if b=true then 1 else 0:Nat)=1)=b:=by cases b<;>rfl
 constructor
 ·intro h p hp hh
  obtain⟨k1,k2⟩:=(wl h1 hc.v hm).1 hh
  rw[hb]at k1
  have:=((fS (by omega)).1 (h p hp k2)).2
  rwa [lM k1]at this
 ·intro h p hp hh
  refine(fS (by omega)).2 ⟨by omega,h _ ((lB hi).2 hp) ((wl h1 hc.v hm).2 ⟨?_,(zh hm).2 hh⟩)⟩
  rw[nC,if_pos rfl,hb]
theorem yD (h8:n≤8) (hi:i<n) (hm:c.m.testBit i=false):MJ n (cS s i false &&& cS s i true) c↔MJ n s c:=by
 have h256:=gm h8
 constructor
 ·intro h p hp hh
  have h2:=h p hp hh
  rw[abd,so]at h2
  cases hb:p.testBit i with
  |false=>have:=((fS (by omega)).1 h2.1).2;rwa [lM hb]at this
  |true=>have:=((fS (by omega)).1 h2.2).2;rwa [lM hb]at this
 ·intro h p hp hh
  rw[abd,so]
  exact⟨(fS (by omega)).2 ⟨by omega,h _ ((lB hi).2 hp) ((zh hm).2 hh)⟩,(fS (by omega)).2 ⟨by omega,h _ ((lB hi).2 hp) ((zh hm).2 hh)⟩⟩
theorem ru (hj:j<8):(jI c j).m.testBit q=(c.m.testBit q&&decide (q≠j)):=fH hj q
theorem KJ {i j one:Nat} (hi:i<8) (hj:j<8) (hij:¬j=i) (h1:one=0∨one=1) (hv:c.v.testBit i=false):jI (i7 i one c) j=i7 i one (jI c j):=by
 have e1:(jI (i7 i one c) j).m=(i7 i one (jI c j)).m:=aaF λq=>by
  rw[ru hj,kl,kl,ru hj]
  by_cases e:q=i
  ·subst e;have:¬q=j:=λk=>hij k.symm;simp[this]
  ·simp[e]
 have vv:∀(d:Cb) (q:Nat),(jI d j).v.testBit q=(d.v.testBit q&&(d.m.testBit q&&decide (q≠j))):=λd q=>by
  show (d.v &&& lK d.m (j:Int)).testBit q=_
  rw[abd,fH hj]
 have e2:(jI (i7 i one c) j).v=(i7 i one (jI c j)).v:=aaF λq=>by
  rw[vv,kl]
  rcases h1 with rfl|rfl
  ·rw[o4,o4,vv]
   by_cases e:q=i
   ·subst e
    rw[hv,acs,acs]
   ·simp[e]
  ·rw[o0,o0,vv]
   by_cases e:q=i
   ·subst e;have:¬q=j:=λk=>hij k.symm;simp[this]
   ·simp[e]
 grind [jI,i7]
theorem Xz {one:Nat} (h1:one=0∨one=1) (hi:i<n) (hc:Rt n c):Rt n (i7 i one c):=by
 refine⟨gI.2 λj hj=> ?_,aaF λj=> ?_⟩
 ·rw[kl,gI.1 hc.m j hj,Bool.false_or,decide_eq_false (by omega)]
 ·have hb:=fD hc.v j
  rw[abd,kl]
  rcases h1 with rfl|rfl
  ·rw[o4,hb]
   cases c.v.testBit j<;>cases c.m.testBit j<;>rfl
  ·rw[o0]
   grind
theorem O0 (hi:i<n) (h8:n≤8) (hc:Rt n c) (hm:c.m.testBit i=true):c=i7 i (if c.v.testBit i=true then 1 else 0) (jI c i):=by
 have hi8:i<8:=by omega
 have vv:∀q:Nat,(jI c i).v.testBit q=(c.v.testBit q&&(c.m.testBit q&&decide (q≠i))):=λq=>by
  show (c.v &&& lK c.m (i:Int)).testBit q=_
  rw[abd,fH hi8]
 have e1:c.m=(i7 i (if c.v.testBit i=true then 1 else 0) (jI c i)).m:=aaF λq=>by
  rw[kl,ru hi8]
  by_cases e:q=i
  ·subst e;simp[hm]
  ·simp[e]
 have e2:c.v=(i7 i (if c.v.testBit i=true then 1 else 0) (jI c i)).v:=aaF λq=>by
  have hb:=fD hc.v q
  cases hv:c.v.testBit i with
  |false=>
   rw[if_neg (by decide),o4,vv]
   by_cases e:q=i
   ·subst e;simp[hv]
   ·simp only[ne_eq,e,not_false_eq_true,decide_true,acx];exact hb
  |true=>
   rw[if_pos rfl,o0,vv]
   by_cases e:q=i
   ·subst e;simp[hv]
   ·simp only[ne_eq,e,not_false_eq_true,decide_true,acx,decide_false,adq];exact hb
 cases h:i7 i (if c.v.testBit i=true then 1 else 0) (jI c i)
 rw[h]at e1 e2
 cases c
 grind
theorem Mi (h8:n≤8) (h:xG n s i) (hi:i<n) (x:Nat):
  wo n s x↔wo n (cS s i false &&& cS s i true) x∨(∃y,(wo n (cS s i false) y∧¬wo n (cS s i false &&& cS s i true) y)∧x=y+2^(2*i))∨(∃y,(wo n (cS s i true) y∧¬wo n (cS s i false &&& cS s i true) y)∧x=y+2^(2*i+1)):=by
 have hi8:i<8:=by omega
 have h256:=gm h8
 have hS:=λb=>h.side h8 hi b
 have hC:=(hS false).and (hS true)
 have wsub:∀b c,MJ n (cS s i false &&& cS s i true) c→MJ n (cS s i b) c:=λb c k p hp hh=>by
  have:=k p hp hh
  rw[abd,so]at this
  cases b with
  |false=>exact this.1
  |true=>exact this.2
 have one:∀b:Bool,(if b=true then 1 else 0:Nat)=0∨(if b=true then 1 else 0:Nat)=1:=λb=>by cases b;exact .inl rfl;exact .inr rfl
 have A:∀c:Cb,c.m.testBit i=false→(iL c.m c.v s (n:Int)=true↔iL c.m c.v (cS s i false &&& cS s i true) (n:Int)=true):=λc hm=>by
  rw[g6 h8,g6 h8,yD h8 hi hm]
  refine and_congr_right λhc=>and_congr_right λ_=> ?_
  refine forall_congr' λj=>forall_congr' λhj=>forall_congr' λhb=>not_congr ?_
  exact(yD h8 hi (by rw[ru (by omega),hm,acs])).symm
 have B:∀(b:Bool) (c:Cb),Rt n c→c.m.testBit i=false→(iL (i7 i (if b=true then 1 else 0) c).m (i7 i (if b=true then 1 else 0) c).v s (n:Int)=true↔iL c.m c.v (cS s i b) (n:Int)=true∧¬iL c.m c.v (cS s i false &&& cS s i true) (n:Int)=true):=λb c hc hm=>by
  have hv:c.v.testBit i=false:=by rw[fD hc.v,hm,acM]
  have hrt:=Xz (one b) hi hc
  have drop:jI (i7 i (if b=true then 1 else 0) c) i=c:=by
   have e1:(jI (i7 i (if b=true then 1 else 0) c) i).m=c.m:=aaF λq=>by
    rw[ru hi8,kl]
    by_cases e:q=i
    ·subst e;simp[hm]
    ·simp[e]
   have e2:(jI (i7 i (if b=true then 1 else 0) c) i).v=c.v:=aaF λq=>by
    show ((i7 i (if b=true then 1 else 0) c).v &&& lK (i7 i (if b=true then 1 else 0) c).m (i:Int)).testBit q=_
    have hb:=fD hc.v q
    rw[abd,fH hi8,kl]
    by_cases e:q=i
    ·subst e;rw[hv];simp
    ·cases b with
     |false=>rw[if_neg (by decide),o4];simp only[decide_false,adq,ne_eq,e,not_false_eq_true,decide_true,acx];exact hb.symm
     |true=>rw[if_pos rfl,o0];simp only[decide_false,adq,ne_eq,e,not_false_eq_true,decide_true,acx];exact hb.symm
   cases k:jI (i7 i (if b=true then 1 else 0) c) i
   rw[k]at e1 e2
   cases c
   simp only[Cb.mk.injEq]
   exact⟨e1,e2⟩
  rw[g6 h8,g6 h8]
  constructor
  ·rintro⟨_,h2,h3⟩
   have g2:=(yt h8 hi hc hm b).2 h2
   refine⟨⟨hc,g2,λj hj hb hq=> ?_⟩,λhp=> ?_⟩
   ·have hji:¬j=i:=λe=>by rw[e,hm]at hb;cases hb
    refine h3 j hj (by rw[kl,hb,Bool.true_or]) ?_
    rw[KJ hi8 (by omega) hji (one b) hv]
    exact(yt h8 hi (JQ (by omega) hc) (by rw[ru (by omega),hm,acs]) b).1 hq
   ·refine h3 i hi (by rw[kl,decide_eq_true rfl,Bool.or_true]) ?_
    rw[drop]
    exact(yD h8 hi hm).1 ((g6 h8).1 hp).2.1
  ·rintro⟨⟨_,h2,h3⟩,hn⟩
   refine⟨hrt,(yt h8 hi hc hm b).1 h2,λj hj hb hq=> ?_⟩
   by_cases hji:j=i
   ·subst hji
    rw[drop]at hq
    have g:=(yD h8 hi hm).2 hq
    exact hn ((g6 h8).2 ⟨hc,g,λq hq2 hb2 hw=>h3 q hq2 hb2 (wsub b _ hw)⟩)
   ·rw[kl,decide_eq_false hji,adq]at hb
    rw[KJ hi8 (by omega) hji (one b) hv]at hq
    exact h3 j hj hb ((yt h8 hi (JQ (by omega) hc) (by rw[ru (by omega),hm,acs]) b).2 hq)
 have inj:∀c d:Cb,Rt n c→Rt n d→vN c=vN d→c=d:=λc d hc hd e=>NN (by have:=hc.m;omega) (by have:=hd.m;omega) hc.v hd.v e
 have nz:∀(b:Bool) (c:Cb),iL c.m c.v (cS s i b) (n:Int)=true→Rt n c∧c.m.testBit i=false:=λb c hc=>⟨((g6 h8).1 hc).1,uh h8 (hS b) hc (acY i)⟩
 have mem:∀(b:Bool) (c:Cb),Rt n c→c.m.testBit i=false→vN (i7 i (if b=true then 1 else 0) c)=vN c+2^(2*i+(if b=true then 1 else 0)):=λb c hc hm=>by
  have hv:c.v.testBit i=false:=by rw[fD hc.v,hm,acM]
  have:=BQ (one b) hm hv 8
  rw[if_pos hi8]at this
  exact this
 constructor
 ·rintro⟨c,hc,rfl⟩
  have hrt:=((g6 h8).1 hc).1
  cases hm:c.m.testBit i with
  |false=>exact .inl ⟨c,(A c hm).1 hc,rfl⟩
  |true=>
   have e:=O0 hi h8 hrt hm
   have hd:(jI c i).m.testBit i=false:=by rw[ru hi8];simp
   have hdr:=JQ hi8 hrt
   rw[e]at hc
   obtain⟨g1,g2⟩:=(B _ _ hdr hd).1 hc
   have em:vN c=vN (jI c i)+2^(2*i+(if c.v.testBit i=true then 1 else 0)):=by
    conv=>lhs;rw[e]
    exact mem _ _ hdr hd
   have hno:¬wo n (cS s i false &&& cS s i true) (vN (jI c i)):=λ⟨d,h1,h2⟩=>by
    have:=inj _ _ hdr ((g6 h8).1 h1).1 h2
    rw[this]at g2
    exact g2 h1
   cases hv:c.v.testBit i with
   |false=>
    rw[hv]at g1 em
    exact .inr (.inl ⟨_,⟨⟨_,g1,rfl⟩,hno⟩,em⟩)
   |true=>
    rw[hv]at g1 em
    exact .inr (.inr ⟨_,⟨⟨_,g1,rfl⟩,hno⟩,em⟩)
 ·have back:∀(b:Bool) (y:Nat),wo n (cS s i b) y→¬wo n (cS s i false &&& cS s i true) y→wo n s (y+2^(2*i+(if b=true then 1 else 0))):=λb y ⟨c,hc,e⟩ hn=>by
   obtain⟨h1,h2⟩:=nz b c hc
   exact⟨_,(B b c h1 h2).2 ⟨hc,λk=>hn ⟨c,k,e⟩⟩,by rw[mem b c h1 h2,e]⟩
  rintro(⟨c,hc,rfl⟩|⟨y,⟨h1,h2⟩,rfl⟩|⟨y,⟨h1,h2⟩,rfl⟩)
  ·exact⟨c,(A c (uh h8 hC hc (acY i))).2 hc,rfl⟩
  all_goals grind
end
end
section
section
theorem Ja (i:Nat):∀n lv,QM n lv (2^i)≤1∧(i<lv→QM n lv (2^i)=0)
 |0,_=>⟨me _,λ_=>rfl⟩
 |n+1,lv=>by
  obtain⟨h1,h2⟩:=Ja i n (lv+1)
  rw[QM,ab5]
  by_cases h:i=lv
  ·subst h
   rw[decide_eq_true rfl,if_pos rfl,h2 (acY i)]
   exact⟨am _,λk=>absurd k (Nat.lt_irrefl _)⟩
  ·rw[decide_eq_false h,if_neg (by decide)]
   exact⟨by omega,λk=>by rw[h2 (by omega)]⟩
theorem Q9 (i:Nat):yA 0 [((2^i:Nat):Int)]≤1:=by
 have h:=(Ja i (24-0) 0).1
 grind [yA,QM,Int.toNat_natCast]
section
variable {ns ns':List Nd} {f g i:Nat}
def C3 (ns:List Nd) (g i:Nat):Prop:=∀x,x∈dz ns g↔x=2^i
theorem C3.node (h:Wf ns) (hg:g<ns.length+2) (hi:i<24) (hs:C3 ns g i):2≤g∧d6 ns g=i∧dK ns g i=0∧ef ns g i=1:=by
 have hm:2^i∈dz ns g:=(hs _).2 rfl
 have h2:2≤g:=by
  rcases acy g 2 with k|k
  ·exfalso
   have e:g=0∨g=1:=by omega
   rcases e with rfl|rfl
   ·rw[oe]at hm;cases hm
   ·rw[qK,aaG]at hm
    have:=ace i
    omega
  ·exact k
 have h24:=pc h hg h2
 have H:=iE h hg (am _) h24
 have hl:d6 ns g=i:=by
  have hB:ef ns g (d6 ns g)≠0:=by
   obtain⟨j,rfl⟩:∃j,g=j+2:=⟨g-2,by omega⟩
   unfold ef
   rw[if_pos ⟨by omega,rfl⟩,acN]
   exact(h.ok j (by omega)).2.2.1
  obtain⟨y,hy⟩:=jc h _ H.vb hB
  have e:=(hs _).1 ((H.mem _).2 (.inr ⟨y,hy,rfl⟩))
  have hb:=kF (iq H.lb (fl h _ H.vb y hy).1)
  rw[e,ab5]at hb
  exact(of_decide_eq_true hb).symm
 rw[hl]at H
 refine⟨h2,hl,?_,?_⟩
 ·rcases Nat.eq_zero_or_pos (dK ns g i)with k|k
  ·exact k
  ·exfalso
   obtain⟨y,hy⟩:=jc h _ H.va (by omega)
   have e:=(hs _).1 ((H.mem _).2 (.inl hy))
   have hb:=gp (iq H.la (fl h _ H.va y hy).1)
   rw[e,ab5]at hb
   exact absurd hb fF
 ·refine XL h _ H.vb 1 (by omega) λx=> ?_
  rw[qK,aaG]
  constructor
  ·intro hx
   have e:=(hs _).1 ((H.mem _).2 (.inr ⟨x,hx,rfl⟩))
   omega
  ·rintro rfl
   rcases(H.mem _).1 hm with k|⟨y,hy,e⟩
   ·exfalso
    have hb:=gp (iq H.la (fl h _ H.va _ k).1)
    rw[ab5]at hb
    exact absurd hb fF
   ·have:y=0:=by omega
    rw[←this];exact hy
theorem vP (h:(Hi f g).2=true):Ba n ns f g=0:=by
 cases n with
 |zero=>rfl
 |succ n=>rw[Ba,if_pos h]
theorem SG (h:Wf ns) (hf:f<ns.length+2) (hg:g<ns.length+2) (hi:i<24) (hs:C3 ns g i) (hl:i<d6 ns f):ro ns f g≤1:=by
 obtain⟨g2,gl,gA,gB⟩:=hs.node h hg hi
 unfold ro
 cases he:(Hi f g).2 with
 |true=>rw[vP he];omega
 |false=>
  obtain⟨n,hn⟩:∃n,25-min (d6 ns f) (d6 ns g)=n+1:=⟨24-min (d6 ns f) (d6 ns g),by omega⟩
  have e:min (d6 ns f) (d6 ns g)=i:=by omega
  have fA:dK ns f i=f:=if_neg (λk=>by omega)
  have fB:ef ns f i=0:=if_neg (λk=>by omega)
  rw[hn,Ba,if_neg (by rw[he];decide),e,fA,fB,gA,gB]
  have e0:∀x,(Hi x 0).2=true:=λx=>by unfold Hi;rw[if_pos (.inr rfl)]
  have e1:∀x,(Hi 0 x).2=true:=λx=>by unfold Hi;rw[if_pos (.inl rfl)]
  have e2:(Hi f 1).2=true:=by
   unfold Hi
   split
   ·rfl
   ·split
    ·rfl
    ·rfl
  rw[vP (e0 f),vP (e0 0),vP e2,vP (e1 1)]
  unfold QN uJ
  rw[oe]
  simp
structure yP (ns ns':List Nd) (R c:Nat) (e:Int):Prop where
 pre:ns<+:ns'
 st:(e=0∧ns'.length≤ns.length+c)∨(e=5∧R≤ns.length+c)
variable {ns1 ns2:List Nd} {R c c1 c2 l id:Nat} {e e1 er:Int} {S:Nat→Prop}
theorem yP.refl:yP ns ns R 0 0:=⟨acO _, .inl ⟨rfl,by omega⟩⟩
theorem yP.mono (h:yP ns ns' R c e) (hc:c≤c2):yP ns ns' R c2 e:=⟨h.pre,h.st.imp (λk=>⟨k.1,by omega⟩) (λk=>⟨k.1,by omega⟩)⟩
theorem yP.ers (h:yP ns ns' R c e):e=0∨e=5:=h.st.imp (·.1) (·.1)
theorem yP.ok (h:yP ns ns' R c e) (hR:ns.length+c<R):e=0∧ns'.length≤ns.length+c:=by
 rcases h.st with k|k
 all_goals omega
def iX (e er:Int):Int:=if e=0 then er else e
def ko (e er:Int) (id:Nat):Nat:=if iX e er=0 then id else 0
theorem iB:iX e er=0↔e=0∧er=0:=by
 unfold iX
 omega
theorem ms (h:iX e er=0):ko e er id=id:=if_pos h
theorem qh (hv:id<ns.length+2):ko e er id<ns.length+2:=by
 grind [ko]
theorem yP.did (h:yP ns ns1 R c e) (g:kc ns1 ns2 R c1 l S id er) (hc:e=0→c1≤c2):yP ns ns2 R (c+c2) (iX e er):=by
 refine⟨h.pre.trans g.pre,?_⟩
 have gc:=g.cost
 rcases h.st with ⟨h1,h2⟩|⟨h1,h2⟩
 ·have:=hc h1
  rcases g.res with ⟨k1,_⟩|⟨k1,_,k3⟩
  ·exact .inl ⟨iB.2 ⟨h1,k1⟩,by omega⟩
  ·refine .inr ⟨?_,by omega⟩
   unfold iX;rw[if_pos h1];exact k1
 ·refine .inr ⟨?_,by omega⟩
  unfold iX;rw[if_neg (by rw[h1];decide)];exact h1
theorem yP.step (h:yP ns ns1 R c e) (g:e=0→yP ns1 ns2 R c2 e1) (g5:¬e=0→ns1<+:ns2∧e1=e):yP ns ns2 R (c+c2) e1:=by
 rcases h.st with ⟨h1,h2⟩|⟨h1,h2⟩
 ·have k:=g h1
  refine⟨h.pre.trans k.pre,?_⟩
  rcases k.st with ⟨k1,k2⟩|⟨k1,k2⟩
  ·exact .inl ⟨k1,by omega⟩
  ·exact .inr ⟨k1,by omega⟩
 ·obtain⟨k1,k2⟩:=g5 (by rw[h1];decide)
  exact⟨h.pre.trans k1, .inr ⟨by rw[k2];exact h1,by omega⟩⟩
end
structure Vw (ns ns':List Nd) (R:Nat) (e e':Int) (f i id:Nat):Prop where
 v:id<ns'.length+2
 pre:ns<+:ns'
 sta:e=0→i<d6 ns f→yP ns ns' R 2 e'
 err:¬e=0→e'=e
 m:e'=0→∀x,x∈dz ns' id↔oA (M ns f) (·=2^i) x
theorem YZ {ns ns1 ns2:List Nd} {R f i l0 l1 idA idB:Nat} {e erA erB:Int} (hw1:Wf ns1) (gA:kc ns ns1 R (yA 0 [((1*2^i:Nat):Int)]) l0 (bS [((1*2^i:Nat):Int)] 0) idA erA) (gB:kc ns1 ns2 R (rG.cst ns1 f (ko e erA idA)) l1 (rG.res (M ns1 f) (M ns1 (ko e erA idA))) idB erB) (hf:f<ns.length+2) (hi:i<24):
  Vw ns ns2 R e (iX (iX e erA) erB) f i (ko (iX e erA) erB idB):=by
 rw[abJ]at gA
 have p1:=gt gA.pre
 have hS:erA=0→C3 ns1 idA i:=λh x=>by
  rw[(gA.ok h).2.2 x]
  constructor
  ·rintro⟨m,hm,e⟩
   rw[aaG.1 hm,my,KX]at e
   exact e
  ·rintro rfl
   exact⟨_,aaG.2 rfl,by rw[my,KX]⟩
 refine⟨qh gB.valid,gA.pre.trans gB.pre,λhe hl=> ?_,λhe=> ?_,λh0 x=> ?_⟩
 ·subst he
  refine((yP.refl.did gA (c2:=1) (λ_=>Q9 i)).did gB (c2:=1) (λh=> ?_)).mono (by omega)
  rw[ms h]
  exact SG hw1 (by omega) gA.valid hi (hS (iB.1 h).2) (by rw[iF gA.pre hf];exact hl)
 ·have h1:iX e erA=e:=if_neg he
  rw[h1];exact if_neg he
 ·obtain⟨h1,h2⟩:=iB.1 h0
  have k:=(gB.ok h2).2.2
  rw[ms h1,jj gA.pre hf]at k
  rw[ms h0,k x]
  have e2:M ns1 idA=(·=2^i):=fK (hS (iB.1 h1).2)
  rw[e2];rfl
def Wk (T:TypeId) (bw bz bd:Nat) (w:World):Prop:=∃e,At w bw #[.pointer (some ⟨bz,0,none⟩), .map (some bd), .int .i64 e] T
structure Dw (Tn T:TypeId) (N bw bz bd ba bm:Nat) (w w':World):Prop where
 dx:Dx Tn N [bw,bd,ba,bm] w w'
 wk:Wk T bw bz bd w→Wk T bw bz bd w'
section
variable {Ta Tn T:TypeId} {N bw bz bd ba bm R:Nat} {w w' w'':World} {ns ns':List Nd} {e e':Int}
theorem PO.dx (h:PO Ta Tn N ba bm R w ns c l S v w'):Dx Tn N [ba,bm] w w':=by
 obtain⟨_,_,_,_,h,_⟩:=h;exact h
theorem PE.dx {ok:Bool} (h:PE Ta Tn N ba bm R w ns ok c l S v w'):Dx Tn N [ba,bm] w w':=by
 obtain⟨_,_,_,_,h,_⟩:=h;exact h
theorem Dw.refl:Dw Tn T N bw bz bd ba bm w w:=⟨Dx.refl,id⟩
theorem Dw.trans (h:Dw Tn T N bw bz bd ba bm w w') (k:Dw Tn T N bw bz bd ba bm w' w''):Dw Tn T N bw bz bd ba bm w w'':=⟨h.dx.trans k.dx,λq=>k.wk (h.wk q)⟩
end
end
section
theorem rH (h:Wf ns) (hf:f<ns.length+2) (hj:j≤24) (hd:∀x,x∈dz ns f→2^j∣x):j≤d6 ns f:=by
 rcases acy f 2 with k|k
 ·rw[mn k];exact hj
 ·rcases acy (d6 ns f) j with q|q
  ·exfalso
   have H:=iE h hf (am _) (pc h hf k)
   have hB:ef ns f (d6 ns f)≠0:=by
    obtain⟨i,rfl⟩:∃i,f=i+2:=⟨f-2,by omega⟩
    unfold ef
    rw[if_pos ⟨by omega,rfl⟩,acN]
    exact(h.ok i (by omega)).2.2.1
   obtain⟨y,hy⟩:=jc h _ H.vb hB
   have h1:=hd _ ((H.mem _).2 (.inr ⟨y,hy,rfl⟩))
   have h2:=kF (iq H.lb (fl h _ H.vb y hy).1)
   have h3:=gp (iq q h1)
   rw[h2]at h3;cases h3
  ·exact q
def wS (ab:Bool) (F G:Nat→Prop) (x:Nat):Prop:=F x∧∃y,G y∧(if ab=true then HA x y else HA y x)
theorem N8 (hF:T6 l F) (x:Nat):oA F (·=2^l) x↔∃y,F y∧x=y+2^l:=by
 have key:∀y,F y→y ||| 2^l=y+2^l:=λy hy=>by
  have h:=(ui (hF y hy) (Nat.dvd_zero (2^(l+1)))).2.1
  rw[acA,Nat.or_zero]at h
  exact h
 constructor
 ·rintro⟨y,b,hy,rfl,rfl⟩
  exact⟨y,hy,key y hy⟩
 ·rintro⟨y,hy,rfl⟩
  exact⟨y,2^l,hy,rfl,(key y hy).symm⟩
end
section
structure De (ab:Bool) (ns:List Nd) (p:Nd×Int):Prop where
 v1:p.1.l<ns.length+2
 v2:p.1.lo<ns.length+2
 id:∃id:Nat,p.2=(id:Int)∧id<ns.length+2∧∀x,x∈dz ns id↔wS ab (M ns p.1.l) (M ns p.1.lo) x
def OK (ab:Bool) (ns:List Nd) (dl:List (Nd×Int)):Prop:=∀p,p∈dl→De ab ns p
section
variable {ab:Bool} {ns ns':List Nd} {dl:List (Nd×Int)} {f g i id:Nat}
theorem De.pre (hp:ns<+:ns') (h:De ab ns p):De ab ns' p:=by
 have hl:=gt hp
 obtain⟨id,h1,h2,h3⟩:=h.id
 refine⟨by have:=h.v1;omega,by have:=h.v2;omega,id,h1,by omega,?_⟩
 rw[jj hp h.v1,jj hp h.v2,jA hp h2]
 exact h3
theorem OK.pre (hp:ns<+:ns') (h:OK ab ns dl):OK ab ns' dl:=λp q=>(h p q).pre hp
end
theorem kN {e e':Int} (err:¬e=0→e'=e) (h:e'=0):e=0:=by
 omega
end
section
section
variable {Ta Tn T T':TypeId} {N bw bz bd ba bm R b:Nat} {w w' w'':World} {ns ns':List Nd} {xs:List Nat}
def PW (Ta Tn:TypeId) (N ba bm R:Nat) (w:World) (ns:List Nd) (S:List Nd→Nat→Int→Prop) (v:Value) (w':World):Prop:=
 ∃(ns':List Nd) (id:Nat) (er:Int),v= .tuple #[.int .i64 (id:Int), .int .i64 er]∧Dx Tn N [ba,bm] w w'∧fM Ta Tn N ba bm R w' ns'∧S ns' id er
end
end
end
end Go.Proofs.YtedeonkjellcpaaGreatDoor
