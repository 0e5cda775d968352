/- Words: rows of bytes, strings made of them, and maps whose keys are strings. Rows of rows that are the call's own. No program in it. Plain words for coverings of a spec: which rows there are, how they stand, the document's way of putting them in order. No program in it. Plain laws of coverings: what -/
import Derived.Test.YtedeonkjellcpaaGreatDoorCover
namespace Go.Proofs.YtedeonkjellcpaaGreatDoor
set_option linter.unusedVariables false
set_option linter.unusedSimpArgs false
section
open Go Go.RowKit
section
variable {P:Program} {f:Nat→Value} {w:World} {d:Option Nat} {ty:TypeId} {ps:String} {af:Array Edge} {g:Option (Nat×Bool)} {x y:Operand} {t t2:TypeId} {a:Int}
theorem Ur (hx:dg f x= .int .i64 a) (hy:dg f y= .int .u64 8) (h0:0≤a):(execOp (dg f) ⟨d, .binOp .shr t x y t2,ty,ps,af,g⟩).run P w= .ok (.value (.int .i64 (a/256))) w:=by
 obtain⟨m,rfl⟩:=aau h0
 rw[qd hx hy (by omega) (by decide)]
 simp
theorem N1 {desc:TypeDesc} (h:dg f x= .int .i64 a) (hs:P.underlying t=some desc) (ht:P.underlying t2=some (.int .u8)):
  (execOp (dg f) ⟨d, .convert t t2 x,ty,ps,af,g⟩).run P w= .ok (.value (.int .u8 (a%256))) w:=by
 rw[OK h hs ht]
 rfl
end
theorem uf {α:Type} [DecidableEq α] {l:List α} {k:α} (h:(iy (fp l) k).getD false=true):k∈l:=by
 rw[mn,decide_eq_true_eq]at h;exact h
theorem qR {α:Type} [DecidableEq α] {l:List α} {k:α} (h:(iy (fp l) k).getD false=false):k∉l:=by
 rw[mn,decide_eq_false_iff_not]at h;exact h
structure LO (T:TypeId) (N:Nat) (w:World) (vs:List Value) (L:List (List Int)):Prop where
 len:vs.length=L.length
 get:∀k,k<L.length→cD dJ 1 T w N (vs.getD k undef) (L.getD k [])
section
variable {T:TypeId} {N:Nat} {w w':World} {vs:List Value} {L:List (List Int)}
theorem LO.nil:LO T N w [] []:=⟨rfl,λk hk=>by cases hk⟩
theorem LO.ll (h:LO T N w vs L):LL w vs L:=⟨h.len,λk hk=>(h.get k hk).sl⟩
theorem LO.ext (h:dz w w') (k:LO T N w vs L):LO T N w' vs L:=⟨k.len,λi hi=>h.ow (k.get i hi)⟩
instance {w w':World}:Kp w w' (LO T N w vs L) (LO T N w' vs L):=⟨LO.ext⟩
theorem LO.mono {N':Nat} (k:LO T N w vs L) (h:N'≤N):LO T N' w vs L:=⟨k.len,λi hi=>(k.get i hi).mono h⟩
theorem LO.grownAt {b:Nat} {c:Array Value} {T':TypeId} (k:LO T N w vs L) (hm:At w b c T') (hG:w.grownBy w' (some b)) (hT:T'≠T):LO T N w' vs L:=⟨k.len,λi hi=>(k.get i hi).grownAt hm hG hT⟩
theorem LO.grownMap {α β:Type} {enc:α→Value} {encV:β→Value} {b:Nat} {l:List (α×β)} (k:LO T N w vs L) (hm:du enc encV w b l) (hG:w.grownBy w' (some b)):LO T N w' vs L:=⟨k.len,λi hi=>(k.get i hi).grownMap hm hG⟩
theorem LO.grownOw {α:Type} {enc:α→List Value} {sz N':Nat} {T':TypeId} {v:Value} {l:List α} (k:LO T N w vs L) (h:cD enc sz T' w N' v l) (hG:w.grownBy w' v.ownBlock) (hT:T'≠T):LO T N w' vs L:=⟨k.len,λi hi=>(k.get i hi).grownOw h hG hT.symm⟩
theorem LO.one (k:LO T N w vs L):∀v,v∈vs→Value.oneCell' v=true:=λv hv=>by
 obtain⟨j,hj,e⟩:=eZ (d:=undef) hv
 have h:=(k.get j (by rw[←k.len];exact hj)).sl
 rw[e]at h
 obtain⟨h1,_⟩:=Sl.eqv h
 rw[h1];rfl
theorem FM {vs:List Value} (h:∀v,v∈vs→Value.oneCell' v=true) {i j:Nat}:(((vs.drop i).take j).flatMap encV).all Value.oneCell'=true:=by
 rw[aaj]
 intro v hv
 obtain⟨u,hu,he⟩:=abY.1 hv
 obtain rfl:v=u:=by simpa [encV] using he
 exact h _ (List.mem_of_mem_drop (List.mem_of_mem_take hu))
theorem LO.below {W:World} (h:Below w.heap.size w W) (k:LO T N w vs L):LO T N W vs L:=⟨k.len,λi hi=>Below.ow h (k.get i hi)⟩
theorem JN {α:Type} (l:List α) (x d:α) {i:Nat} (j:Nat) (hi:i≤l.length):(l.take i++([x]++l.drop i)).getD j d=if j<i then l.getD j d else if j=i then x else l.getD (j-1) d:=by
 have hl:(l.take i).length=i:=by rw[aal];omega
 simp only[me]
 by_cases h1:j<i
 ·rw[if_pos h1,aaK (by omega),ab0,if_pos h1]
 ·rw[if_neg h1,aaI (by omega),hl]
  by_cases h2:j=i
  ·rw[if_pos h2,h2,Nat.sub_self];rfl
  ·rw[if_neg h2,aaI iq,List.getElem?_drop]
   congr 2
   simp
   omega
theorem LO.put {v:Value} {l:List Int} {i:Nat} (k:LO T N w vs L) (h:cD dJ 1 T w N v l) (hi:i≤L.length):LO T N w (vs.take i++([v]++vs.drop i)) (L.take i++([l]++L.drop i)):=by
 have hl:=k.len
 refine⟨by simp[hl],λj hj=> ?_⟩
 rw[JN _ _ _ _ (by omega),JN _ _ _ _ hi]
 have hj2:j<L.length+1:=by
  rw[An,An,aa5,aal,aaC]at hj
  omega
 by_cases h1:j<i
 ·rw[if_pos h1,if_pos h1];exact k.get j (by omega)
 ·rw[if_neg h1,if_neg h1]
  by_cases h2:j=i
  ·rw[if_pos h2,if_pos h2];exact h
  ·rw[if_neg h2,if_neg h2];exact k.get (j-1) (by omega)
theorem LO.snoc {v:Value} {l:List Int} (k:LO T N w vs L) (h:cD dJ 1 T w N v l):LO T N w (vs++[v]) (L++[l]):=by
 have hp:=k.put (i:=L.length) h (am _)
 rw[←k.len,aan,List.drop_length,aaT,k.len,aan,List.drop_length,aaT]at hp
 exact hp
theorem LL.snoc {v:Value} {l:List Int} (k:LL w vs L) (h:dh dJ 1 w v l):LL w (vs++[v]) (L++[l]):=by
 have hl:=k.len
 refine⟨by simp[hl],λj hj=> ?_⟩
 rw[An,aaC]at hj
 by_cases h1:j<L.length
 ·have e1:(vs++[v]).getD j undef=vs.getD j undef:=by simp only[me];rw[aaK (by omega)]
  have e2:(L++[l]).getD j []=L.getD j []:=by simp only[me];rw[aaK (by omega)]
  rw[e1,e2];exact k.get j h1
 ·obtain rfl:j=L.length:=by omega
  have e1:(vs++[v]).getD L.length undef=v:=by simp only[me];rw[aaI (by omega),hl,Nat.sub_self];rfl
  have e2:(L++[l]).getD L.length []=l:=by simp only[me];rw[aaI (by omega),Nat.sub_self];rfl
  rw[e1,e2];exact h
end
end
section
open Go Go.RowKit
def pB:List Int→List Int→Bool
 |a::aq,b::bs=>if a=b then pB aq bs else decide (a<b)
 |_,_=>false
theorem Jg:∀a:List Int,pB a a=false
 |[]=>rfl
 |a::aq=>by rw[pB,if_pos rfl];exact Jg aq
theorem AQ:∀a b c:List Int,pB a b=true→pB b c=true→pB a c=true
 |[],b,c,h,_=>by cases b<;>simp[pB]at h
 |a::aq,[],c,h,_=>by simp[pB]at h
 |a::aq,b::bs,[],_,h=>by simp[pB]at h
 |a::aq,b::bs,c::cs,h1,h2=>by
  rw[pB]at h1 h2 ⊢
  by_cases e1:a=b
  ·subst e1
   rw[if_pos rfl]at h1
   by_cases e2:a=c
   ·subst e2
    rw[if_pos rfl]at h2 ⊢
    exact AQ aq bs cs h1 h2
   ·rw[if_neg e2]at h2 ⊢;exact h2
  ·rw[if_neg e1,decide_eq_true_eq]at h1
   by_cases e2:b=c
   ·subst e2
    rw[if_neg e1,decide_eq_true_eq];exact h1
   ·rw[if_neg e2,decide_eq_true_eq]at h2
    rw[if_neg (by omega),decide_eq_true_eq];omega
theorem AP:∀a b:List Int,a.length=b.length→a≠b→pB a b=true∨pB b a=true
 |[],[],_,h=>absurd rfl h
 |[],b::bs,h,_=>by simp at h
 |a::aq,[],h,_=>by simp at h
 |a::aq,b::bs,h,hne=>by
  rw[pB,pB]
  by_cases e:a=b
  ·subst e
   rw[if_pos rfl,if_pos rfl]
   exact AP aq bs (by simpa using h) (λe=>hne vu)
  ·rw[if_neg e,if_neg (λh=>e h.symm),decide_eq_true_eq,decide_eq_true_eq];omega
theorem LZ:∀(a b:List Int) (k:Nat),a.length=b.length→k<a.length→(∀q,q<k→a.getD q 0=b.getD q 0)→a.getD k 0≠b.getD k 0→pB a b=decide (a.getD k 0<b.getD k 0)
 |[],_,k,_,h,_,_=>by simp at h
 |a::aq,[],k,h,_,_,_=>by simp at h
 |a::aq,b::bs,0,h,h1,h2,h3=>by
  rw[pB,if_neg (by simpa using h3)];rfl
 |a::aq,b::bs,k+1,h,h1,h2,h3=>by
  have e:a=b:=by simpa using h2 0 (by omega)
  rw[pB,if_pos e,LZ aq bs k (by simpa using h) (by simpa using h1) (λq hq=>by simpa using h2 (q+1) (by omega)) (by simpa using h3)]
  simp
theorem AU:∀(a b:List Int),a.length=b.length→(∀q,q<a.length→a.getD q 0=b.getD q 0)→a=b
 |[],[],_,_=>rfl
 |[],b::bs,h,_=>by simp at h
 |a::aq,[],h,_=>by simp at h
 |a::aq,b::bs,h,h1=>by
  have e:a=b:=by simpa using h1 0 gj
  rw[e,AU aq bs (by simpa using h) (λq hq=>by simpa using h1 (q+1) (by simpa using hq))]
def fM (a b:List Int):Bool:=decide (a.length<b.length)||(decide (a.length=b.length)&&pB a b)
theorem SW {a b:List Int} (h:a.length<b.length):fM a b=true:=by grind [fM,decide_eq_true]
theorem WH {a b:List Int} (h:b.length<a.length):fM a b=false:=by
 grind [fM,decide_eq_false]
theorem H9 {a b:List Int} (h:a.length=b.length):fM a b=pB a b:=by
 grind [fM,decide_eq_false,decide_eq_true]
theorem Xk {a b:List Int} (h:a.length≠b.length):fM a b=decide (a.length<b.length):=by
 unfold fM;rw[decide_eq_false h,aaJ,abS]
theorem OS (a:List Int):fM a a=false:=by rw[H9 rfl,Jg]
theorem yb {a b c:List Int} (h1:fM a b=true) (h2:fM b c=true):fM a c=true:=by
 grind [Nat.lt_trichotomy,SW,WH,H9,AQ]
theorem FK {a b:List Int} (h:a≠b):fM a b=true∨fM b a=true:=by
 grind [Nat.lt_trichotomy,SW,H9,AP]
theorem NP {a b:List Int} (h:fM a b=true):fM b a=false:=aah.2 λk=>by
 have:=yb h k
 rw[OS]at this;cases this
def sE:List (List Int)→List Int→List (List Int)
 |[],r=>[r]
 |x::xs,r=>if fM x r then x::sE xs r else r::x::xs
theorem M3:∀(L:List (List Int)) (r:List Int) (i:Nat),i≤L.length→(∀q,q<i→fM (L.getD q []) r=true)→(i<L.length→fM (L.getD i []) r=false)→L.take i++([r]++L.drop i)=sE L r
 |[],r,i,h,_,_=>by
  obtain rfl:i=0:=by simpa using h
  rfl
 |x::xs,r,0,_,_,h=>by
  have h0:fM x r=false:=by simpa using h gj
  rw[sE,h0];rfl
 |x::xs,r,i+1,hi,h1,h2=>by
  have h0:fM x r=true:=by simpa using h1 0 (by omega)
  rw[sE,if_pos h0,←M3 xs r i (by simpa using hi) (λq hq=>by simpa using h1 (q+1) (by omega)) (λh=>by simpa using h2 (by simpa using h))]
  rfl
theorem MS (L:List (List Int)) (r:List Int):(sE L r).length=L.length+1:=by
 induction L with
 |nil=>rfl
 |cons x xs ih=>
  rw[sE]
  split
  ·rw[aak,ih];rfl
  ·rfl
theorem yL {L:List (List Int)} {r x:List Int}:x∈sE L r↔x∈L∨x=r:=by
 induction L with
 |nil=>simp[sE]
 |cons y ys ih=>
  rw[sE]
  split
  ·rw[aaq,ih,aaq,or_assoc]
  ·simp only[aaq]
   constructor
   ·rintro(h|h|h)
    ·exact .inr h
    ·exact .inl (.inl h)
    ·exact .inl (.inr h)
   ·rintro((h|h)|h)
    ·exact .inr (.inl h)
    ·exact .inr (.inr h)
    ·exact .inl h
def Up (L:List (List Int)):Prop:=L.Pairwise λa b=>fM a b=true
theorem Qv {L:List (List Int)} {r:List Int} (h:Up L) (hr:r∉L):Up (sE L r):=by
 induction L with
 |nil=>exact List.pairwise_singleton _ _
 |cons y ys ih=>
  obtain⟨h1,h2⟩:=aaW.1 h
  rw[sE]
  split
  ·rename_i hy
   refine aaW.2 ⟨λz hz=> ?_,ih h2 (λk=>hr (aai _ k))⟩
   rcases yL.1 hz with hz|rfl
   ·exact h1 z hz
   ·exact hy
  ·rename_i hy
   have hry:fM r y=true:=by
    rcases FK (a:=r) (b:=y) (λe=>hr (e▸aab ..))with k|k
    ·exact k
    ·exact absurd k hy
   refine aaW.2 ⟨λz hz=> ?_,h⟩
   rcases aaq.1 hz with rfl|hz
   ·exact hry
   ·exact yb hry (h1 z hz)
def iA (ks:List (List Int)):List (List Int):=ks.foldl sE []
theorem KZ (ks:List (List Int)) (r:List Int):iA (ja ks r)=if r∈ks then iA ks else sE (iA ks) r:=by
 grind [ja,iA]
theorem Eh {x:List Int}:∀(ks b:List (List Int)),x∈ks.foldl sE b↔x∈b∨x∈ks
 |[],b=>by simp
 |k::ks,b=>by
  rw[abO,Eh ks,yL,aaq,or_assoc]
theorem nk {ks:List (List Int)} {x:List Int}:x∈iA ks↔x∈ks:=by
 grind [iA,Eh]
theorem Fe:∀(ks b:List (List Int)),(ks.foldl sE b).length=b.length+ks.length
 |[],b=>rfl
 |k::ks,b=>by rw[abO,Fe ks,MS,aak];omega
theorem BP (ks:List (List Int)):(iA ks).length=ks.length:=by grind [iA,Fe]
theorem Jb:∀(ks b:List (List Int)),Up b→ks.Nodup→(∀x,x∈ks→x∉b)→Up (ks.foldl sE b)
 |[],b,h,_,_=>h
 |k::ks,b,h,hn,hd=>by
  obtain⟨n1,n2⟩:=List.nodup_cons.1 hn
  refine Jb ks _ (Qv h (hd k (aab ..))) n2 λx hx hm=> ?_
  rcases yL.1 hm with hm|rfl
  ·exact hd x (aai _ hx) hm
  ·exact n1 hx
theorem Nf {ks:List (List Int)} (h:ks.Nodup):Up (iA ks):=Jb ks [] List.Pairwise.nil h (λx _ h=>by cases h)
theorem UE {L:List (List Int)} (h:Up L) {i j:Nat} (hij:i<j) (hj:j<L.length):fM (L.getD i []) (L.getD j [])=true:=by
 have:=aa2.1 h i j (by omega) hj hij
 grind
theorem MM {ks:List (List Int)} {r:List Int} {i:Nat} (hn:ks.Nodup) (hr:r∉ks) (hi:i≤(iA ks).length) (h1:∀q,i≤q→q<(iA ks).length→fM r ((iA ks).getD q [])=true) (h2:0<i→fM r ((iA ks).getD (i-1) [])=false):
  (iA ks).take i++([r]++(iA ks).drop i)=iA (ja ks r):=by
 rw[KZ,if_neg hr]
 refine M3 _ _ _ hi (λq hq=> ?_) (λh=>NP (h1 i (am _) h))
 grind [iA,nk,dy,fM,FK,yb,UE,Nf]
theorem Md {S:List (List Int)} {m:Nat} (h:m<S.length):S.take m++[S.getD m []]=S.take (m+1):=by
 simp_all
def Lt (l:List Rw) (c o p:Nat):Bool:=(l.getD c ⟨⟨0,0⟩,0⟩).o.testBit o&&mE (l.getD c ⟨⟨0,0⟩,0⟩).c.m (l.getD c ⟨⟨0,0⟩,0⟩).c.v p
def jN (l:List Rw) (o p k:Nat):List Int:=((List.range k).filter λc=>Lt l c o p).map λc:Nat=>(c:Int)
def sA (l:List Rw) (o p:Nat):List Int:=jN l o p l.length
theorem y9 (l:List Rw) (o p k:Nat):jN l o p (k+1)=if Lt l k o p then jN l o p k++[(k:Int)]else jN l o p k:=by
 grind [jN,List.range_succ,Lt]
theorem Ry {l:List Rw} {o p k:Nat} (h:Lt l k o p=true):jN l o p k++[(k:Int)]=jN l o p (k+1):=by rw[y9,if_pos h]
theorem Jq {l:List Rw} {o p k:Nat} (h:Lt l k o p=false):jN l o p k=jN l o p (k+1):=by rw[y9,if_neg (by rw[h];decide)]
theorem oW {l:List Rw} {o p k:Nat} {x:Int}:x∈jN l o p k↔∃c:Nat,x=c∧c<k∧Lt l c o p=true:=by
 grind [jN]
theorem vN (l:List Rw) (o p k:Nat):(jN l o p k).length≤k:=by
 grind [jN,List.length_map,Nat.le_trans,List.length_filter_le]
theorem M8 (l:List Rw) (o p k:Nat):(jN l o p k).Pairwise λa b=>a<b:=by
 grind [jN,List.pairwise_lt_range]
theorem EI {n:Int} {L:List Int} (h:L.Pairwise λa b=>a<b) (hb:∀x,x∈L→0≤x∧x<n):oU n L=true:=by grind [jv,dy,List.pairwise_iff_getElem,List.getElem?_eq_getElem]
theorem Ql (l:List Rw) (o p:Nat):oU (l.length:Int) (sA l o p)=true:=EI (M8 l o p _) λx hx=>by
 obtain⟨c,rfl,h1,_⟩:=oW.1 hx
 omega
def u7 (l:List Rw) (o:Nat) (pts:List Int) (base:List (List Int)):Nat→List (List Int)
 |0=>base
 |k+1=>ja (u7 l o pts base k) (sA l o (pts.getD k 0).toNat)
def kS (S:Sp) (l:List Rw):Nat→List (List Int)
 |0=>[]
 |o+1=>u7 l o (d7 (S.on.getD o 0)) (kS S l o) (d7 (S.on.getD o 0)).length
def YK (S:Sp) (l:List Rw):List (List Int):=kS S l S.on.length
def mI (S:Sp) (l:List Rw):List (List Int):=iA (YK S l)
theorem x9 {l:List Rw} {o:Nat} {pts:List Int} {base:List (List Int)} {x:List Int}:∀k,x∈u7 l o pts base k↔x∈base∨∃q,q<k∧x=sA l o (pts.getD q 0).toNat
 |0=>by simp[u7]
 |k+1=>by
  rw[u7,gt,x9 k]
  constructor
  ·rintro((h|⟨q,h1,h2⟩)|h)
   ·exact .inl h
   ·exact .inr ⟨q,by omega,h2⟩
   ·exact .inr ⟨k,by omega,h⟩
  ·rintro(h|⟨q,h1,h2⟩)
   ·exact .inl (.inl h)
   ·by_cases e:q=k
    ·subst e;exact .inr h2
    ·exact .inl (.inr ⟨q,by omega,h2⟩)
theorem o6 {S:Sp} {l:List Rw} {x:List Int}:∀o,x∈kS S l o↔∃q,q<o∧∃j,j<(d7 (S.on.getD q 0)).length∧x=sA l q ((d7 (S.on.getD q 0)).getD j 0).toNat
 |0=>by simp[kS]
 |o+1=>by
  rw[kS,x9,o6 o]
  constructor
  ·rintro(⟨q,h1,h2⟩|⟨j,h1,h2⟩)
   ·exact⟨q,by omega,h2⟩
   ·exact⟨o,by omega,j,h1,h2⟩
  ·rintro⟨q,h1,h2⟩
   by_cases e:q=o
   ·subst e;exact .inr h2
   ·exact .inl ⟨q,by omega,h2⟩
theorem tn {l:List Rw} {o:Nat} {pts:List Int} {base:List (List Int)} (h:base.Nodup):∀k,(u7 l o pts base k).Nodup
 |0=>h
 |k+1=>jO (tn h k) _
theorem wq (S:Sp) (l:List Rw):∀o,(kS S l o).Nodup
 |0=>List.nodup_nil
 |o+1=>tn (wq S l o) _
theorem yy {l:List Rw} {o:Nat} {pts:List Int} {base:List (List Int)}:∀k,(u7 l o pts base k).length≤base.length+k
 |0=>am _
 |k+1=>by
  have:=rt (u7 l o pts base k) (sA l o (pts.getD k 0).toNat)
  have:=yy (l:=l) (o:=o) (pts:=pts) (base:=base) k
  rw[u7];omega
theorem vL (S:Sp) (l:List Rw):∀o,(kS S l o).length≤256*o
 |0=>am _
 |o+1=>by
  have h1:=yy (l:=l) (o:=o) (pts:=d7 (S.on.getD o 0)) (base:=kS S l o) (d7 (S.on.getD o 0)).length
  have h2:=vL S l o
  have h3:=lZ (S.on.getD o 0)
  rw[kS];omega
def qb (l:List Rw) (x:List Int):Prop:=∃o p,x=sA l o p
theorem E7 {S:Sp} {l:List Rw} {o:Nat} {x:List Int} (h:x∈kS S l o):qb l x:=by
 obtain⟨q,_,j,_,e⟩:=(o6 o).1 h
 exact⟨_,_,e⟩
theorem kE {S:Sp} {l:List Rw} (h:l.length≤4000):dN (l.length:Int) (mI S l)=true:=fm.2 ⟨by omega,by omega,λi hi=>by
 obtain⟨o,p,e⟩:=E7 (nk.1 (dy (d:=[]) hi))
 rw[show (mI S l).getD i []=sA l o p from e]
 exact Ql l o p⟩
def rc (row:List Int):List Int:=row.flatMap λc=>[c/256%256,c%256]
def kQ (row:List Int):List UInt8:=nK (rc row)
theorem HR (row:List Int) (k:Nat) (hk:k<row.length):rc (row.take k)++[row.getD k 0/256%256,row.getD k 0%256]=rc (row.take (k+1)):=by
 grind [rc,List.take_add_one,List.getElem?_eq_getElem]
theorem J6 (row:List Int):(rc row).length=2*row.length:=by
 unfold rc
 induction row with
 |nil=>rfl
 |cons a l ih=>rw[aaE,An,ih];simp;omega
theorem Fb {x y:Int} (hx:0≤x∧x<256) (hy:0≤y∧y<256) (h:UInt8.ofNat x.toNat=UInt8.ofNat y.toNat):x=y:=by
 grind [UInt8.toNat,UInt8.toNat_ofNat',Nat.mod_eq_of_lt]
theorem BB:∀(a b:List Int),(∀x,x∈a→0≤x∧x<65536)→(∀x,x∈b→0≤x∧x<65536)→kQ a=kQ b→a=b
 |[],[],_,_,_=>rfl
 |[],b::bs,_,_,h=>by simp[kQ,rc,nK]at h
 |a::aq,[],_,_,h=>by simp[kQ,rc,nK]at h
 |a::aq,b::bs,ha,hb,h=>by
  have h0:=ha a (aab ..)
  have h1:=hb b (aab ..)
  have hh:UInt8.ofNat (a/256%256).toNat=UInt8.ofNat (b/256%256).toNat∧UInt8.ofNat (a%256).toNat=UInt8.ofNat (b%256).toNat∧kQ aq=kQ bs:=by
   simpa [kQ,rc,nK,aaE] using h
  have e1:=Fb ⟨by omega,by omega⟩ ⟨by omega,by omega⟩ hh.1
  have e2:=Fb ⟨by omega,by omega⟩ ⟨by omega,by omega⟩ hh.2.1
  rw[BB aq bs (λx hx=>ha x (aai _ hx)) (λx hx=>hb x (aai _ hx)) hh.2.2,show a=b by omega]
theorem qb.small {l:List Rw} {x:List Int} (h:qb l x) (hl:l.length≤4000):∀c,c∈x→0≤c∧c<65536:=λc hc=>by
 obtain⟨o,p,rfl⟩:=h
 obtain⟨c,rfl,h1,_⟩:=oW.1 hc
 omega
theorem ui {l:List Rw} {ks:List (List Int)} {r:List Int} (hl:l.length≤4000) (hk:∀x,x∈ks→qb l x) (hr:qb l r):kQ r∈ks.map kQ↔r∈ks:=by
 rw[aag]
 constructor
 ·rintro⟨x,hx,e⟩
  rw[←BB x r ((hk x hx).small hl) (hr.small hl) e];exact hx
 all_goals grind
theorem NB {l:List Rw} {ks:List (List Int)} {r:List Int} (hl:l.length≤4000) (hk:∀x,x∈ks→qb l x) (hr:qb l r):ja (ks.map kQ) (kQ r)=(ja ks r).map kQ:=by
 unfold ja
 by_cases h:r∈ks
 ·rw[if_pos h,if_pos ((ui hl hk hr).2 h)]
 ·rw[if_neg h,if_neg (λk=>h ((ui hl hk hr).1 k)),abh];rfl
end
section
open Go Go.RowKit
def Ch (S:Sp) (l:List Rw):Int:=if dq S=true∧∀k,k<l.length→dC (l.getD k ⟨⟨0,0⟩,0⟩).c.m (l.getD k ⟨⟨0,0⟩,0⟩).c.v S.n=true then (if 4000<l.length then 3 else 0)else 1
theorem Xg {a b:List Int} (h:¬(a.length:Int)=(b.length:Int)):Value.bool (decide ((a.length:Int)<(b.length:Int)))= .bool (fM a b):=by grind [Xk,decide_eq_true,decide_eq_false]
theorem WM {a b:List Int} {k:Nat} (hl:a.length=b.length) (hk:k<a.length) (h:∀q,q<k→a.getD q 0=b.getD q 0) (hn:¬a.getD k 0=b.getD k 0):Value.bool (decide (a.getD k 0<b.getD k 0))= .bool (fM a b):=by grind [H9,LZ]
theorem X0 {a b:List Int} {k:Nat} (hl:a.length=b.length) (hk:k=a.length) (h:∀q,q<k→a.getD q 0=b.getD q 0):Value.bool false= .bool (fM a b):=by grind [AU,OS]
def vz (l:List Rw) (n:Int) (k:Nat):List Nat:=(l.take k).map λx=>oH x.c.m x.c.v n.toNat
theorem FF {l:List Rw} {n:Int} {k:Nat} (h:k≤l.length):(vz l n k).length=k:=by
 grind [vz,List.length_map,List.length_take]
theorem K3 {l:List Rw} {n:Int} {k:Nat} (h:k<l.length):vz l n k++[oH (l.getD k ⟨⟨0,0⟩,0⟩).c.m (l.getD k ⟨⟨0,0⟩,0⟩).c.v n.toNat]=vz l n (k+1):=by
 grind [vz,List.take_add_one,List.getElem?_eq_getElem]
theorem NW {l:List Rw} {n:Int} {k:Nat} (h:k<l.length):(vz l n l.length).getD k 0=oH (l.getD k ⟨⟨0,0⟩,0⟩).c.m (l.getD k ⟨⟨0,0⟩,0⟩).c.v n.toNat:=by
 grind [vz,List.take_length,List.getElem?_eq_getElem]
theorem IM {l:List Rw} {n p:Int} {k o:Nat} (h:k<l.length) (hr:dC (l.getD k ⟨⟨0,0⟩,0⟩).c.m (l.getD k ⟨⟨0,0⟩,0⟩).c.v n=true) (hp:0≤p∧p.toNat<2^n.toNat) (hb:(l.getD k ⟨⟨0,0⟩,0⟩).o.testBit o=true):vM ((vz l n l.length).getD k 0) p=Lt l k o p.toNat:=by
 obtain⟨h0,h8,hm,hv⟩:=dw.1 hr
 have h256:=fq h8
 rw[NW h]
 unfold Lt mE
 rw[hb,aax]
 obtain⟨q,rfl⟩:=aau hp.1
 rw[so]at hp ⊢
 have hq:q<256:=by omega
 rw[y6 hq,iM (by omega),decide_eq_true hp.2,aax,hv]
theorem Ui {l:List Rw} {p:Nat} {k o:Nat} (hb:¬(l.getD k ⟨⟨0,0⟩,0⟩).o.testBit o=true):Lt l k o p=false:=by
 unfold Lt
 grind
theorem Yf {l:List Rw} {n p:Int} {k o:Nat} (h:k<l.length) (hr:dC (l.getD k ⟨⟨0,0⟩,0⟩).c.m (l.getD k ⟨⟨0,0⟩,0⟩).c.v n=true) (hp:0≤p∧p.toNat<2^n.toNat) (hs:(((l.getD k ⟨⟨0,0⟩,0⟩).o/2^o &&& 1:Nat):Int)=1) (hb:vM ((vz l n l.length).getD k 0) p=true):jN l o p.toNat k++[(k:Int)]=jN l o p.toNat (k+1):=by grind [Ry,IM,oA]
theorem V3 {l:List Rw} {n p:Int} {k o:Nat} (h:k<l.length) (hr:dC (l.getD k ⟨⟨0,0⟩,0⟩).c.m (l.getD k ⟨⟨0,0⟩,0⟩).c.v n=true) (hp:0≤p∧p.toNat<2^n.toNat) (hs:(((l.getD k ⟨⟨0,0⟩,0⟩).o/2^o &&& 1:Nat):Int)=1) (hb:vM ((vz l n l.length).getD k 0) p=false):jN l o p.toNat k=jN l o p.toNat (k+1):=by grind [Jq,IM,oA]
theorem VK {l:List Rw} {p:Nat} {k o:Nat} (hs:¬(((l.getD k ⟨⟨0,0⟩,0⟩).o/2^o &&& 1:Nat):Int)=1):jN l o p k=jN l o p (k+1):=by grind [Jq,Ui,oA]
theorem RI {l:List Rw} {x:List Int} (h:qb l x):x.length≤l.length:=by
 obtain⟨o,p,rfl⟩:=h
 exact vN _ _ _ _
theorem Pk {l:List Rw} {ks:List (List Int)} (h:∀x,x∈ks→qb l x) (j:Nat):((iA ks).getD j []).length≤l.length:=by
 by_cases hj:j<(iA ks).length
 ·exact RI (h _ (nk.1 (dy hj)))
 all_goals grind
theorem J5 {ks:List (List Int)} {r:List Int} (h:r∈ks):ja ks r=ks:=if_pos h
theorem P2 {S:Sp} {l:List Rw} {o k:Nat} {pts:List Int} {x:List Int} (h:x∈u7 l o pts (kS S l o) k):qb l x:=by
 rcases(x9 k).1 h with h|⟨q,_,e⟩
 ·exact E7 h
 ·exact⟨_,_,e⟩
theorem Fw {α:Type} (L:List α) (i:Nat):(L.drop i).take (L.length-i)=L.drop i:=by grind [List.take_of_length_le]
theorem TY {S:Sp} {o p:Nat} (hr:dq S=true) (ho:o<S.on.length) (hb:(S.on.getD o 0).testBit p=true) (hp:p<256):p<2^S.n.toNat:=by
 obtain⟨w1,w2⟩:=(dD.1 hr).2.2.2.2.2 o ho
 have:=d4.1 w2 p hp (d4.1 w1 p hp hb)
 grind [fw]
theorem Pq {S:Sp} {l:List Rw} {o k:Nat} (ho:o<4) (hk:k≤(d7 (S.on.getD o 0)).length):(u7 l o (d7 (S.on.getD o 0)) (kS S l o) k).length≤2000:=by
 grind [yy,d7,kS,vL,lZ]
theorem XZ {S:Sp} {l:List Rw} (h:¬dq S=true):Ch S l=1:=if_neg λk=>h k.1
theorem Xp {S:Sp} {l:List Rw} {k:Nat} (hk:k<l.length) (h:¬dC (l.getD k ⟨⟨0,0⟩,0⟩).c.m (l.getD k ⟨⟨0,0⟩,0⟩).c.v S.n=true):Ch S l=1:=if_neg λq=>h (q.2 k hk)
theorem Xt {S:Sp} {l:List Rw} (h:dq S=true) (h2:∀k,k<l.length→dC (l.getD k ⟨⟨0,0⟩,0⟩).c.m (l.getD k ⟨⟨0,0⟩,0⟩).c.v S.n=true) (h3:4000<l.length):Ch S l=3:=by
 unfold Ch;rw[if_pos ⟨h,h2⟩,if_pos h3]
theorem Tm {S:Sp} {l:List Rw} (h:dq S=true) (h2:∀k,k<l.length→dC (l.getD k ⟨⟨0,0⟩,0⟩).c.m (l.getD k ⟨⟨0,0⟩,0⟩).c.v S.n=true) (h3:¬4000<l.length):Ch S l=0:=by
 unfold Ch;rw[if_pos ⟨h,h2⟩,if_neg h3]
def Pv (l:List Rw) (bs:List Bool):Nat→List Rw
 |0=>[]
 |k+1=>if bs.getD k false=true then Pv l bs k++[l.getD k ⟨⟨0,0⟩,0⟩]else Pv l bs k
def QI (bs:List Bool):Nat→List Int
 |0=>[]
 |k+1=>if bs.getD k false=true then QI bs k++[(k:Int)]else QI bs k
theorem uD {l:List Rw} {bs:List Bool} {x:Rw}:∀k,x∈Pv l bs k↔∃c,c<k∧bs.getD c false=true∧x=l.getD c ⟨⟨0,0⟩,0⟩
 |0=>by simp[Pv]
 |k+1=>by
  rw[Pv]
  by_cases h:bs.getD k false=true
  ·rw[if_pos h,Z6,uD k,Z8]
   constructor
   ·rintro(⟨c,h1,h2⟩|rfl)
    ·exact⟨c,by omega,h2⟩
    ·exact⟨k,by omega,h,rfl⟩
   ·rintro⟨c,h1,h2,h3⟩
    by_cases e:c=k
    ·subst e;exact .inr h3
    ·exact .inl ⟨c,by omega,h2,h3⟩
  ·rw[if_neg h,uD k]
   constructor
   ·rintro⟨c,h1,h2⟩;exact⟨c,by omega,h2⟩
   ·rintro⟨c,h1,h2,h3⟩
    have e:c≠k:=λe=>h (e▸h2)
    exact⟨c,by omega,h2,h3⟩
theorem xJ {bs:List Bool} {x:Int}:∀k,x∈QI bs k↔∃c:Nat,c<k∧bs.getD c false=true∧x=(c:Int)
 |0=>by simp[QI]
 |k+1=>by
  rw[QI]
  by_cases h:bs.getD k false=true
  ·rw[if_pos h,Z6,xJ k,Z8]
   constructor
   ·rintro(⟨c,h1,h2⟩|rfl)
    ·exact⟨c,by omega,h2⟩
    ·exact⟨k,by omega,h,rfl⟩
   ·rintro⟨c,h1,h2,h3⟩
    by_cases e:c=k
    ·subst e;exact .inr h3
    ·exact .inl ⟨c,by omega,h2,h3⟩
  ·rw[if_neg h,xJ k]
   constructor
   ·rintro⟨c,h1,h2⟩;exact⟨c,by omega,h2⟩
   ·rintro⟨c,h1,h2,h3⟩
    have e:c≠k:=λe=>h (e▸h2)
    exact⟨c,by omega,h2,h3⟩
theorem zD {L:List (List Int)} {cols:List Int}:pW L cols=true↔∀r,r∈L→∃c,c∈r∧c∈cols:=by
 rw[Eu]
 constructor
 ·intro h r hr
  obtain⟨k,hk,rfl⟩:=eZ (d:=[]) hr
  exact h k hk
 all_goals simp_all
theorem Hj {l:List Rw} {bs:List Bool} {k p o:Nat}:DA (Pv l bs k) p o=true↔∃c,c<k∧bs.getD c false=true∧Lt l c o p=true:=by
 unfold DA
 rw[aaO]
 constructor
 ·rintro⟨x,hx,h⟩
  obtain⟨c,h1,h2,rfl⟩:=(uD k).1 hx
  exact⟨c,h1,h2,h⟩
 ·rintro⟨c,h1,h2,h3⟩
  exact⟨_,(uD k).2 ⟨c,h1,h2,rfl⟩,h3⟩
theorem TD {S:Sp} {l:List Rw} {bs:List Bool} {k:Nat} (hr:dq S=true) (hw:∀q,q<l.length→qw S (l.getD q ⟨⟨0,0⟩,0⟩)=true) (hl:l.length≤4000) (hk:k≤l.length):
  (dN (l.length:Int) (mI S l)&&pW (mI S l) (QI bs k))=io S (Pv l bs k):=by
 rw[kE hl,aax]
 obtain⟨h0,h8,h1,h4,h5,hin⟩:=dD.1 hr
 have hp:=fq h8
 have hm:mQ S (Pv l bs k)=true:=by
  unfold mQ
  rw[aaj]
  intro x hx
  obtain⟨c,h1,_,rfl⟩:=(uD k).1 hx
  have hi:=hw c (by omega)
  exact ig.2 ⟨gD hi,(ie.1 hi).2.1,by rw[h5];exact(rf hi).1⟩
 have hon:∀o,o<S.on.length→∀p,(Bh S o).testBit p=true→p<256→p<2^S.n.toNat:=λo ho p hb hp2=>by
  obtain⟨w1,w2⟩:=hin o ho
  have:=d4.1 w2 p hp2 (d4.1 w1 p hp2 hb)
  rw[fw]at this
  simpa using this
 rw[aaA,zD,fN]
 constructor
 ·intro h
  refine⟨hr,hm,λo ho=>(jR hr hm ho).2 λp hpn=>⟨λhb=> ?_,λhc=> ?_⟩⟩
  ·have hmem:sA l o p∈mI S l:=nk.2 ((o6 _).2 (by
    obtain⟨j,hj,hjp⟩:=eZ (d:=(0:Int)) (jw.2 ⟨p,by omega,hb,rfl⟩:(p:Int)∈d7 (Bh S o))
    refine⟨o,ho,j,hj,?_⟩
    unfold Bh at hjp
    rw[hjp,so]))
   obtain⟨c,hc1,hc2⟩:=h _ hmem
   obtain⟨c,rfl,g1,g2⟩:=oW.1 hc1
   obtain⟨c',g3,g4,g5⟩:=(xJ k).1 hc2
   obtain rfl:c=c':=by omega
   exact Hj.2 ⟨c,g3,g4,g2⟩
  ·obtain⟨c,g1,g2,g3⟩:=Hj.1 hc
   have hi:=hw c (by omega)
   unfold Lt at g3
   rw[we]at g3
   obtain⟨k1,k2⟩:=(ie.1 hi).2.2 o g3.1
   have hv:=(dw.1 (gD hi)).2.2.2
   refine(gm.1 k2).2 p hpn ?_
   have:=of_decide_eq_true g3.2
   rw[hv]at this
   exact this
 ·rintro⟨_,_,h⟩ r hr2
  obtain⟨o,ho,j,hj,rfl⟩:=(o6 _).1 (nk.1 hr2)
  obtain⟨p,hp2,hb,e⟩:=lV hj
  rw[e,so]
  have hpn:=hon o ho p hb hp2
  obtain⟨c,g1,g2,g3⟩:=Hj.1 (((jR hr hm ho).1 (h o ho) p hpn).1 hb)
  exact⟨(c:Int),oW.2 ⟨c,rfl,by omega,g3⟩,(xJ k).2 ⟨c,g1,g2,rfl⟩⟩
def Vf (n:Nat):List Int:=(List.range n).map λk:Nat=>(k:Int)
theorem Rq {k:Nat} {x:Int}:x∈Vf k↔0≤x∧x<k:=by
 unfold Vf
 rw[aag]
 constructor
 ·rintro⟨c,h,rfl⟩
  have:=aam.1 h
  omega
 ·intro h
  exact⟨x.toNat,aam.2 (by omega),by omega⟩
def jz (L:List (List Int)) (k:Nat):Bool:=(List.range k).all λi=>decide (0<(L.getD i []).length)
theorem Nx {L:List (List Int)} {k:Nat}:jz L k=true↔∀i,i<k→0<(L.getD i []).length:=by
 grind [jz,List.all_eq_true]
end
section
open Go Go.RowKit
abbrev ML:=List (List Int)
def nM (L:ML) (X:List Int):Prop:=∀r,r∈L→∃c,c∈r∧c∈X
def rJ (L:ML) (c:Int):Prop:=∃r,r∈L∧c∈r
def sQ (L:ML) (c:Int):ML:=L.filter λr=> !decide (c∈r)
def Br (r:List Int) (c:Int):List Int:=r.filter λx=> !decide (x=c)
def pM (L:ML) (c:Int):ML:=L.map λr=>Br r c
theorem oC {L:ML} {c:Int} {r:List Int}:r∈sQ L c↔r∈L∧c∉r:=by
 grind [sQ]
theorem oo {L:ML} {c:Int} {r:List Int}:r∈pM L c↔∃q,q∈L∧r=Br q c:=by
 grind [pM]
theorem m9 {q:List Int} {c x:Int}:x∈Br q c↔x∈q∧x≠c:=by
 grind [Br]
theorem JF (X:List Int):nM [] X:=λr h=>by cases h
theorem Gv {L:ML} {c:Int} {X:List Int} (h:nM (sQ L c) X):nM L (c::X):=λr hr=>by
 by_cases hc:c∈r
 ·exact⟨c,hc,aab ..⟩
 ·obtain⟨d,h1,h2⟩:=h r (oC.2 ⟨hr,hc⟩)
  exact⟨d,h1,aai _ h2⟩
theorem E1 {L:ML} {c:Int} {X:List Int} (hn:X.Nodup) (h:nM L X):nM (sQ L c) (X.erase c):=λr hr=>by
 obtain⟨h1,h2⟩:=oC.1 hr
 obtain⟨d,h3,h4⟩:=h r h1
 exact⟨d,h3,(List.Nodup.mem_erase_iff hn).2 ⟨λe=>h2 (e▸h3),h4⟩⟩
theorem M1 {L:ML} {c:Int} {X:List Int} (h:nM L X) (hc:c∉X):nM (pM L c) X:=λr hr=>by
 obtain⟨q,hq,rfl⟩:=oo.1 hr
 obtain⟨d,h3,h4⟩:=h q hq
 exact⟨d,m9.2 ⟨h3,λe=>hc (e▸h4)⟩,h4⟩
theorem NR {L:ML} {c:Int} {X:List Int} (h:nM (pM L c) X):nM L X:=λr hr=>by
 obtain⟨d,h3,h4⟩:=h _ (oo.2 ⟨r,hr,rfl⟩)
 exact⟨d,(m9.1 h3).1,h4⟩
theorem yY {L:ML} {X Y:List Int} (h:nM L X) (k:∀c,c∈X→c∈Y):nM L Y:=λr hr=>(h r hr).imp λc q=>⟨q.1,k c q.2⟩
theorem IQ {L:ML} {X:List Int}:pW L X=true↔nM L X:=zD
structure mR (L0 L:ML) (ks:List Int):Prop where
 nd:ks.Nodup
 dis:∀c,c∈ks→¬rJ L c
 sub:∀c,rJ L c→rJ L0 c
 ksub:∀c,c∈ks→rJ L0 c
 up:∀X,nM L X→nM L0 (ks++X)
 dn:∀Y,Y.Nodup→nM L0 Y→∃X,X.Nodup∧nM L X∧ks.length+X.length≤Y.length
section
variable {L0 L L':ML} {ks ks':List Int} {r:List Int} {c d:Int}
theorem acH (L:ML):mR L L []:=⟨List.nodup_nil,λc h=>(by cases h),λc h=>h,λc h=>(by cases h),λX h=>h,λY h1 h2=>⟨Y,h1,h2,by simp⟩⟩
theorem mR.take (h:mR L0 L ks) (hr:r∈L) (e:r=[c]):mR L0 (sQ L c) (ja ks c):=by
 have hin:rJ L c:=⟨r,hr,by rw[e];exact Z8.2 rfl⟩
 have hc:c∉ks:=λq=>h.dis c q hin
 have ei:ja ks c=ks++[c]:=if_neg hc
 refine⟨jO h.nd c,?_,?_,?_,?_,?_⟩
 ·rintro d hd ⟨q,hq,hdq⟩
  obtain⟨hq1,hq2⟩:=oC.1 hq
  rcases gt.1 hd with k|k
  ·exact h.dis d k ⟨q,hq1,hdq⟩
  ·rw[k]at hdq;exact hq2 hdq
 ·rintro d ⟨q,hq,hdq⟩
  exact h.sub d ⟨q,(oC.1 hq).1,hdq⟩
 ·intro d hd
  rcases gt.1 hd with k|k
  ·exact h.ksub d k
  ·rw[k];exact h.sub c hin
 ·intro X hX
  have:=h.up (c::X) (Gv hX)
  rw[ei,aav]
  exact this
 ·intro Y hn hY
  obtain⟨X,h1,h2,h3⟩:=h.dn Y hn hY
  have hcX:c∈X:=by
   obtain⟨d,hd,hd2⟩:=h2 r hr
   rw[e]at hd
   rwa [Z8.1 hd]at hd2
  refine⟨X.erase c,h1.erase c,E1 h1 h2,?_⟩
  grind
theorem mR.rows (h:mR L0 L ks) (hs:∀r,r∈L'→r∈L) (hu:∀X,nM L' X→nM L X):mR L0 L' ks:=
 ⟨h.nd,λc hc ⟨r,hr,q⟩=>h.dis c hc ⟨r,hs r hr,q⟩,λc ⟨r,hr,q⟩=>h.sub c ⟨r,hs r hr,q⟩,h.ksub,λX hX=>h.up X (hu X hX),λY hn hY=>(h.dn Y hn hY).imp λX ⟨h1,h2,h3⟩=>⟨h1,λr hr=>h2 r (hs r hr),h3⟩⟩
theorem mR.cols (h:mR L0 L ks) (hne:¬d=c) (hd:∀r,r∈L→c∈r→d∈r):mR L0 (pM L c) ks:=by
 refine⟨h.nd,?_,?_,h.ksub,λX hX=>h.up X (NR hX),?_⟩
 ·rintro x hx ⟨r,hr,q⟩
  obtain⟨r0,h0,rfl⟩:=oo.1 hr
  exact h.dis x hx ⟨r0,h0,(m9.1 q).1⟩
 ·rintro x ⟨r,hr,q⟩
  obtain⟨r0,h0,rfl⟩:=oo.1 hr
  exact h.sub x ⟨r0,h0,(m9.1 q).1⟩
 ·intro Y hn hY
  obtain⟨X,h1,h2,h3⟩:=h.dn Y hn hY
  by_cases hc:c∈X
  ·refine⟨ja (X.erase c) d,jO (h1.erase c) d,?_,?_⟩
   ·intro r hr
    obtain⟨r0,h0,rfl⟩:=oo.1 hr
    obtain⟨x,hx1,hx2⟩:=h2 r0 h0
    by_cases e:x=c
    ·subst e
     exact⟨d,m9.2 ⟨hd r0 h0 hx1,hne⟩,gt.2 (.inr rfl)⟩
    ·exact⟨x,m9.2 ⟨hx1,e⟩,gt.2 (.inl ((List.Nodup.mem_erase_iff h1).2 ⟨e,hx2⟩))⟩
   ·have h4:=rt (X.erase c) d
    rw[abr hc]at h4
    have:=aaG hc
    omega
  all_goals grind [M1]
theorem mR.perm (h:mR L0 L ks) (hn:ks'.Nodup) (hm:∀c,c∈ks'↔c∈ks) (hl:ks'.length=ks.length):mR L0 L ks':=
 ⟨hn,λc hc=>h.dis c ((hm c).1 hc),h.sub,λc hc=>h.ksub c ((hm c).1 hc),λX hX=>yY (h.up X hX) λc hc=>by
  rcases Z6.1 hc with k|k
  ·exact Z6.2 (.inl ((hm c).2 k))
  ·exact Z6.2 (.inr k),λY h1 h2=>by rw[hl];exact h.dn Y h1 h2⟩
end
def sJ:ML→Nat
 |[]=>0
 |r::L=>r.length+1+sJ L
theorem GQ (c:Int):∀L:ML,sJ (sQ L c)≤sJ L
 |[]=>am _
 |r::L=>by
  have h0:=GQ c L
  unfold sQ at*
  rw[abD]
  split
  ·simp only[sJ];omega
  ·simp only[sJ];omega
theorem BH {c:Int}:∀{L:ML},rJ L c→sJ (sQ L c)<sJ L
 |[],⟨r,h,_⟩=>by cases h
 |r::L,⟨q,hq,hc⟩=>by
  have h0:=GQ c L
  by_cases hr:c∈r
  ·unfold sQ at*
   rw[abD,if_neg (by simp[hr])]
   simp only[sJ];omega
  ·have hq2:q∈L:=by
    rcases aaq.1 hq with e|e
    ·rw[e]at hc;exact absurd hc hr
    ·exact e
   have h1:=BH (L:=L) ⟨q,hq2,hc⟩
   unfold sQ at*
   rw[abD,if_pos (by simp[hr])]
   simp only[sJ];omega
theorem CV (r:List Int) (c:Int):(Br r c).length≤r.length:=abJ _ _
theorem HC (c:Int):∀L:ML,sJ (pM L c)≤sJ L
 |[]=>am _
 |r::L=>by
  have h0:=HC c L
  have h1:=CV r c
  unfold pM at*
  rw[abc]
  simp only[sJ];omega
theorem BJ {c:Int}:∀{L:ML},rJ L c→sJ (pM L c)<sJ L
 |[],⟨r,h,_⟩=>by cases h
 |r::L,⟨q,hq,hc⟩=>by
  have h0:=HC c L
  have h1:=CV r c
  rcases aaq.1 hq with e|e
  ·rw[e]at hc
   have h2:(Br r c).length<r.length:=by
    unfold Br
    exact List.length_filter_lt_length_iff_exists.2 ⟨c,hc,by simp⟩
   unfold pM at*
   rw[abc]
   simp only[sJ];omega
  ·have h2:=BJ (L:=L) ⟨q,e,hc⟩
   unfold pM at*
   rw[abc]
   simp only[sJ];omega
theorem NI (L:ML) (c:Int):(sQ L c).length≤L.length:=abJ _ _
theorem A4 {L:ML} {c:Int} (h:rJ L c):(sQ L c).length<L.length:=by
 obtain⟨r,hr,hc⟩:=h
 unfold sQ
 exact List.length_filter_lt_length_iff_exists.2 ⟨r,hr,by simp[hc]⟩
theorem len_le (L:ML) (c:Int):(pM L c).length=L.length:=by grind [pM,List.length_map]
def Lj (L:ML) (i:Nat):ML:=L.take i++L.drop (i+1)
theorem CJ:∀a b:ML,sJ (a++b)=sJ a+sJ b
 |[],b=>by simp[sJ]
 |r::a,b=>by rw[abp];simp only[sJ];rw[CJ a b];omega
theorem MZ {L:ML} {i:Nat} (h:i<L.length):sJ (Lj L i)<sJ L:=by
 have e:L=L.take i++(L.getD i []::L.drop (i+1)):=by
  rw[me,th h]
  simp
 have h1:=congrArg sJ e
 rw[CJ]at h1
 unfold Lj
 rw[CJ]
 simp only[sJ]at h1
 omega
theorem Nr {L:ML} {i:Nat} {r:List Int} (h:r∈Lj L i):r∈L:=by
 rcases Z6.1 h with k|k
 all_goals grind
theorem N9 {L:ML} {i k:Nat} (hk:k<L.length) (hne:¬k=i):L.getD k []∈Lj L i:=by
 unfold Lj
 rw[me,th hk]
 rcases aa0 k i with q|q
 ·refine Z6.2 (.inl (List.mem_take_iff_getElem.2 ⟨k,by omega,rfl⟩))
 ·refine Z6.2 (.inr (List.mem_drop_iff_getElem.2 ⟨k-(i+1),by omega,?_⟩))
  grind
theorem V7 {L:ML} {i k:Nat} {X:List Int} (hi:i<L.length) (hk:k<L.length) (hne:¬k=i) (hw:∀x,x∈L.getD k []→x∈L.getD i []) (h:nM (Lj L i) X):nM L X:=λr hr=>by
 obtain⟨j,hj,rfl⟩:=eZ (d:=[]) hr
 by_cases e:j=i
 ·subst e
  obtain⟨c,h1,h2⟩:=h _ (N9 hk hne)
  exact⟨c,hw c h1,h2⟩
 ·exact h _ (N9 hj e)
theorem UJ {n:Int} {r:List Int} (h:oU n r=true) (c:Int):oU n (Br r c)=true:=by
 have hp:r.Pairwise λa b=>a<b:=aa2.2 λi j hi hj hij=> ?_
 ·exact EI (hp.filter _) λx hx=>by
   obtain⟨k,hk,rfl⟩:=eZ (d:=0) (m9.1 hx).1
   obtain⟨h1,h2,_⟩:=jv.1 h k hk
   exact⟨h1,h2⟩
 ·have key:∀m,i+1+m<r.length→r.getD i 0<r.getD (i+1+m) 0:=by
   intro m
   induction m with
   |zero=>intro hm;exact(jv.1 h (i+1) hm).2.2 (by omega)
   |succ m ih=>
    intro hm
    have h1:=ih (by omega)
    have h2:=(jv.1 h (i+1+(m+1)) hm).2.2 (by omega)
    rw[show i+1+(m+1)-1=i+1+m by omega]at h2
    omega
  have h3:=key (j-(i+1)) (by omega)
  grind
theorem zm {n:Int} {L L':ML} (h:dN n L=true) (k:∀r,r∈L'→oU n r=true):dN n L'=true:=by
 grind [fm,dy]
theorem rU {n:Int} {L:ML} {r:List Int} (h:dN n L=true) (hr:r∈L):oU n r=true:=by
 obtain⟨k,hk,rfl⟩:=eZ (d:=[]) hr
 grind [fm]
theorem ry {n:Int} {L:ML} {c:Int} (h:dN n L=true) (hc:rJ L c):0≤c∧c<n:=by
 obtain⟨r,hr,hc⟩:=hc
 obtain⟨k,hk,rfl⟩:=eZ (d:=0) hc
 have:=jv.1 (rU h hr) k hk
 omega
theorem zj {n:Int} {L:ML} (h:dN n L=true) (c:Int):dN n (sQ L c)=true:=by grind [zm,rU,oC]
theorem FP {n:Int} {L:ML} (h:dN n L=true) (c:Int):dN n (pM L c)=true:=by grind [zm,oo,UJ,rU]
theorem N5 {n:Int} {L:ML} (h:dN n L=true) (i:Nat):dN n (Lj L i)=true:=by grind [zm,rU,Nr]
theorem HE {n:Int} {r:List Int} (h:oU n r=true):(r.length:Int)≤n∨r=[]:=by
 rcases Nat.eq_zero_or_pos r.length with e|e
 ·exact .inr (aar e)
 ·left
  have key:∀m,m<r.length→(m:Int)≤r.getD m 0:=by
   intro m
   induction m with
   |zero=>intro hm;exact(jv.1 h 0 hm).1
   |succ m ih=>
    intro hm
    have h1:=ih (by omega)
    have h2:=(jv.1 h (m+1) hm).2.2 (by omega)
    simp only[aa9]at h2
    omega
  have h3:=key (r.length-1) (by omega)
  grind [jv]
theorem fK {n:Int} {L:ML} (h:dN n L=true) (i:Nat):(L.getD i []).length≤4000:=by
 obtain⟨h1,h2,h3⟩:=fm.1 h
 by_cases hi:i<L.length
 ·rcases HE (h3 i hi)with k|k
  ·omega
  ·rw[k];exact my _
 all_goals grind
def YW (L:ML) (k:Nat):Bool:=L.any λr=>decide ((k:Int)∈r)
theorem py {L:ML} {k:Nat}:YW L k=true↔rJ L (k:Int):=by
 unfold YW rJ
 grind
def cnt (L:ML):Nat:=(List.range 4000).countP (YW L)
theorem nb {α:Type} {p q:α→Bool}:∀{l:List α},(∀x,x∈l→p x=true→q x=true)→l.countP p≤l.countP q
 |[],_=>am _
 |a::l,h=>by
  have ih:=nb (l:=l) λx hx=>h x (aai _ hx)
  have h0:=h a (aab ..)
  rw[List.countP_cons,List.countP_cons]
  by_cases e:p a=true
  ·rw[if_pos e,if_pos (h0 e)];omega
  ·rw[if_neg e];omega
theorem sU {α:Type} {p q:α→Bool}:∀{l:List α},(∀x,x∈l→p x=true→q x=true)→(∃x,x∈l∧q x=true∧p x=false)→l.countP p<l.countP q
 |[],_,⟨x,h,_⟩=>by cases h
 |a::l,h,⟨x,hx,hq,hp⟩=>by
  have ih0:=nb (l:=l) λx hx=>h x (aai _ hx)
  have h0:=h a (aab ..)
  rw[List.countP_cons,List.countP_cons]
  rcases aaq.1 hx with e|e
  ·rw[←e,if_pos hq,if_neg (by rw[hp];decide)];omega
  ·have ih:=sU (l:=l) (λx hx=>h x (aai _ hx)) ⟨x,e,hq,hp⟩
   by_cases e:p a=true
   ·rw[if_pos e,if_pos (h0 e)];omega
   ·rw[if_neg e];omega
theorem ua {L L':ML} (h:∀c,rJ L c→rJ L' c):cnt L≤cnt L':=nb λx _ hx=>py.2 (h _ (py.1 hx))
theorem Pp {n:Int} {L L':ML} {c:Int} (hr:dN n L'=true) (h:∀c,rJ L c→rJ L' c) (h1:rJ L' c) (h2:¬rJ L c):cnt L<cnt L':=by
 obtain⟨h3,h4⟩:=ry hr h1
 obtain⟨_,h5,_⟩:=fm.1 hr
 have e:((c.toNat:Nat):Int)=c:=by omega
 refine sU (λx _ hx=>py.2 (h _ (py.1 hx))) ⟨c.toNat,aam.2 (by omega),py.2 (by rw[e];exact h1),?_⟩
 refine aah.2 λk=>h2 ?_
 grind [py]
theorem Ht {n:Int} {L:ML} {c:Int} (hr:dN n L=true) (h:rJ L c):cnt (sQ L c)<cnt L:=
 Pp hr (λd ⟨r,h1,h2⟩=>⟨r,(oC.1 h1).1,h2⟩) h λ⟨r,h1,h2⟩=>(oC.1 h1).2 h2
theorem Hw {n:Int} {L:ML} {c:Int} (hr:dN n L=true) (h:rJ L c):cnt (pM L c)<cnt L:=
 Pp hr (λd ⟨r,h1,h2⟩=>by obtain⟨q,hq,rfl⟩:=oo.1 h1;exact⟨q,hq,(m9.1 h2).1⟩) h λ⟨r,h1,h2⟩=>by obtain⟨q,hq,rfl⟩:=oo.1 h1;exact(m9.1 h2).2 rfl
theorem Xx {n:Nat} {L:ML} (h:dN (n:Int) L=true):cnt L≤n:=by
 have h1:cnt L≤(List.range 4000).countP λk=>decide (k<n):=nb λx _ hx=>decide_eq_true (by
  have:=ry h (py.1 hx)
  omega)
 have h2:∀m,(List.range m).countP (λk=>decide (k<n))≤n:=by
  intro m
  induction m with
  |zero=>exact my _
  |succ m ih=>
   rw[abN,List.countP_append,List.countP_cons,List.countP_nil]
   by_cases e:m<n
   ·have:(List.range m).countP (λk=>decide (k<n))≤m:=an List.countP_le_length gj
    rw[if_pos (decide_eq_true e)];omega
   ·rw[if_neg (by rw[decide_eq_false e];decide)];omega
 grind
def EX (U r:List Int):Bool:=r.any λc=>decide (c∈U)
def qs (U r:List Int):Nat→List Int
 |0=>U
 |k+1=>ja (qs U r k) (r.getD k 0)
def Aa (L:ML):Nat→List Int
 |0=>[]
 |k+1=>if EX (Aa L k) (L.getD k [])then Aa L k else qs (Aa L k) (L.getD k []) (L.getD k []).length
def FI (L:ML):Nat→Nat
 |0=>0
 |k+1=>if EX (Aa L k) (L.getD k [])then FI L k else FI L k+1
theorem qN {U r:List Int} {c:Int}:∀k,k≤r.length→(c∈qs U r k↔c∈U∨c∈r.take k)
 |0,_=>by simp[qs]
 |k+1,hk=>by
  rw[qs,gt,qN k (by omega),aaH,Z6,me,th (show k<r.length by omega),or_assoc]
  simp[eq_comm]
theorem Tg {L:ML} {X:List Int} (h:nM L X):∀k,k≤L.length→FI L k≤X.countP λc=>decide (c∈Aa L k)
 |0,_=>my _
 |k+1,hk=>by
  have ih:=Tg h k (by omega)
  rw[FI,Aa]
  split
  ·exact ih
  ·rename_i hno
   obtain⟨c,h1,h2⟩:=h _ (dy (d:=[]) (show k<L.length by omega))
   have hc:¬c∈Aa L k:=λq=>hno (aaO.2 ⟨c,h1,decide_eq_true q⟩)
   refine aaw ih (sU (λx _ hx=>decide_eq_true ?_) ⟨c,h2,decide_eq_true ?_,decide_eq_false hc⟩)
   ·exact(qN _ (am _)).2 (.inl (of_decide_eq_true hx))
   ·exact(qN _ (am _)).2 (.inr (by rw[aan];exact h1))
theorem O7 {L:ML} {X:List Int} (h:nM L X):FI L L.length≤X.length:=an (Tg h _ (am _)) List.countP_le_length
def YF (x:ML×List Int) (Y:List Int):Prop:=∃X,X.Nodup∧nM x.1 X∧x.2.length+X.length≤Y.length
structure sC (L0:ML) (st:List (ML×List Int)) (best:List Int):Prop where
 bs:nM L0 best
 up:∀x,x∈st→∀X,nM x.1 X→nM L0 (x.2++X)
 dn:∀Y,Y.Nodup→nM L0 Y→best.length≤Y.length∨∃x,x∈st∧YF x Y
section
variable {L0:ML} {st:List (ML×List Int)} {x:ML×List Int} {best best' T:List Int} {rest:ML} {c:Int}
theorem acJ (hb:nM L0 best):sC L0 [(L0,[])] best:=⟨hb,λx hx X h=>(by obtain rfl:=Z8.1 hx;exact h),λY h1 h2=> .inr ⟨_,Z8.2 rfl,Y,h1,h2,by simp⟩⟩
theorem sC.drop (h:sC L0 (st++[x]) best) (hb:nM L0 best') (hle:best'.length≤best.length) (hx:∀Y,YF x Y→best'.length≤Y.length):sC L0 st best':=by
 refine⟨hb,λy hy=>h.up y (Z6.2 (.inl hy)),λY h1 h2=> ?_⟩
 rcases h.dn Y h1 h2 with k|⟨y,hy,k⟩
 ·exact .inl (an hle k)
 ·rcases Z6.1 hy with q|q
  ·exact .inr ⟨y,q,k⟩
  ·rw[Z8.1 q]at k
   exact .inl (hx Y k)
theorem sC.none (h:sC L0 (st++[x]) best) {r:List Int} (hr:r∈x.1) (hn:r=[]):sC L0 st best:=h.drop h.bs (am _) λY ⟨X,_,h2,_⟩=>by
 obtain⟨c,h3,_⟩:=h2 r hr
 rw[hn]at h3;cases h3
theorem sC.sol (h:sC L0 (st++[x]) best) (hr:mR x.1 rest T) (he:rest=[]):nM L0 (x.2++T):=by
 have:=h.up x (Z6.2 (.inr (Z8.2 rfl))) (T++[]) (hr.up [] (by rw[he];exact JF _))
 grind
theorem acu (hr:mR x.1 rest T) {Y:List Int} (k:YF x Y):∃X,X.Nodup∧nM rest X∧(x.2++T).length+X.length≤Y.length:=by
 obtain⟨X,h1,h2,h3⟩:=k
 obtain⟨X',h4,h5,h6⟩:=hr.dn X h1 h2
 grind
theorem sC.leaf (h:sC L0 (st++[x]) best) (hr:mR x.1 rest T) (he:rest=[]) (hl:(x.2++T).length<best.length):sC L0 st (x.2++T):=h.drop (h.sol hr he) (Nat.le_of_lt hl) λY k=>by
 obtain⟨X,_,_,h3⟩:=acu hr k
 omega
theorem sC.leaf0 (h:sC L0 (st++[x]) best) (hr:mR x.1 rest T) (hl:¬(x.2++T).length<best.length):sC L0 st best:=h.drop h.bs (am _) λY k=>by
 obtain⟨X,_,_,h3⟩:=acu hr k
 omega
theorem sC.prune (h:sC L0 (st++[x]) best) (hr:mR x.1 rest T) (hl:best.length≤(x.2++T).length+FI rest rest.length):sC L0 st best:=h.drop h.bs (am _) λY k=>by
 obtain⟨X,_,h2,h3⟩:=acu hr k
 have:=O7 h2
 omega
theorem sC.branch (h:sC L0 (st++[x]) best) (hr:mR x.1 rest T) (c:Int):sC L0 (st++[(pM rest c,x.2++T),(sQ rest c,x.2++T++[c])]) best:=by
 have hx:=h.up x (Z6.2 (.inr (Z8.2 rfl)))
 refine⟨h.bs,λy hy X hX=> ?_,λY h1 h2=> ?_⟩
 ·rcases Z6.1 hy with q|q
  ·exact h.up y (Z6.2 (.inl q)) X hX
  ·rcases aaq.1 q with rfl|q
   ·have:=hx _ (hr.up X (NR hX))
    rwa [aav]
   ·rw[Z8.1 q]at hX ⊢
    have:=hx _ (hr.up _ (Gv hX))
    simp only[aav]
    exact this
 ·rcases h.dn Y h1 h2 with k|⟨y,hy,k⟩
  ·exact .inl k
  ·rcases Z6.1 hy with q|q
   ·exact .inr ⟨y,Z6.2 (.inl q),k⟩
   ·rw[Z8.1 q]at k
    obtain⟨X,h4,h5,h6⟩:=acu hr k
    right
    by_cases hc:c∈X
    ·refine⟨_,Z6.2 (.inr (aai _ (Z8.2 rfl))),X.erase c,h4.erase c,E1 h4 h5,?_⟩
     rw[abr hc]
     have:=aaG hc
     simp only[An,aaC]at h6 ⊢
     omega
    ·exact⟨_,Z6.2 (.inr (aab ..)),X,h4,M1 h5 hc,h6⟩
end
def Dy:List (ML×List Int)→Nat
 |[]=>0
 |x::st=>(2^(cnt x.1+1)-1)+Dy st
def JG:List (ML×List Int)→Nat
 |[]=>0
 |x::st=>(2^cnt x.1-1)+JG st
theorem xC:∀a b,Dy (a++b)=Dy a+Dy b
 |[],b=>by simp[Dy]
 |x::a,b=>by rw[abp,Dy,Dy,xC a b];omega
theorem xh:∀a b,JG (a++b)=JG a+JG b
 |[],b=>by simp[JG]
 |x::a,b=>by rw[abp,JG,JG,xh a b];omega
theorem Nu (st:List (ML×List Int)) (x:ML×List Int):Dy st<Dy (st++[x]):=by
 have:=aaz (cnt x.1)
 rw[xC]
 simp only[Dy,aa4]
 omega
theorem NX (st:List (ML×List Int)) (x:ML×List Int):JG st≤JG (st++[x]):=by rw[xh];omega
section
variable {n:Int} {st:List (ML×List Int)} {x:ML×List Int} {T a b:List Int} {rest:ML} {c:Int}
theorem tV {a k:Nat} (h:a<k):2*2^a≤2^k:=by
 have:=aaf (show 0<2 by decide) (show a+1≤k by omega)
 omega
theorem Gp (hr:dN n rest=true) (h:mR x.1 rest T) (hc:rJ rest c):Dy (st++[(pM rest c,a),(sQ rest c,b)])<Dy (st++[x]):=by
 have h1:=tV (Hw hr hc)
 have h2:=tV (Ht hr hc)
 have h3:=aaf (show 0<2 by decide) (ua h.sub)
 have h4:=aaz (cnt (pM rest c))
 rw[xC,xC]
 simp only[Dy,aa4]
 omega
theorem zM (hr:dN n rest=true) (h:mR x.1 rest T) (hc:rJ rest c):JG (st++[(pM rest c,a),(sQ rest c,b)])+1≤JG (st++[x]):=by
 have h1:=tV (Hw hr hc)
 have h2:=tV (Ht hr hc)
 have h3:=aaf (show 0<2 by decide) (ua h.sub)
 have h4:=aaz (cnt (pM rest c))
 have h5:=aaz (cnt (sQ rest c))
 rw[xh,xh]
 simp only[JG]
 omega
end
def lg (l:List Int) (k:Nat):List Int:=((List.range k).filter λc:Nat=>decide ((c:Int)∈l)).map λc:Nat=>(c:Int)
theorem nh (l:List Int) (k:Nat):lg l (k+1)=if (k:Int)∈l then lg l k++[(k:Int)]else lg l k:=by
 grind [lg,List.range_succ]
theorem ro {l:List Int} {k:Nat} {c:Int}:c∈lg l k↔c∈l∧0≤c∧c<k:=by
 unfold lg
 simp only[aag,aaN,aam,decide_eq_true_eq]
 constructor
 ·rintro⟨a,⟨h1,h2⟩,rfl⟩;exact⟨h2,by omega,by omega⟩
 ·rintro⟨h1,h2,h3⟩
  exact⟨c.toNat,⟨by omega,by rwa [show ((c.toNat:Nat):Int)=c by omega]⟩,by omega⟩
theorem QF (l:List Int) (k:Nat):(lg l k).Pairwise λa b=>a<b:=by
 grind [lg,List.pairwise_lt_range]
theorem lS (l:List Int) (k:Nat):(lg l k).Nodup:=(QF l k).imp λh e=>by omega
theorem s6 {α:Type} [DecidableEq α]:∀{a b:List α},a.Nodup→(∀x,x∈a→x∈b)→a.length≤b.length
 |[],b,_,_=>my _
 |x::a,b,hn,h=>by
  obtain⟨h1,h2⟩:=List.nodup_cons.1 hn
  have hx:x∈b:=h x (aab ..)
  have ih:=s6 (a:=a) (b:=b.erase x) h2 λy hy=>(List.mem_erase_of_ne (λe=>h1 (by rw[e]at hy;exact hy))).2 (h y (aai _ hy))
  rw[abr hx]at ih
  have:=aaG hx
  rw[aak]
  omega
theorem Fc (l:List Int) (k:Nat):(lg l k).length≤l.length:=s6 (lS l k) λx hx=>(ro.1 hx).1
theorem mF (l:List Int) (k:Nat):(lg l k).length≤k:=by
 grind [lg,List.length_map,Nat.le_trans,List.length_filter_le]
theorem ra {n:Int} {L:ML} {l:List Int} (hr:dN n L=true) (h:nM L l):nM L (lg l n.toNat):=λr hr2=>by
 obtain⟨c,h1,h2⟩:=h r hr2
 have:=ry hr ⟨r,hr2,h1⟩
 exact⟨c,h1,ro.2 ⟨h2,by omega,by omega⟩⟩
theorem mR.ris {n:Int} {L0 L:ML} {ks:List Int} (hr:dN n L0=true) (h:mR L0 L ks):mR L0 L (lg ks n.toNat):=by
 have hm:∀c,c∈lg ks n.toNat↔c∈ks:=λc=>ro.trans ⟨λq=>q.1,λq=>by
  have:=ry hr (h.ksub c q)
  exact⟨q,by omega,by omega⟩⟩
 exact h.perm (lS _ _) hm (Nat.le_antisymm (s6 (lS _ _) λx hx=>(hm x).1 hx) (s6 h.nd λx hx=>(hm x).2 hx))
structure Re (L:ML) (n:Int) (X:List Int):Prop where
 nd:X.Nodup
 lim:∀c,c∈X→0≤c∧c<n
 slv:nM L X
 min:∀Y,Y.Nodup→nM L Y→X.length≤Y.length
theorem sC.fin {n:Int} {L0:ML} {best:List Int} (hr:dN n L0=true) (h:sC L0 [] best):Re L0 n (lg best n.toNat):=by
 obtain⟨h1,_,_⟩:=fm.1 hr
 refine⟨lS _ _,λc hc=> ?_,ra hr h.bs,λY hn hY=> ?_⟩
 ·have:=(ro.1 hc).2
  omega
 ·rcases h.dn Y hn hY with k|⟨x,hx,_⟩
  ·exact an (Fc _ _) k
  ·cases hx
theorem Re.both {n:Int} {L0 L:ML} {T X:List Int} (h:mR L0 L T) (k:Re L n X):nM L0 (T++X)∧∀Y,Y.Nodup→nM L0 Y→(T++X).length≤Y.length:=by
 refine⟨h.up X k.slv,λY hn hY=> ?_⟩
 obtain⟨X',h1,h2,h3⟩:=h.dn Y hn hY
 have:=k.min X' h1 h2
 grind
end
section
open Go Go.RowKit
theorem LL.last {w:World} {vos:List Value} {A:List (List Int)} {m:Nat} (h:LL w vos (A.take m)) (hm:m≤A.length) (h0:0<m):dh dJ 1 w (vos.getD ((vos.length:Int)-1).toNat undef) (A.getD (m-1) []):=by
 have hl:=h.len
 rw[aal,abw hm]at hl
 have g:=h.get (m-1) GW
 have e:(A.take m).getD (m-1) []=A.getD (m-1) []:=by
  rw[me,ab0,if_pos (by omega),me]
 simp_all
theorem K8 (S:Sp) (l:List Rw):(mI S l).length=(kS S l S.on.length).length:=BP _
theorem OL {S:Sp} {l:List Rw} (hr:dq S=true):(kS S l S.on.length).length≤1024:=by
 grind [vL,dD]
theorem LL.two {w:World} {v0 v1:Value} {l0 l1:List Int} (h0:dh dJ 1 w v0 l0) (h1:dh dJ 1 w v1 l1):LL w [v0,v1] [l0,l1]:=((LL.nil w).snoc h0).snoc h1
end
section
open Go Go.RowKit
def tO {α:Type} (d:α) (p:Nat→Bool) (l:List α):Nat→List α
 |0=>[]
 |k+1=>if p k then tO d p l k++[l.getD k d]else tO d p l k
theorem Th {α:Type} {d:α} {p:Nat→Bool} {l:List α} {k:Nat} (h:p k=true):tO d p l k++[l.getD k d]=tO d p l (k+1):=by rw[tO,if_pos h]
theorem TK {α:Type} {d:α} {p:Nat→Bool} {l:List α} {k:Nat} (h:p k=false):tO d p l k=tO d p l (k+1):=by rw[tO,if_neg (by rw[h];decide)]
theorem BU {α:Type} (d:α) (p:Nat→Bool) (l:List α):∀k,(tO d p l k).length≤k
 |0=>am _
 |k+1=>by
  have:=BU d p l k
  rw[tO]
  split
  ·rw[An,aaC];omega
  ·omega
theorem acr {T:TypeId} {N:Nat} {w:World} {vs:List Value} {L:ML} (h:LO T N w vs L) (p:Nat→Bool):∀k,k≤L.length→LO T N w (tO undef p vs k) (tO [] p L k)
 |0,_=>LO.nil
 |k+1,hk=>by
  have ih:=acr h p k (by omega)
  rw[tO,tO]
  split
  ·exact ih.snoc (h.get k (by omega))
  ·exact ih
theorem sd {L:ML} {k:Nat} (h:k<L.length):L.take (k+1)=L.take k++[L.getD k []]:=(Md h).symm
theorem Pd {L:ML} {c:Int}:∀k,k≤L.length→tO [] (λk=> !decide (c∈L.getD k [])) L k=sQ (L.take k) c
 |0,_=>by simp[tO,sQ]
 |k+1,hk=>by
  have ih:=Pd (L:=L) (c:=c) k (by omega)
  rw[sd (by omega)]
  unfold sQ at ih ⊢
  rw[tO,abI,←ih]
  generalize tO [] (λk=> !decide (c∈L.getD k [])) L k=A
  generalize L.getD k []=r
  by_cases h:c∈r
  ·simp[h]
  ·simp[h]
theorem MP {L:ML} {i:Nat}:∀k,k≤L.length→tO [] (λk=>decide (¬(k:Int)=(i:Int))) L k=if k≤i then L.take k else Lj (L.take k) i
 |0,_=>by simp[tO]
 |k+1,hk=>by
  have ih:=MP (L:=L) (i:=i) k (by omega)
  rw[tO,ih]
  by_cases h1:k<i
  ·rw[if_pos (decide_eq_true (by omega)),if_pos (by omega),if_pos (by omega),sd (by omega)]
  ·by_cases h2:k=i
   ·subst h2
    rw[if_neg gj,if_pos (am _),if_neg (by omega)]
    unfold Lj
    rw[List.take_take,abw (by omega),List.drop_of_length_le GW,aaT]
   ·rw[if_pos (decide_eq_true (by omega)),if_neg (by omega),if_neg (by omega),sd (by omega)]
    unfold Lj
    rw[abT GW,List.drop_append_of_le_length GW,aav]
theorem Oe (L:ML) (c:Int):tO [] (λk=> !decide (c∈L.getD k [])) L L.length=sQ L c:=by rw[Pd _ (am _),aan]
theorem Xh {L:ML} {i:Nat} (h:i<L.length):tO [] (λk=>decide (¬(k:Int)=(i:Int))) L L.length=Lj L i:=by rw[MP _ (am _),if_neg (by omega),aan]
theorem TN {r:List Int} {c:Int} {k:Nat} (hk:k<r.length) (h:r.getD k 0=c):Value.bool true= .bool (decide (c∈r)):=by grind
theorem TB {r:List Int} {c:Int} {k:Nat} (hk:k=r.length) (h:∀q,q<k→¬r.getD q 0=c):Value.bool false= .bool (decide (c∈r)):=w7 λe=>by
 obtain⟨j,hj,hjc⟩:=eZ (d:=0) (of_decide_eq_true e)
 exact h j (by omega) hjc
def Dk (a b:List Int):Bool:=a.all λx=>decide (x∈b)
theorem uo {a b:List Int}:Dk a b=true↔∀x,x∈a→x∈b:=by
 unfold Dk
 grind
theorem XQ {a b:List Int} {k:Nat} (hk:k<a.length) (h:(!decide (a.getD k 0∈b))=true):Value.bool false= .bool (Dk a b):=by grind [w7,uo,dy,decide_eq_true]
theorem Ym {a b:List Int} {k:Nat} (hk:k=a.length) (h:∀q,q<k→(!decide (a.getD q 0∈b))=false):Value.bool true= .bool (Dk a b):=LT (uo.2 λx hx=>by
 obtain⟨j,hj,rfl⟩:=eZ (d:=0) hx
 have:=h j (by omega)
 simpa using this)
theorem cD.hi {α:Type} {enc:α→List Value} {sz:Nat} {T:TypeId} {w:World} {N:Nat} {v:Value} {l:List α} (h:cD enc sz T w N v l) (he:∀a,(enc a).length=sz) {k:Nat} (hk:k≤l.length):cD enc sz T w N (fP sz v 0 k (iZ v)) (l.take k):=by
 obtain⟨h1,h2⟩:=h
 have hl:(List.flatMap enc (l.take k)).length=(l.take k).length*sz:=kn he _
 refine⟨hl,?_⟩
 rcases h2 with ⟨rfl,h3⟩|⟨g,cap,cur,rfl,hg,hh,hnc,hcm,hcs,ht⟩
 ·have h0:l=[]:=aar h3
  subst h0
  have hk0:k=0:=by simpa using hk
  subst hk0
  exact .inl ⟨rfl,rfl⟩
 ·refine .inr ⟨g,cap,cur,?_,hg,hh,by rw[aal];omega,hcm,hcs,?_⟩
  ·show fP sz (.slice (some ⟨g,0,none⟩) l.length cap) 0 k cap=_
   unfold fP CL
   rw[aal,abw hk]
   by_cases hc:cap=0
   ·subst hc;simp
   ·rw[if_neg hc]
    simp only[Option.map_some,abb,abK]
    rw[hU]
  ·rw[aal,abw hk,rO he,←ht,List.take_take]
   simp_all
theorem Og {w:World} {b N:Nat} {T:TypeId} {f0 f1 f2:Value} (k:At w b #[f0,f1,f2] T) (hN:N≤b):cD encV 1 T w N (.slice (some ⟨b,0,none⟩) 3 3) [f0,f1,f2]:=
 ⟨rfl, .inr ⟨b,3,#[f0,f1,f2],rfl,hN,k,am _,by decide,rfl,rfl⟩⟩
section
variable {P:Program} {f:Nat→Value} {w:World} {d:Option Nat} {ty:TypeId} {ps:String} {af:Array Edge} {g:Option (Nat×Bool)} {x y:Operand}
theorem Ug {a b:Int} {tys:Array TypeId} (hx:dg f x= .int .i64 a) (hy:dg f y= .int .i64 b):(execOp (dg f) ⟨d, .call ⟨.builtin .max,#[x,y],tys⟩,ty,ps,af,g⟩).run P w= .ok (.value (.int .i64 (max a b))) w:=by
 simp[execOp,resolve,invoke,builtin,hx,hy,Builtin.max_,Builtin.max2]
 split<;>omega
end
theorem TJ {v:Value} (h:v.oneCell'=true):[v].all Value.oneCell'=true:=by grind
theorem iB {n:Int} {v:Value} (h:v.oneCell'=true):[Value.int .i64 n,v].all Value.oneCell'=true:=by simp only[aa7,abL,h,aaZ];rfl
def Lz (l:List (Int×Value)) (c:Int):Value:=(iy l c).getD (.slice none 0 0)
structure MO (T:TypeId) (N:Nat) (w:World) (l:List (Int×Value)) (g:Int→List Int):Prop where
 own:∀p,p∈l→cD dJ 1 T w N p.2 (g p.1)
 ap:∀p q,p∈l→q∈l→¬p.1=q.1→fl p.2 q.2
 nd:(l.map (·.1)).Nodup
 no:∀c,c∉l.map (·.1)→g c=[]
def Hs (g:Int→List Int) (c x:Int):Int→List Int:=λd=>if d=c then g d++[x]else g d
section
variable {T:TypeId} {N:Nat} {w w':World} {l:List (Int×Value)} {g:Int→List Int} {c x:Int}
theorem MO.nil:MO T N w [] (λ_=>[]):=⟨λp h=>(by cases h),λp q h=>(by cases h),List.nodup_nil,λ_ _=>rfl⟩
theorem MO.get (h:MO T N w l g) (c:Int):cD dJ 1 T w N (Lz l c) (g c):=by
 unfold Lz
 cases e:iy l c with
 |none=>
  rw[h.no c (oX.1 e)]
  exact cD.nil
 |some v=>exact h.own (c,v) ((nx h.nd).1 e)
theorem MO.ext (h:dz w w') (k:MO T N w l g):MO T N w' l g:=⟨λp hp=>h.ow (k.own p hp),k.ap,k.nd,k.no⟩
theorem MO.below {W:World} (h:Below w.heap.size w W) (k:MO T N w l g):MO T N W l g:=⟨λp hp=>Below.ow h (k.own p hp),k.ap,k.nd,k.no⟩
theorem MO.grownAt {b:Nat} {cs:Array Value} {T':TypeId} (k:MO T N w l g) (hm:At w b cs T') (hG:w.grownBy w' (some b)) (hT:T'≠T):MO T N w' l g:=⟨λp hp=>(k.own p hp).grownAt hm hG hT,k.ap,k.nd,k.no⟩
theorem MO.grownMap {α β:Type} {enc:α→Value} {encV:β→Value} {b:Nat} {m:List (α×β)} (k:MO T N w l g) (hm:du enc encV w b m) (hG:w.grownBy w' (some b)):MO T N w' l g:=⟨λp hp=>(k.own p hp).grownMap hm hG,k.ap,k.nd,k.no⟩
theorem MO.grownOw {α:Type} {enc:α→List Value} {sz N':Nat} {T':TypeId} {v:Value} {m:List α} (k:MO T N w l g) (h:cD enc sz T' w N' v m) (hG:w.grownBy w' v.ownBlock) (hT:T'≠T):MO T N w' l g:=⟨λp hp=>(k.own p hp).grownOw h hG hT.symm,k.ap,k.nd,k.no⟩
theorem uu {v:Value} {p:Int×Value} (hn:(l.map (·.1)).Nodup) (h:p∈iz l c v):(p=(c,v))∨(p∈l∧¬p.1=c):=by
 grind [iz,List.mem_map_of_mem,List.mem_singleton]
theorem MO.app {v:Value} (k:MO T N w l g) (hG:w.grownBy w' (Lz l c).ownBlock) (hob:v.ownBlock=(Lz l c).ownBlock∨v.ownBlock=some w.heap.size) (hO:cD dJ 1 T w' N v (g c++[x])):MO T N w' (iz l c v) (Hs g c x):=by
 have hgo:∀p,p∈l→¬p.1=c→fl (Lz l c) p.2:=λp hp hne=>by
  unfold Lz
  cases e:iy l c with
  |none=>exact acs
  |some u=>exact k.ap (c,u) p ((nx k.nd).1 e) hp (λq=>hne q.symm)
 have hap:∀p,p∈l→¬p.1=c→fl v p.2:=λp hp hne=>fl.app (hgo p hp hne) hob (k.own p hp)
 refine⟨λp hp=> ?_,λp q hp hq hne=> ?_,?_,λd hd=> ?_⟩
 ·rcases uu k.nd hp with rfl|⟨h1,h2⟩
  ·unfold Hs;rw[if_pos rfl];exact hO
  ·unfold Hs;rw[if_neg h2];exact(k.own p h1).grownAp (hgo p h1 h2) hG
 ·rcases uu k.nd hp with rfl|⟨h1,h2⟩
  ·rcases uu k.nd hq with rfl|⟨h3,h4⟩
   ·exact absurd rfl hne
   ·exact hap q h3 h4
  ·rcases uu k.nd hq with rfl|⟨h3,h4⟩
   ·exact(hap p h1 h2).symm
   ·exact k.ap p q h1 h3 hne
 ·rw[kX];exact jO k.nd c
 ·rw[kX]at hd
  have h1:¬d=c:=λe=>hd (gt.2 (.inr e))
  unfold Hs
  rw[if_neg h1]
  exact k.no d λe=>hd (gt.2 (.inl e))
end
def TQ (r:List Int) (i:Nat) (g:Int→List Int):Nat→Int→List Int
 |0=>g
 |j+1=>Hs (TQ r i g j) (r.getD j 0) (i:Int)
def pc (L:ML):Nat→Int→List Int
 |0=>λ_=>[]
 |i+1=>TQ (L.getD i []) i (pc L i) (L.getD i []).length
theorem IU {r:List Int} {i:Nat} {g:Int→List Int} {c x:Int}:∀j,j≤r.length→(x∈TQ r i g j c↔x∈g c∨(c∈r.take j∧x=i))
 |0,_=>by simp[TQ]
 |j+1,hj=>by
  have ih:=IU (r:=r) (i:=i) (g:=g) (c:=c) (x:=x) j (by omega)
  rw[TQ,aaH,Z6,th (show j<r.length by omega)]
  have e:r.getD j 0=r[j]:=by rw[me,th (show j<r.length by omega)];rfl
  unfold Hs
  rw[e]
  by_cases h:c=r[j]
  ·rw[if_pos h,Z6,ih,Z8]
   simp[h]
   constructor
   ·rintro((h1|h1)|h1)
    ·exact .inl h1
    ·exact .inr h1.2
    ·exact .inr h1
   ·rintro(h1|h1)
    ·exact .inl (.inl h1)
    ·exact .inr h1
  ·rw[if_neg h,ih]
   simp[h]
theorem xB {L:ML} {c x:Int}:∀k,x∈pc L k c↔∃i,i<k∧c∈L.getD i []∧x=(i:Int)
 |0=>by simp[pc]
 |k+1=>by
  rw[pc,IU _ (am _),aan,xB k]
  constructor
  ·rintro(⟨i,h1,h2,h3⟩|⟨h2,h3⟩)
   ·exact⟨i,by omega,h2,h3⟩
   ·exact⟨k,by omega,h2,h3⟩
  ·rintro⟨i,h1,h2,h3⟩
   by_cases e:i=k
   ·subst e;exact .inr ⟨h2,h3⟩
   ·exact .inl ⟨i,by omega,h2,h3⟩
theorem IO {L:ML} {c:Int} {q:Nat} (h:q<(pc L L.length c).length):0≤(pc L L.length c).getD q 0∧(pc L L.length c).getD q 0<L.length∧c∈L.getD ((pc L L.length c).getD q 0).toNat []:=by
 grind [xB,dy,Int.toNat_natCast]
theorem Dj {r:List Int} {i:Nat} {g:Int→List Int} {c:Int}:∀j,(TQ r i g j c).length≤(g c).length+j
 |0=>am _
 |j+1=>by
  have ih:=Dj (r:=r) (i:=i) (g:=g) (c:=c) j
  rw[TQ]
  unfold Hs
  split
  ·rw[An,aaC];omega
  ·omega
theorem xX {L:ML} {c:Int} (h:∀i,(L.getD i []).length≤4000):∀k,(pc L k c).length≤4000*k
 |0=>am _
 |k+1=>by
  have ih:=xX (c:=c) h k
  have h1:=Dj (r:=L.getD k []) (i:=k) (g:=pc L k) (c:=c) (L.getD k []).length
  have h2:=h k
  rw[pc];omega
theorem VD {L:ML} {c d:Int} (h:Dk (pc L L.length c) (pc L L.length d)=true):∀r,r∈L→c∈r→d∈r:=λr hr hc=>by
 obtain⟨i,hi,rfl⟩:=eZ (d:=[]) hr
 obtain⟨j,_,h2,h3⟩:=(xB _).1 (uo.1 h _ ((xB _).2 ⟨i,hi,hc,rfl⟩))
 have e:j=i:=by omega
 rw[e]at h2
 exact h2
theorem D8 {r:List Int} {c:Int} {k:Nat} (hk:k<r.length):Br (r.take (k+1)) c=if r.getD k 0=c then Br (r.take k) c else Br (r.take k) c++[r.getD k 0]:=by
 grind [Br,List.take_add_one,List.getElem?_eq_getElem]
theorem SY {r:List Int} {c:Int} {k:Nat} (hk:k<r.length) (h:¬r.getD k 0=c):Br (r.take k) c++[r.getD k 0]=Br (r.take (k+1)) c:=by rw[D8 hk,if_neg h]
theorem TL {r:List Int} {c:Int} {k:Nat} (hk:k<r.length) (h:r.getD k 0=c):Br (r.take k) c=Br (r.take (k+1)) c:=by rw[D8 hk,if_pos h]
theorem E2 {L:ML} {c:Int} {k:Nat} (hk:k<L.length):pM (L.take k) c++[Br (L.getD k []) c]=pM (L.take (k+1)) c:=by
 grind [sd,pM]
theorem Id {L:ML} {c:Int} {k:Nat} (hk:k=L.length):pM (L.take k) c=pM L c:=by grind
theorem Jy (L:ML) (c:Int) (k:Nat):(pM (L.take k) c).length≤k:=by grind [pM,List.length_map,List.length_take]
theorem IH (r:List Int) (c:Int) (k:Nat):(Br (r.take k) c).length≤k:=by
 grind [CV,List.length_take]
def XO (L L':ML) (c:Int) (b:Bool):Prop:=(b=true∧(∃r,r∈L∧r=[c])∧L'=sQ L c)∨(b=false∧L'=L)
theorem Y4 {L:ML} {k:Nat} {C:Int} (hk:k<L.length) (h1:((L.getD k []).length:Int)=1) (hC:C=(L.getD k []).getD 0 0):XO L (tO [] (λk=> !decide (C∈L.getD k [])) L L.length) C true:=by
 refine .inl ⟨rfl,⟨L.getD k [],dy (d:=[]) hk,?_⟩,Oe L C⟩
 generalize L.getD k []=r at*
 match r,h1 with
 |[a],_=>rw[hC];rfl
theorem YN (L:ML):XO L L 0 false:= .inr ⟨rfl,rfl⟩
def Wr (L L':ML) (b:Bool):Prop:=(b=true∧((∃i k,i<L.length∧k<L.length∧¬k=i∧(∀x,x∈L.getD k []→x∈L.getD i [])∧L'=Lj L i)∨∃c d,rJ L c∧¬d=c∧(∀r,r∈L→c∈r→d∈r)∧L'=pM L c))∨(b=false∧L'=L)
theorem XW (L:ML):Wr L L false:= .inr ⟨rfl,rfl⟩
theorem Jn {L:ML} {i k:Nat} (hi:i<L.length) (hk:k<L.length) (hne:¬(k:Int)=(i:Int)) (hw:Dk (L.getD k []) (L.getD i [])=true):Wr L (tO [] (λk=>decide (¬(k:Int)=(i:Int))) L L.length) true:=
 .inl ⟨rfl, .inl ⟨i,k,hi,hk,λe=>hne vu,λx hx=>uo.1 hw x hx,Xh hi⟩⟩
theorem Q2 {L:ML} {c d:Int} {i:Nat} (h0:(pc L L.length c).length≠0) (hne:¬d=c) (hw:Dk (pc L L.length c) (pc L L.length d)=true):Wr L (pM L c) true:=by
 refine .inl ⟨rfl, .inr ⟨c,d,?_,hne,VD hw,rfl⟩⟩
 obtain⟨h1,h2,h3⟩:=IO (q:=0) (Nat.pos_of_ne_zero h0)
 exact⟨_,dy (by omega),h3⟩
structure Ts (L0 L' L:ML) (ks':List Int) (n:Int) (b:Bool):Prop where
 rd:mR L0 L' ks'
 r:dN n L'=true
 sz:sJ L'≤sJ L
 szt:b=true→sJ L'<sJ L
 len:L'.length≤L.length
theorem EV {L0 L:ML} {ks:List Int} {n:Int} (h:mR L0 L ks) (hr:dN n L=true):Ts L0 L L ks n false:=⟨h,hr,am _,λe=>Bool.noConfusion e,am _⟩
theorem Nc {L0 L L':ML} {ks:List Int} {n c:Int} (h:mR L0 L ks) (hr:dN n L=true) (k:XO L L' c true):Ts L0 L' L (ja ks c) n true:=by
 obtain⟨_,⟨r,h1,h2⟩,rfl⟩|⟨h1,_⟩:=k
 ·have hin:rJ L c:=⟨r,h1,by rw[h2];exact Z8.2 rfl⟩
  exact⟨h.take h1 h2,zj hr c,GQ c L,λ_=>BH hin,NI L c⟩
 ·cases h1
theorem Lo {L0 L L':ML} {ks:List Int} {n c:Int} (h:mR L0 L ks) (hr:dN n L=true) (k:XO L L' c false):Ts L0 L' L ks n false:=by
 obtain⟨h1,_⟩|⟨_,rfl⟩:=k
 ·cases h1
 ·exact EV h hr
theorem Mo {L0 L L':ML} {ks:List Int} {n:Int} {b:Bool} (h:mR L0 L ks) (hr:dN n L=true) (k:Wr L L' b):Ts L0 L' L ks n b:=by
 obtain⟨rfl,⟨i,j,h1,h2,h3,h4,rfl⟩|⟨c,d,h1,h2,h3,rfl⟩⟩|⟨rfl,rfl⟩:=k
 ·refine⟨h.rows (λr=>Nr) (λX hX=>V7 h1 h2 h3 h4 hX),N5 hr i,Nat.le_of_lt (MZ h1),λ_=>MZ h1,?_⟩
  unfold Lj
  rw[An,aal,aa5];omega
 ·exact⟨h.cols h2 h3,FP hr c,HC c L,λ_=>BJ h1,aae (len_le L c)⟩
 ·exact EV h hr
end
end Go.Proofs.YtedeonkjellcpaaGreatDoor
