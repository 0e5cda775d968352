/- jm rows of numbers: putting a number in its place, merging; what is told of a family; what is marked. No program in it. What the statements about families need: outcomes with room enough, the document's rows, and what they have to do with a family's members. No program in it. Ids and the rows of the -/
import Derived.Test.YtedeonkjellcpaaGreatDoorZ1
import Derived.Test.YtedeonkjellcpaaGreatDoorMx
import Derived.Scope
namespace Go.Proofs.YtedeonkjellcpaaGreatDoor
set_option linter.unusedVariables false
set_option linter.unusedSimpArgs false
section
section
open Go Go.RowKit
theorem Z2 {b:Bool} (h:b=true):Value.bool true= .bool b:=by rw[h]
theorem Z0 {b:Bool} (h:¬b=true):Value.bool false= .bool b:=by rw[aah.2 h]
def Iu (l:List Int):Prop:=l.Pairwise λa b=>a<b
theorem xg:∀{a b:List Int},Iu a→Iu b→(∀x,x∈a↔x∈b)→a=b
 |[],[],_,_,_=>rfl
 |[],b::bs,_,_,h=>by have:=(h b).2 (aab ..);cases this
 |a::aq,[],_,_,h=>by have:=(h a).1 (aab ..);cases this
 |a::aq,b::bs,ha,hb,h=>by
  obtain⟨a1,a2⟩:=aaW.1 ha
  obtain⟨b1,b2⟩:=aaW.1 hb
  have e:a=b:=by
   rcases aaq.1 ((h a).1 (aab ..))with e|k
   ·exact e
   ·rcases aaq.1 ((h b).2 (aab ..))with e|q
    ·exact e.symm
    ·have:=a1 b q
     have:=b1 a k
     omega
  subst e
  rw[xg a2 b2 (λx=>⟨λk=> ?_,λk=> ?_⟩)]
  ·rcases aaq.1 ((h x).1 (aai _ k))with e|q
   ·have:=a1 x k;omega
   ·exact q
  ·rcases aaq.1 ((h x).2 (aai _ k))with e|q
   ·have:=b1 x k;omega
   ·exact q
theorem Iu.nodup {l:List Int} (h:Iu l):l.Nodup:=h.imp (λh e=>by omega)
def t6:List Int→Int→List Int
 |[],m=>[m]
 |x::xs,m=>if x<m then x::t6 xs m else if x=m then x::xs else m::x::xs
theorem vw {m x:Int}:∀{l:List Int},x∈t6 l m↔x∈l∨x=m
 |[]=>by simp[t6]
 |y::ys=>by
  rw[t6]
  split
  ·rw[aaq,vw,aaq,or_assoc]
  ·split
   ·rename_i h;subst h
    exact⟨.inl,λh=>h.elim _root_.id λe=>by rw[e];exact aab ..⟩
   ·rw[aaq]
    exact⟨λh=>h.elim .inr .inl,λh=>h.elim .inr .inl⟩
theorem BQ {m:Int}:∀{l:List Int},Iu l→Iu (t6 l m)
 |[],_=>List.pairwise_singleton _ _
 |y::ys,h=>by
  obtain⟨h1,h2⟩:=aaW.1 h
  rw[t6]
  split
  ·refine aaW.2 ⟨λz hz=> ?_,BQ h2⟩
   rcases vw.1 hz with hz|rfl
   ·exact h1 z hz
   ·assumption
  ·split
   ·exact h
   ·refine aaW.2 ⟨λz hz=> ?_,h⟩
    rcases aaq.1 hz with rfl|hz
    ·omega
    ·have:=h1 z hz;omega
theorem J8 (l:List Int) (m:Int):(t6 l m).length≤l.length+1:=by
 induction l with
 |nil=>exact am _
 |cons x xs ih=>
  rw[t6]
  split
  ·simp only[aak];omega
  ·split<;>simp
def Cr (l:List Int):Nat→List Int
 |0=>[]
 |k+1=>t6 (Cr l k) (l.getD k 0)
def P8 (l:List Int):List Int:=Cr l l.length
theorem Fm (l:List Int):∀k,Iu (Cr l k)
 |0=>List.Pairwise.nil
 |k+1=>BQ (Fm l k)
theorem FQ (l:List Int):∀k,(Cr l k).length≤k
 |0=>am _
 |k+1=>by
  have h1:=FQ l k
  have h2:=J8 (Cr l k) (l.getD k 0)
  rw[Cr];omega
theorem Fy {l:List Int} {x:Int}:∀k,k≤l.length→(x∈Cr l k↔x∈l.take k)
 |0,_=>by simp[Cr]
 |k+1,hk=>by
  rw[Cr,vw,Fy k (by omega),Hx (by omega),Z6,Z8]
theorem xV {l:List Int} {x:Int}:x∈P8 l↔x∈l:=by
 unfold P8
 rw[Fy _ (am _),aan]
theorem Di (l:List Int):Iu (P8 l):=Fm l _
theorem QN (l:List Int):(P8 l).length≤l.length:=FQ l _
theorem Vn {l a:List Int} (h:Iu a) (hm:∀x,x∈a↔x∈l):a=P8 l:=xg h (Di l) λx=>by rw[hm,xV]
theorem Ag {l:List Int} (h:l.Nodup):(P8 l).length=l.length:=by
 have key:∀{l1 l2:List Int},l1.Nodup→(∀x,x∈l1→x∈l2)→l1.length≤l2.length:=by
  intro l1
  induction l1 with
  |nil=>intro l2 _ _;exact my _
  |cons x xs ih=>
   intro l2 hn hs
   obtain⟨h1,h2⟩:=List.nodup_cons.1 hn
   have hx:=hs x (aab ..)
   have:=ih (l2:=l2.erase x) h2 (λy hy=>(List.mem_erase_of_ne (λ(e:y=x)=>h1 (e▸hy))).2 (hs y (aai _ hy)))
   rw[abr hx]at this
   have hp:=aaG hx
   rw[aak];omega
 have h1:=key h (λx hx=>xV.2 hx)
 have h2:=QN l
 omega
def lW (ns:List Nd) (f:Nat):List Int:=P8 ((dr ns f).map λx:Nat=>(x:Int))
theorem oY {ns:List Nd} {f:Nat} {x:Int}:x∈lW ns f↔∃y:Nat,y∈dr ns f∧x=(y:Int):=by
 unfold lW
 rw[xV,aag]
 exact⟨λ⟨y,h1,h2⟩=>⟨y,h1,h2.symm⟩,λ⟨y,h1,h2⟩=>⟨y,h1,h2.symm⟩⟩
theorem NC {ns:List Nd} (h:Wf ns) {f:Nat} (hf:f<ns.length+2):(lW ns f).length=(dr ns f).length:=by
 unfold lW
 rw[Ag,aaD]
 exact List.pairwise_map.2 ((jH h f hf).imp (λhne e=>hne (by omega)))
end
section
open Go Go.RowKit
structure FL (ns ns':List Nd) (c:Nat) (S:Nat→Prop) (id:Nat):Prop where
 v:id<ns'.length+2
 mem:∀x,x∈dr ns' id↔S x
 pre:ns<+:ns'
 cost:ns'.length≤ns.length+c
theorem jY.valid {ns ns':List Nd} {R c l:Nat} {S:Nat→Prop} {id:Nat} {er:Int} (g:jY ns ns' R c l S id er):id<ns'.length+2:=by
 rcases g.res with ⟨_,h2,_⟩|⟨_,h2,_⟩<;>omega
theorem FL.old {ns ns':List Nd} {c:Nat} {S:Nat→Prop} {id f:Nat} (g:FL ns ns' c S id) (h:f<ns.length+2):f<ns'.length+2∧dr ns' f=dr ns f:=⟨by have:=fX g.pre;omega,gM g.pre h⟩
theorem Np {ns ns':List Nd} (h:Wf ns') {id a b:Nat} (hid:id<ns'.length+2) (hs:∀x,x∈dr ns' id→x∈dr ns a∨x∈dr ns b):(dr ns' id).length≤(dr ns a).length+(dr ns b).length:=by
 have:=jt (l2:=dr ns a++dr ns b) (jH h id hid) (λx hx=>Z6.2 (hs x hx))
 rwa [An]at this
def Gc (T:TypeId) (w:World) (v:Value) (l:List Int):Prop:=l≠[]→∃c fr,w.heap[uc v]? =some (.cells c T fr)
section
variable {T Ta Tn:TypeId} {N ba bm R:Nat} {w w':World} {v:Value} {l:List Int} {ns:List Nd}
theorem Gc.own (h:cD dJ 1 T w N v l):Gc T w v l:=λhne=>by
 obtain⟨h1,h2|⟨g,cap,cur,h3,hg,hh,r⟩⟩:=h
 ·exact absurd (aar h2.2) hne
 ·subst h3
  exact⟨_,_,hh⟩
theorem Gc.ext (h:dz w w') (k:Gc T w v l):Gc T w' v l:=λhne=>by
 obtain⟨c,fr,hc⟩:=k hne
 exact⟨c,fr,by rw[Below.block h _ (gf hc)];exact hc⟩
theorem acE (D:fC Ta Tn N ba bm R w ns) (hx:Dx Tn N [ba,bm] w w') (k:Gc T w v l) (hTa:T≠Ta) (hTn:T≠Tn) (hne:l≠[]):w'.heap[uc v]? =w.heap[uc v]? :=by
 obtain⟨c,fr,hc⟩:=k hne
 obtain⟨nv,h1,h2⟩:=D.out
 obtain⟨f,ck,hf⟩:=D.hm
 refine hx.block _ (gf hc) (.inr ⟨?_,λc' fr' e=> ?_⟩)
 ·have n1:uc v≠ba:=λe=>by
   have h3:w.heap[ba]? =_:=h1
   rw[e,h3]at hc
   simp only[Option.some.injEq,Obj.cells.injEq]at hc
   exact hTa hc.2.1.symm
  have n2:uc v≠bm:=λe=>by rw[e,hf.heap]at hc;cases hc
  simp[n1,n2]
 ·rw[hc]at e
  simp only[Option.some.injEq,Obj.cells.injEq]at e
  exact hTn e.2.1
theorem Gc.dx (D:fC Ta Tn N ba bm R w ns) (hx:Dx Tn N [ba,bm] w w') (k:Gc T w v l) (hTa:T≠Ta) (hTn:T≠Tn):Gc T w' v l:=λhne=>by
 rw[acE D hx k hTa hTn hne]
 exact k hne
theorem dh.dx (D:fC Ta Tn N ba bm R w ns) (hx:Dx Tn N [ba,bm] w w') (k:Gc T w v l) (hs:dh dJ 1 w v l) (hTa:T≠Ta) (hTn:T≠Tn):dh dJ 1 w' v l:=by
 have hs':Sl w 1 v l.length (l.flatMap dJ):=hs
 refine⟨hs'.form,hs'.len,λj u hu=> ?_⟩
 have hne:l≠[]:=λe=>by subst e;simp at hu
 have h1:=hs'.cell j u hu
 have e:=acE D hx k hTa hTn hne
 unfold World.cell? at h1 ⊢
 rw[e];exact h1
theorem Gc.part (k:Gc T w v l) (hs:dh dJ 1 w v l) {i j m:Nat} {l2:List Int} (hj:j≤m) (hl:l2.length=j-i) (hl0:l2≠[]→l≠[]):Gc T w (fP 1 v i j m) l2:=λhne=>by
 obtain⟨c,fr,hc⟩:=k (hl0 hne)
 have hpos:0<l2.length:=abz.2 hne
 have hmi:¬m=i:=by omega
 obtain⟨hv,hn,h0,ha⟩:=Sl.eqv hs
 cases hA:CL v with
 |none=>
  have:=h0 hA
  have:l=[]:=aar (by omega)
  exact absurd this (hl0 hne)
 |some a=>
  have hb:uc (fP 1 v i j m)=uc v:=by
   have e1:uc v=a.block:=by rw[hv,hA];rfl
   rw[e1]
   unfold fP
   rw[if_neg hmi,hA]
   show (a.add (i*1)).block=a.block
   unfold Addr.add
   split<;>rfl
  rw[hb]
  exact⟨c,fr,hc⟩
end
def N8 (F G:List Int) (b:Bool):List Int:=F.filter λx=>decide (x∈G)==b
theorem GY {l:List Int} (h:Iu l) (p:Int→Bool):Iu (l.filter p):=List.Pairwise.filter p h
def YJ (l:List Int) (i k:Nat):Bool:=(List.range k).all λq=>decide (q=i)|| !decide (((l.getD i 0).toNat ||| (l.getD q 0).toNat:Nat)=(l.getD i 0).toNat)
def uL (l:List Int) (k:Nat):List Int:=((List.range k).filter λi=>YJ l i l.length).map λi=>l.getD i 0
theorem Wl {ns:List Nd} {a:Nat} {f:List Int} (hf:CE f=true) (hm:∀x,x∈dr ns a↔bS f 0 x):lW ns a=P8 f:=by
 unfold lW
 refine Vn (Di _) λx=> ?_
 rw[xV,aag]
 have h0:=sf.1 hf
 constructor
 ·rintro⟨y,hy,rfl⟩
  obtain⟨m,h1,h2⟩:=(hm y).1 hy
  rw[Be]at h2
  have:=h0 m h1
  rw[h2,Int.toNat_of_nonneg this.1];exact h1
 ·intro h
  have:=h0 x h
  exact⟨x.toNat,(hm _).2 ⟨x,h,(Be _).symm⟩,Int.toNat_of_nonneg this.1⟩
theorem ue (ns:List Nd) (a:Nat):Iu (lW ns a):=Di _
theorem tM {ns:List Nd} {b y:Nat}:((y:Nat):Int)∈lW ns b↔y∈dr ns b:=by
 rw[oY]
 exact⟨λ⟨z,h1,h2⟩=>by rw[show y=z by omega];exact h1,λh=>⟨y,h,rfl⟩⟩
theorem VT {ns ns':List Nd} {a b u:Nat} {F G:List Int} (ha:lW ns a=F) (hb:lW ns b=G) (hu:∀x,x∈dr ns' u↔vl.res (M ns a) (M ns b) x):lW ns' u=N8 F G false:=by
 subst ha hb
 refine xg (ue _ _) (GY (ue _ _) _) λx=> ?_
 unfold N8
 rw[aaN,oY]
 constructor
 ·rintro⟨y,hy,rfl⟩
  obtain⟨h1,h2⟩:=(hu y).1 hy
  exact⟨tM.2 h1,by rw[decide_eq_false (λk=>h2 (tM.1 k))];rfl⟩
 ·rintro⟨h1,h2⟩
  obtain⟨y,hy,rfl⟩:=oY.1 h1
  have h3:¬((y:Nat):Int)∈lW ns b:=by simpa using h2
  exact⟨y,(hu y).2 ⟨hy,λk=>h3 (tM.2 k)⟩,rfl⟩
theorem VR {ns ns':List Nd} {a u:Nat} {F:List Int} (ha:lW ns a=F) (hu:∀x,x∈dr ns' u↔ZR (M ns a) x):lW ns' u=uL F F.length:=by
 subst ha
 have hi:=ue ns a
 have hil:Iu (uL (lW ns a) (lW ns a).length):=by
  unfold uL
  rw[Iu,List.pairwise_map]
  refine List.Pairwise.filter _ ?_
  refine List.Pairwise.imp_of_mem (λ{i k} h1 h2 h3=> ?_) List.pairwise_lt_range
  have h4:=aam.1 h1
  have h5:=aam.1 h2
  have:=aa2.1 hi i k h4 h5 h3
  rw[me,me,th h4,th h5]
  exact this
 refine xg (ue _ _) hil λx=> ?_
 unfold uL
 rw[oY,aag]
 have hg:∀q,q<(lW ns a).length→∃z:Nat,z∈dr ns a∧(lW ns a).getD q 0=(z:Int):=λq hq=>oY.1 (dy hq)
 constructor
 ·rintro⟨y,hy,rfl⟩
  obtain⟨h1,h2⟩:=(hu y).1 hy
  obtain⟨i,hi2,e⟩:=abV (tM.2 h1)
  have e2:(lW ns a).getD i 0=(y:Int):=by rw[me,th hi2];exact e
  refine⟨i,aaN.2 ⟨aam.2 hi2,?_⟩,e2⟩
  unfold YJ
  rw[aaj]
  intro q hq
  have hq:=aam.1 hq
  obtain⟨z,hz,ez⟩:=hg q hq
  by_cases hqi:q=i
  ·rw[decide_eq_true hqi];rfl
  ·rw[decide_eq_false hqi,Bool.false_or,e2,ez,so,so]
   rw[decide_eq_false]
   ·rfl
   ·intro hh
    have h3:=h2 z hz hh
    subst h3
    have hne:=hi.nodup
    have:(lW ns a)[q]=(lW ns a)[i]:=by
     rw[me,th hq]at ez
     exact(show (lW ns a)[q]=(z:Int) from ez).trans e.symm
    exact hqi ((List.getElem_inj hne).1 this)
 ·rintro⟨i,h,rfl⟩
  obtain⟨h1,h2⟩:=aaN.1 h
  have h1:=aam.1 h1
  obtain⟨y,hy,ey⟩:=hg i h1
  refine⟨y,(hu y).2 ⟨hy,λz hz hh=> ?_⟩,ey⟩
  obtain⟨q,hq,e⟩:=abV (tM.2 hz)
  have e2:(lW ns a).getD q 0=(z:Int):=by rw[me,th hq];exact e
  unfold YJ at h2
  have h3:=aaj.1 h2 q (aam.2 hq)
  rw[ey,e2,so,so,aaU]at h3
  rcases h3 with h3|h3
  ·have:=of_decide_eq_true h3
   subst this
   rw[ey]at e2;omega
  ·have:¬(y ||| z:Nat)=y:=by simpa using h3
   exact absurd hh this
theorem MG {ns:List Nd} (h:Wf ns) {a b:Nat} (ha:a<ns.length+2) (hb:b<ns.length+2):decide ((a:Int)=(b:Int))=decide (lW ns a=lW ns b):=by
 by_cases e:a=b
 ·subst e;rw[decide_eq_true rfl,decide_eq_true rfl]
 ·rw[decide_eq_false (by omega),decide_eq_false]
  intro hs
  exact e (NT h a ha b hb λx=>by rw[←tM,←tM,hs])
end
section
open Go Go.RowKit
structure Is (ns:List Nd) (a:Nat) (F:List Int):Prop where
 v:a<ns.length+2
 s:lW ns a=F
section
variable {ns ns':List Nd} {a b id R c l:Nat} {A B f g:List Int} {er:Int}
theorem Is.pre (h:Is ns a A) (p:ns<+:ns'):Is ns' a A:=by
 have e:=h.s
 refine⟨by have:=fX p;have:=h.v;omega,?_⟩
 unfold lW at e ⊢
 rw[gM p h.v]
 exact e
theorem Is.len (h:Is ns a A) (hw:Wf ns):(dr ns a).length=A.length:=by rw[←h.s,NC hw h.v]
theorem Is.cnt (h:Is ns a A) (hw:Wf ns):UU ns (a:Int)=(A.length:Int):=by
 rw[←h.len hw]
 exact Oi h.v
theorem Is.same (h:Is ns a A) (k:Is ns b B) (hw:Wf ns):decide ((a:Int)=(b:Int))=decide (A=B):=by rw[MG hw h.v k.v,h.s,k.s]
theorem Is.item (h:Is ns a A):∀x,x∈A→0≤x:=λx hx=>by
 rw[←h.s]at hx
 obtain⟨y,_,rfl⟩:=oY.1 hx
 omega
theorem FL.of (q:FL ns ns' c (bS f 0) id) (hf:CE f=true):Is ns' id (P8 f):=⟨q.v,Wl hf q.mem⟩
theorem FL.le (q:FL ns ns' c (vl.res (M ns a) (M ns b)) id) (ha:Is ns a A) (hb:Is ns b B):Is ns' id (N8 A B false):=⟨q.v,VT ha.s hb.s q.mem⟩
theorem FL.ls (q:FL ns ns' c (ZR (M ns a)) id) (ha:Is ns a A):Is ns' id (uL A A.length):=⟨q.v,VR ha.s q.mem⟩
end
section
variable {ns ns':List Nd} {a b id R c l n:Nat} {A B f g:List Int} {er:Int}
theorem TT {ok:Bool} {S:Nat→Prop} (q:(ok=true∧jY ns ns' R c l S id er)∨(ok=false∧ns'=ns∧id=0∧er=1)) (h:ok=true):jY ns ns' R c l S id er:=by
 rcases q with q|q
 ·exact q.2
 ·rw[h]at q;exact absurd q.1 (by decide)
theorem Ua {j:Nat} (hj:j<24):CE [((2^j:Nat):Int)]=true:=sf.2 λm hm=>by
 rw[Z8.1 hm]
 have h1:2^j≤8388608:=by have:=aaf (show 0<2 by decide) (show j≤23 by omega);simpa using this
 have h2:=aaz j
 omega
end
theorem Gj (u0 u1 u2:Value) (z:Array Value) (h0:u0.cells= #[u0]) (h1:u1.cells= #[u1]) (h2:u2.cells= #[u2]) (hz:z.size=3):Instr.fill (λi=>some (i*1,1)) z [(0,u0),(1,u1),(2,u2)]=some #[u0,u1,u2]:=by
 rw[gR 1 0 u0 _ z (by rw[h0];rfl) (by omega),gR 1 1 u1 _ _ (by rw[h1];rfl) (by simp[h0];omega),gR 1 2 u2 _ _ (by rw[h2];rfl) (by simp[h0,h1];omega),Instr.fill,h0,h1,h2]
 obtain⟨l⟩:=z
 match l,hz with
 |[a,b,c],_=>simp
section
variable {P:Program} {f:Nat→Value} {w w':World} {d:Option Nat} {ty:TypeId} {ps:String} {af:Array Edge} {g:Option (Nat×Bool)} {t e T:TypeId} {by_ N sz b:Nat} {K:Value→World→Prop}
theorem UK {x0 x1 x2:Operand} {u0 u1 u2:Value} (hx0:dg f x0=u0) (hx1:dg f x1=u1) (hx2:dg f x2=u2) (hT:fj P t=some (e,1,by_)) (hz:(dT P e).map (λz=>z.cells.size)=some 1) (h0:u0.cells= #[u0]) (h1:u1.cells= #[u1]) (h2:u2.cells= #[u2])
  (hK:∀b w',b=w.heap.size→dz w w'→At w' b #[u0,u1,u2] e→K (.slice (some ⟨b,0,none⟩) 3 3) w'):Yd P ⟨d, .buildSlice t 3 #[(0,x0),(1,x1),(2,x2)],ty,ps,af,g⟩ f w K:=by
 obtain⟨z,hz,hzs⟩:=go.1 hz
 unfold dT at hz
 obtain⟨i,hi,hzz⟩:=Do.1 hz
 unfold fj at hT
 cases hun:P.underlying t with
 |none=>simp[hun]at hT
 |some desc=>
  cases desc<;>simp[hun]at hT
  rename_i e'
  obtain⟨i',hi',rfl,q1,rfl⟩:=hT
  obtain rfl:i'=i:=by rw[hi]at hi';exact(Z9 hi').symm
  refine .val (w':=w.alloc (.cells #[u0,u1,u2] e')) ?_ (hK w.heap.size _ rfl (dz.alloc w _) (mz w _ _))
  have hf:=Gj u0 u1 u2 ((Array.range (3*1)).map (z.cells[·%z.cells.size]!)) h0 h1 h2 gj
  simp only[abB]at hf
  simp[execOp,hx0,hx1,hx2,Instr.buildSlice,run_underlying hun,sizeOf,typeInfo,hi,q1,zeroValue,hzz,newRow,hf]
end
end
end
section
open Go Go.RowKit
def NS (Q:Exit→(Nat→Value)→World→Prop):Exit→(Nat→Value)→World→Prop
 | .goto _=>λ_ _=>False
 |e=>Q e
section
variable {P:Program} {n:Nat} {Q Q':Exit→(Nat→Value)→World→Prop} {f:Nat→Value} {w:World}
theorem EM {c:Code} (h:WC P n c (NS Q) f w):WC P n (.scope c) Q f w:=by
 refine⟨λa ha=>wp_scope_straight (Code.wp_mono (λe a' w' hq=> ?_) (h.out a ha))⟩
 obtain⟨f',hr,hq⟩:=hq
 cases e with
 |goto l=>exact hq.elim
 |_=>exact⟨f',hr,hq⟩
theorem Et {l:Nat} (h:Q .normal f w):WC P n (.label l) Q f w:=⟨λ_ ha=>wp_label ⟨f,ha,h⟩⟩
instance retQ_scope [h:DO Q Q']:DO (NS Q) Q':=⟨λf w q=>h.out f w q⟩
end
theorem Sr {P:Program} {f:Nat→Value} {w:World} {t u s k b:Nat} {T T':TypeId} {c:Array Value} {v v2:Value} {Post:Value→World→Prop} (h:f t=v) (h1:f u= .pointer (some ⟨b,0,none⟩)) (hT:j8 P T=some k) (hm:At w b c T') (hk:k=c.size) (h2:f s=v2) (hp:Post (.tuple #[v, .agg c,v2]) w):mt P #[.tmp t, .cell u T, .tmp s] Post .ret f w:=by
 refine⟨_,λtmps fn ht hr=> ?_,hp⟩
 have e:=ht t
 have e1:=ht u
 have e2:=ht s
 rw[h]at e
 rw[h1]at e1
 rw[h2]at e2
 have hl:=nc (hk▸hT) hm
 simp only[aaX]at e e1 e2
 simp[results,hr,e,e1,e2,asAddr,hl]
def Wo (bm bt q1 q2 q3:Nat):List Value:=[.func (.func q1) #[] #[.pointer (some ⟨bm,0,none⟩), .pointer (some ⟨bt,0,none⟩)], .func (.func q2) #[] #[.pointer (some ⟨bm,0,none⟩)], .func (.func q3) #[] #[.pointer (some ⟨bm,0,none⟩)]]
def YC (q1 q2 q3:Nat):Nat→Nat
 |0=>q1
 |1=>q2
 |_=>q3
def Yx (bm bt:Nat):Nat→Array Value
 |0=> #[.pointer (some ⟨bm,0,none⟩), .pointer (some ⟨bt,0,none⟩)]
 |_=> #[.pointer (some ⟨bm,0,none⟩)]
theorem Rz {bm bt q1 q2 q3 i:Nat} (hi:i<3):(Wo bm bt q1 q2 q3).getD i undef= .func (.func (YC q1 q2 q3 i)) #[] (Yx bm bt i):=by
 match i,hi with
 |0,_=>rfl
 |1,_=>rfl
 |2,_=>rfl
theorem Z1 {P:Program} {q1 q2 q3 i:Nat} (h1:cX P q1=true) (h2:cX P q2=true) (h3:cX P q3=true):cX P (YC q1 q2 q3 i)=true:=by
 match i with
 |0=>exact h1
 |1=>exact h2
 |_+2=>exact h3
end
section
open Go Go.RowKit
theorem nB {L:ML} {k:Nat}:jz L k=true↔∀i,i<k→0<(L.getD i []).length:=by
 unfold jz
 rw[aaj]
 exact⟨λh i hi=>of_decide_eq_true (h i (aam.2 hi)),λh i hi=>decide_eq_true (h i (aam.1 hi))⟩
theorem WI {L:ML} {k:Nat} (hk:k<L.length) (h:((L.getD k []).length:Int)=0):Value.bool false= .bool (jz L L.length):=w7 λe=>by
 have:=nB.1 e k hk
 omega
theorem Xl {L:ML} {k:Nat} (hk:k=L.length) (h:∀q,q<k→¬((L.getD q []).length:Int)=0):Value.bool true= .bool (jz L L.length):=LT (nB.2 λi hi=>by
 have:=h i (by omega)
 omega)
theorem S5 {L:ML} {i j:Nat} (hj:j<(L.getD i []).length) (h:(iy (fp (Aa L i)) ((L.getD i []).getD j 0)).getD false=true):EX (Aa L i) (L.getD i [])=true:=aaO.2 ⟨_,dy hj,decide_eq_true (uf h)⟩
theorem UG {L:ML} {i j:Nat} (hj:j=(L.getD i []).length) (h:∀q,q<j→(iy (fp (Aa L i)) ((L.getD i []).getD q 0)).getD false=false):¬EX (Aa L i) (L.getD i [])=true:=λe=>by
 obtain⟨c,h1,h2⟩:=aaO.1 e
 obtain⟨q,hq,rfl⟩:=eZ (d:=0) h1
 exact qR (h q (by omega)) (of_decide_eq_true h2)
theorem Yo {L:ML} {k:Nat} (h:EX (Aa L k) (L.getD k [])=true):Aa L (k+1)=Aa L k:=if_pos h
theorem WE {L:ML} {k:Nat} (h:¬EX (Aa L k) (L.getD k [])=true):Aa L (k+1)=qs (Aa L k) (L.getD k []) (L.getD k []).length:=if_neg h
theorem Xm {L:ML} {k:Nat} (h:EX (Aa L k) (L.getD k [])=true):Value.int .i64 (FI L k:Int)= .int .i64 (FI L (k+1):Int):=by rw[FI,if_pos h]
theorem Xa {L:ML} {k:Nat} (h:¬EX (Aa L k) (L.getD k [])=true):Value.int .i64 ((FI L k:Int)+1)= .int .i64 (FI L (k+1):Int):=by rw[FI,if_neg h];rfl
theorem GV (L:ML):∀k,FI L k≤k
 |0=>am _
 |k+1=>by
  have:=GV L k
  rw[FI]
  split<;>omega
theorem YZ {r:List Int} {c:Int} {j:Nat} (h:c∈r.take j):Value.bool true= .bool (decide (c∈r.take (j+1))):=LT (decide_eq_true (by rw[aaH];exact Z6.2 (.inl h)))
theorem Y7 {r:List Int} {c:Int} {j:Nat} (hj:j<r.length) (h:¬c∈r.take j):Value.bool (decide (r.getD j 0=c))= .bool (decide (c∈r.take (j+1))):=by
 congr 1
 rw[decide_eq_decide,aaH,Z6,th hj,me,th hj]
 simp only[Option.getD_some,Option.toList_some,Z8]
 exact⟨λe=> .inr e.symm,λe=>(e.resolve_left h).symm⟩
structure z7 (L:ML) (i M:Nat) (l:List (Int×Int)):Prop where
 nd:(l.map (·.1)).Nodup
 inl:∀c,c∈l.map (·.1)→rJ L c
 lim:∀p,p∈l→0≤p.2∧p.2≤M
 ne:∀k,k<i→0<(L.getD k []).length→l≠[]
section
variable {L:ML} {i j M:Nat} {l:List (Int×Int)} {c:Int}
theorem z7.nil:z7 L 0 0 []:=⟨List.nodup_nil,λc h=>(by cases h),λp h=>(by cases h),λk hk=>(by cases hk)⟩
theorem z7.mono {M':Nat} (h:z7 L i M l) (hM:M≤M'):z7 L i M' l:=⟨h.nd,h.inl,λp hp=>⟨(h.lim p hp).1,by have:=(h.lim p hp).2;omega⟩,h.ne⟩
theorem z7.get (h:z7 L i M l) (c:Int):0≤(iy l c).getD 0∧(iy l c).getD 0≤M:=by
 cases e:iy l c with
 |none=>exact⟨Int.le_refl _,Int.natCast_nonneg _⟩
 |some v=>exact h.lim (c,v) ((nx h.nd).1 e)
theorem KK {α β:Type} [DecidableEq α] {l:List (α×β)} {c:α} {v:β} {p:α×β} (h:p∈iz l c v):p=(c,v)∨p∈l:=by
 unfold iz at h
 split at h
 ·obtain⟨q,hq,e⟩:=aag.1 h
  split at e
  ·exact .inl e.symm
  ·rw[←e];exact .inr hq
 ·rcases Z6.1 h with k|k
  ·exact .inr k
  ·exact .inl (Z8.1 k)
theorem Jj {v:Int}:iz l c v≠[]:=λe=>by
 have:=kX l c v
 rw[e]at this
 have h2:c∈ja (l.map (·.1)) c:=gt.2 (.inr rfl)
 rw[←this]at h2
 cases h2
theorem z7.put (h:z7 L i M l) (hi:i<L.length) (hj:j<(L.getD i []).length):z7 L i (M+1) (iz l ((L.getD i []).getD j 0) ((iy l ((L.getD i []).getD j 0)).getD 0+1)):=by
 refine⟨?_,λc hc=> ?_,λp hp=> ?_,λk _ _=>Jj⟩
 ·rw[kX];exact jO h.nd _
 ·rw[kX]at hc
  rcases gt.1 hc with k|rfl
  ·exact h.inl c k
  ·exact⟨_,dy (d:=[]) hi,dy hj⟩
 ·rcases KK hp with rfl|k
  ·have:=h.get ((L.getD i []).getD j 0)
   exact⟨by dsimp only;omega,by dsimp only;omega⟩
  ·have:=h.lim p k
   exact⟨this.1,by omega⟩
theorem z7.next {M':Nat} (h:z7 L i M l) (hn:0<(L.getD i []).length→l≠[]) (hM:M≤M'):z7 L (i+1) M' l:=⟨h.nd,h.inl,λp hp=>⟨(h.lim p hp).1,by have:=(h.lim p hp).2;omega⟩,λk hk hkl=>by
 rcases aac.1 hk with q|rfl
 ·exact h.ne k q hkl
 ·exact hn hkl⟩
def Yh (L:ML) (seen:List Int) (b:Int):Prop:=(seen=[]∧b= -1)∨(0≤b∧rJ L b)
theorem GM {n v:Int} {seen:List Int} (hr:dN n L=true) (h:z7 L i M l) (hc:(c,v)∈l):Yh L (c::seen) c:=
 have q:=h.inl c (aag.2 ⟨_,hc,rfl⟩)
 .inr ⟨(ry hr q).1,q⟩
theorem OU {seen:List Int} {b:Int} (h:Yh L seen b) (hb:¬b<0):Yh L (c::seen) b:= .inr (h.resolve_left λq=>by have:=q.2;omega)
theorem VH {seen:List Int} {b:Int} (h:Yh L seen b) (hu:z7 L i M l) (hi:i=L.length) (hs:∀p,p∈l→p.1∈seen) (hk:∃k,k<L.length∧0<(L.getD k []).length):rJ L b:=by
 obtain⟨k,hk,hl⟩:=hk
 rcases h with ⟨rfl,_⟩|h
 ·have:=hu.ne k (by omega) hl
  match l,this,hs with
  |p::_,_,hs=>cases hs p (aab ..)
 ·exact h.2
end
theorem G7 {a b:List Int} (h:∀c,c∈a↔c∈b) (k:Nat):lg a k=lg b k:=by
 unfold lg
 congr 1
 exact List.filter_congr λc _=>decide_eq_decide.2 (h c)
theorem Qr (l:List Int) (k:Nat):lg (qs [] l l.length) k=lg l k:=G7 (λc=>by
 rw[qN _ (am _),aan]
 simp) k
structure Pu (n:Int) (L0 L:ML) (out:List Int):Prop where
 r:dN n L=true
 full:jz L L.length=true
 up:∀X,nM L X→nM L0 (out++X)
 len:out.length+L.length≤L0.length
theorem acK {n:Int} {L:ML} (hr:dN n L=true) (hf:jz L L.length=true):Pu n L L []:=⟨hr,hf,λX h=>h,by simp⟩
theorem yp {L:ML}:jz L L.length=true↔∀r,r∈L→r≠[]:=by
 rw[nB]
 constructor
 ·intro h r hr
  obtain⟨j,hj,rfl⟩:=eZ (d:=[]) hr
  exact λe=>by have:=h j hj;rw[e]at this;cases this
 ·intro h i hi
  exact abz.2 (h _ (dy hi))
theorem Pu.inl {n c:Int} {L0 L:ML} {out:List Int} (h:Pu n L0 L out) (hp:(L.length:Int)>0) (hb:(∃k,k<L.length∧0<(L.getD k []).length)→rJ L c):rJ L c:=
 hb ⟨0,by omega,nB.1 h.full 0 (by omega)⟩
theorem Pu.next {n c:Int} {L0 L:ML} {out:List Int} (h:Pu n L0 L out) (hc:rJ L c):Pu n L0 (sQ L c) (out++[c]):=by
 refine⟨zj h.r c,yp.2 λr hr=>yp.1 h.full r (oC.1 hr).1,λX hX=> ?_,?_⟩
 ·rw[aav]
  exact h.up _ (Gv hX)
 ·have:=A4 hc
  have:=h.len
  rw[An,aaC];omega
theorem Pu.fin {n:Int} {L0 L:ML} {out:List Int} (h0:dN n L0=true) (h:Pu n L0 L out) (hp:¬(L.length:Int)>0):nM L0 (lg out n.toNat):=by
 have:L=[]:=aar (by omega)
 subst this
 have h2:=h.up [] (JF _)
 rw[aaT]at h2
 exact ra h0 h2
end
section
open Go Go.RowKit
structure EF where
 n:Int
 rv:Value
 tv:Value
def CR:EF:=⟨0,undef,undef⟩
def Gu (x:EF):List Value:=[.int .i64 x.n,x.rv,x.tv]
theorem tY:∀a,(Gu a).length=3:=λ_=>rfl
abbrev Gs:=ML×List Int
def mJ:Gs:=([],[])
structure ii (TV TI:TypeId) (W:World) (xs:List EF) (st:List Gs):Prop where
 len:xs.length=st.length
 mx:∀k,k<st.length→∃vs,cD encV 1 TV W 0 (xs.getD k CR).rv vs∧LO TI 0 W vs (st.getD k mJ).1
 ch:∀k,k<st.length→cD dJ 1 TI W 0 (xs.getD k CR).tv (st.getD k mJ).2
section
variable {TV TI T':TypeId} {W W':World} {xs:List EF} {st:List Gs} {N':Nat}
theorem ii.map (h:ii TV TI W xs st) (f:∀(α:Type) (enc:α→List Value) (T:TypeId) (v:Value) (l:List α),T=TV∨T=TI→cD enc 1 T W 0 v l→cD enc 1 T W' 0 v l):ii TV TI W' xs st:=
 ⟨h.len,λk hk=>by
  obtain⟨vs,h1,h2⟩:=h.mx k hk
  exact⟨vs,f _ _ _ _ _ (.inl rfl) h1,h2.len,λi hi=>f _ _ _ _ _ (.inr rfl) (h2.get i hi)⟩,λk hk=>f _ _ _ _ _ (.inr rfl) (h.ch k hk)⟩
theorem ii.ext (hE:dz W W') (h:ii TV TI W xs st):ii TV TI W' xs st:=h.map λ_ _ _ _ _ _ k=>hE.ow k
theorem ii.below {w:World} (hB:Below w.heap.size w W) (h:ii TV TI w xs st):ii TV TI W xs st:=h.map λ_ _ _ _ _ _ k=>Below.ow hB k
theorem ii.grownAt {b:Nat} {c:Array Value} (h:ii TV TI W xs st) (hm:At W b c T') (hG:W.grownBy W' (some b)) (h1:T'≠TV) (h2:T'≠TI):ii TV TI W' xs st:=
 h.map λ_ _ _ _ _ hT k=>k.grownAt hm hG (by rcases hT with rfl|rfl<;>assumption)
theorem ii.grownMap {α β:Type} {enc:α→Value} {ev:β→Value} {b:Nat} {l:List (α×β)} (h:ii TV TI W xs st) (hm:du enc ev W b l) (hG:W.grownBy W' (some b)):ii TV TI W' xs st:=
 h.map λ_ _ _ _ _ _ k=>k.grownMap hm hG
theorem ii.grownOw {α:Type} {enc:α→List Value} {sz:Nat} {v:Value} {l:List α} (h:ii TV TI W xs st) (hv:cD enc sz T' W N' v l) (hG:W.grownBy W' v.ownBlock) (h1:T'≠TV) (h2:T'≠TI):ii TV TI W' xs st:=
 h.map λ_ _ _ _ _ hT k=>k.grownOw hv hG (by rcases hT with rfl|rfl;exact h1.symm;exact h2.symm)
theorem pt {α:Type} {a b:List α} {d:α} {i:Nat} (h:i<a.length):(a++b).getD i d=a.getD i d:=by
 grind
theorem oe {α:Type} {a:List α} {x d:α}:(a++[x]).getD a.length d=x:=by
 grind
theorem jj {α:Type} {l:List α} {d:α} {i k:Nat} (h:i<k):(l.take k).getD i d=l.getD i d:=by
 grind
theorem ii.take (h:ii TV TI W xs st) (k:Nat):ii TV TI W (xs.take k) (st.take k):=by
 refine⟨by rw[aal,aal,h.len],λi hi=> ?_,λi hi=> ?_⟩
 ·rw[aal]at hi
  rw[jj (by omega),jj (by omega)]
  exact h.mx i (by omega)
 ·rw[aal]at hi
  rw[jj (by omega),jj (by omega)]
  exact h.ch i (by omega)
theorem ii.snoc {x:EF} {y:Gs} {vs:List Value} (h:ii TV TI W xs st) (h1:cD encV 1 TV W 0 x.rv vs) (h2:LO TI 0 W vs y.1) (h3:cD dJ 1 TI W 0 x.tv y.2):ii TV TI W (xs++[x]) (st++[y]):=by
 refine⟨by simp[h.len],λi hi=> ?_,λi hi=> ?_⟩
 ·rw[An,aaC]at hi
  by_cases e:i<st.length
  ·rw[pt (h.len▸e),pt e];exact h.mx i e
  ·obtain rfl:i=st.length:=by omega
   rw[oe,←h.len,oe];exact⟨vs,h1,h2⟩
 ·rw[An,aaC]at hi
  by_cases e:i<st.length
  ·rw[pt (h.len▸e),pt e];exact h.ch i e
  ·obtain rfl:i=st.length:=by omega
   rw[oe,←h.len,oe];exact h3
theorem ii.one {x:EF} {y:Gs} {vs:List Value} (h1:cD encV 1 TV W 0 x.rv vs) (h2:LO TI 0 W vs y.1) (h3:cD dJ 1 TI W 0 x.tv y.2):ii TV TI W [x] [y]:=
 ii.snoc (xs:=[]) (st:=[]) ⟨rfl,λk hk=>(by cases hk),λk hk=>(by cases hk)⟩ h1 h2 h3
end
structure Lk (xs:List EF) (st:List Gs):Prop where
 r:∀k,k<st.length→dN (xs.getD k CR).n (st.getD k mJ).1=true
 l:∀k,k<st.length→(st.getD k mJ).1.length≤1000000
 c:∀k,k<st.length→k+cnt (st.getD k mJ).1≤4000
 t:∀k,k<st.length→(st.getD k mJ).2.length+4001*cnt (st.getD k mJ).1≤16004000
section
variable {xs:List EF} {st:List Gs}
theorem Lk.len (h:Lk xs st):st.length≤4001:=by
 cases e:st.length with
 |zero=>omega
 |succ k=>have:=h.c k (by omega);omega
theorem Lk.take (h:Lk xs st) (hl:xs.length=st.length) (k:Nat):Lk (xs.take k) (st.take k):=by
 refine⟨λi hi=> ?_,λi hi=> ?_,λi hi=> ?_,λi hi=> ?_⟩<;>rw[aal]at hi
 ·rw[jj (by omega),jj (by omega)];exact h.r i (by omega)
 ·rw[jj (by omega)];exact h.l i (by omega)
 ·rw[jj (by omega)];exact h.c i (by omega)
 ·rw[jj (by omega)];exact h.t i (by omega)
theorem Lk.snoc (h:Lk xs st) (hl:xs.length=st.length) {x:EF} {y:Gs} (h1:dN x.n y.1=true) (h2:y.1.length≤1000000) (h3:st.length+cnt y.1≤4000) (h4:y.2.length+4001*cnt y.1≤16004000):Lk (xs++[x]) (st++[y]):=by
 refine⟨λi hi=> ?_,λi hi=> ?_,λi hi=> ?_,λi hi=> ?_⟩<;>rw[An,aaC]at hi<;>by_cases e:i<st.length
 ·rw[pt (hl▸e),pt e];exact h.r i e
 ·obtain rfl:i=st.length:=by omega
  rw[oe,←hl,oe];exact h1
 ·rw[pt e];exact h.l i e
 ·obtain rfl:i=st.length:=by omega
  rw[oe];exact h2
 ·rw[pt e];exact h.c i e
 ·obtain rfl:i=st.length:=by omega
  rw[oe];exact h3
 ·rw[pt e];exact h.t i e
 all_goals grind
end
theorem MC (L:ML):cnt L≤4000:=by
 grind [cnt,Nat.le_trans,List.countP_le_length]
theorem acM {n:Int} {L:ML} {rv tv:Value} (hr:dN n L=true) (hl:L.length≤1000000):Lk [⟨n,rv,tv⟩] [(L,[])]:=by
 grind [MC,Lk,List.length_nil]
def WQ (ops:Array Oper) (i j:Nat):Bool:=((ops[i]?).map λo=>o.after.toList.any λe=>Region.binds .any e&&e.on==j).getD false
theorem kU {ops:Array Oper} {L:Array Bool} {i j:Nat} (h:i∈Region.ready .any ops L) (hd:WQ ops i j=true):L.getD j false=true:=by
 unfold Region.ready at h
 have h2:=(aaN.1 h).2
 rw[we]at h2
 have h3:=h2.2
 unfold WQ at hd
 grind
theorem ma {ops:Array Oper} {L:Array Bool} {i:Nat} (h:i∈Region.ready .any ops L):L.getD i false=false:=by
 unfold Region.ready at h
 grind
section
variable {P:Program} {n:Nat} {ops:Array Oper} {Q:(Nat→Value)→World→Prop} {S:World→Prop} {f0:Nat→Value}
theorem wB {A:List Nat} {L1:Array Bool} {T:List Nat} {k:Nat} (I:Array Bool→(Nat→Value)→World→Prop)
  (hstep:∀i,A.contains i=true→∀L g w,i<L.size→i∈Region.ready .any ops L→I L g w→∃oi d,ops[i]? =some oi∧fW ops (mask T f0 g) oi=true∧oi.dst=some d∧jM n (some d)=true∧oS T d=true∧
   Yd P oi (mask T f0 g) w λv w'=>(S w'∨mg ops L i=true)∧I (L.setIfInBounds i true) (upd g d v) w')
  (hfin:∀g w,I L1 g w→WT P n ops Q S k L1 (mask T f0 g) w):
  ∀(m:Nat) (Ls:List (Array Bool)),HT ops A L1 m Ls=true→∀L,L∈Ls→∀g w,I L g w→WT P n ops Q S (k+m) L (mask T f0 g) w
 |0,Ls,h,L,hL,g,w,hI=>by
  have e:L=L1:=by
   have:=aaj.1 h L hL
   exact eq_of_beq this
  subst e
  exact hfin g w hI
 |m+1,Ls,h,L,hL,g,w,hI=>by
  rw[HT,we]at h
  have h1:=aaj.1 h.1 L hL
  rw[we]at h1
  refine⟨λhsz hcl a ha=>⟨λh0=>(by rw[h0]at h1;exact absurd h1.1 (by decide)),λj hj=> ?_⟩⟩
  have hA:=aaj.1 h1.2 j hj
  have hjlt:j<L.size:=by
   obtain⟨_,oj,hoj,_⟩:=mem_ready.1 hj
   rw[hsz];exact(abC.1 hoj).1
  obtain⟨oi,d,hi,hw,hd,hok,hT,hY⟩:=hstep j hA L g w hjlt hj hI
  refine Ey (K:=λf' w'=>(S w'∨mg ops L j=true)∧WT P n ops Q S (k+m) (L.setIfInBounds j true) f' w') hi hw hd hok ha
   (λf' a' w' hr' hk=>⟨hk.1,hk.2.out (by simpa using hsz) (hcl.add hj) a' hr'⟩) (hY.mono λv w' hv=>⟨hv.1,?_⟩)
  rw[Ew hT]
  refine wB I hstep hfin m _ h.2 _ ?_ _ _ hv.2
  unfold MT
  rw[List.mem_eraseDups]
  exact abY.2 ⟨L,hL,aag.2 ⟨j,hj,rfl⟩⟩
theorem Q6 {A:List Nat} {L0 L1:Array Bool} {T:List Nat} {k m:Nat} {w:World} (I:Array Bool→(Nat→Value)→World→Prop) (hc:HT ops A L1 m [L0]=true) (h0:I L0 f0 w)
  (hstep:∀i,A.contains i=true→∀L g w,i<L.size→i∈Region.ready .any ops L→I L g w→∃oi d,ops[i]? =some oi∧fW ops (mask T f0 g) oi=true∧oi.dst=some d∧jM n (some d)=true∧oS T d=true∧
   Yd P oi (mask T f0 g) w λv w'=>(S w'∨mg ops L i=true)∧I (L.setIfInBounds i true) (upd g d v) w')
  (hfin:∀g w,I L1 g w→WT P n ops Q S k L1 (mask T f0 g) w):WT P n ops Q S (k+m) L0 f0 w:=by
 have:=wB (f0:=f0) (T:=T) I hstep hfin m [L0] hc L0 (Z8.2 rfl) f0 w h0
 rwa [Bx]at this
end
theorem Zk {L:Array Bool} {i j:Nat} (hi:i<L.size):(L.setIfInBounds i true).getD j false=if j=i then true else L.getD j false:=by
 by_cases h:j=i
 ·subst h
  rw[if_pos rfl]
  exact rq.2 (.inl ⟨rfl,hi⟩)
 ·rw[if_neg h]
  grind [rq]
structure iU (TV TI:TypeId) (wd:World) (n c:Int) (rest:ML) (vs8:List Value) (ov:Value) (out:List Int) (f3 f5 f8 f9 f11 f13 f14 f15:Bool) (u3 u5 u8 u9 u11 u13 u14 u15:Value) (W:World):Prop where
 s:dz wd W
 c5:f5=true→f3=true
 c8:f8=true→f3=true
 c11:f11=true→f8=true∧f9=true
 c14:f14=true→f11=true∧f13=true
 c15:f15=true→f14=true
 o3:f3=true→∃r vs,u3= .agg #[.int .i64 n,r]∧cD encV 1 TV W 0 r vs∧LO TI 0 W vs (pM rest c)∧(f9=true→f11=false→∀x,x∈vs→fl u9 x)∧(f11=true→f14=false→∀x,x∈vs→fl u11 x)
 o5:f5=true→∃r,u3= .agg #[.int .i64 n,r]∧u5= .agg #[.int .i64 n,r,ov]
 o8:f8=true→∃r,u8= .agg #[.int .i64 n,r]∧cD encV 1 TV W 0 r vs8
 o9:f9=true→f11=false→cD dJ 1 TI W wd.heap.size u9 ([]:List Int)
 o11:f11=true→f14=false→cD dJ 1 TI W wd.heap.size u11 out
 o13:f13=true→f14=false→cD dJ 1 TI W wd.heap.size u13 [c]∧(f9=true→f11=false→fl u9 u13)
 o14:f14=true→cD dJ 1 TI W wd.heap.size u14 (out++[c])
 o15:f15=true→∃r,u8= .agg #[.int .i64 n,r]∧u15= .agg #[.int .i64 n,r,u14]
section
variable {TV TI:TypeId} {wd W W':World} {n c:Int} {rest:ML} {vs8:List Value} {ov:Value} {out:List Int} {f3 f5 f8 f9 f11 f13 f14 f15:Bool} {u3 u5 u8 u9 u11 u13 u14 u15 v:Value} {r:Value} {vs:List Value}
theorem LO.row {N:Nat} {L:ML} {x:Value} (h:LO TI N W vs L) (hx:x∈vs):∃l,cD dJ 1 TI W N x l:=by
 obtain⟨j,hj,rfl⟩:=eZ (d:=undef) hx
 exact⟨_,h.get j (by rw[←h.len];exact hj)⟩
theorem acI (W:World):iU TV TI W n c rest vs8 ov out false false false false false false false false u3 u5 u8 u9 u11 u13 u14 u15 W:=by
 constructor<;>first|exact dz.refl _|(intro h;cases h)
theorem iU.ext (h:iU TV TI wd n c rest vs8 ov out f3 f5 f8 f9 f11 f13 f14 f15 u3 u5 u8 u9 u11 u13 u14 u15 W) (hE:dz W W'):iU TV TI wd n c rest vs8 ov out f3 f5 f8 f9 f11 f13 f14 f15 u3 u5 u8 u9 u11 u13 u14 u15 W':=
 ⟨h.s.trans hE,h.c5,h.c8,h.c11,h.c14,h.c15,λq=>by obtain⟨r,vs,a,b,c,d⟩:=h.o3 q;exact⟨r,vs,a,hE.ow b,LO.ext hE c,d⟩,h.o5,λq=>by obtain⟨r,a,b⟩:=h.o8 q;exact⟨r,a,hE.ow b⟩,
  λa b=>hE.ow (h.o9 a b),λa b=>hE.ow (h.o11 a b),λa b=>⟨hE.ow (h.o13 a b).1,(h.o13 a b).2⟩,λa=>hE.ow (h.o14 a),h.o15⟩
theorem iU.p3 (h:iU TV TI wd n c rest vs8 ov out f3 f5 f8 f9 f11 f13 f14 f15 u3 u5 u8 u9 u11 u13 u14 u15 W) (n3:f3=false) (hE:dz W W') (h1:cD encV 1 TV W' 0 r vs) (h2:LO TI W.heap.size W' vs (pM rest c)):
  iU TV TI wd n c rest vs8 ov out true f5 f8 f9 f11 f13 f14 f15 (.agg #[.int .i64 n,r]) u5 u8 u9 u11 u13 u14 u15 W':=by
 have k:=h.ext hE
 have n5:f5=true→False:=λq=>by rw[h.c5 q]at n3;cases n3
 have n8:f8=true→False:=λq=>by rw[h.c8 q]at n3;cases n3
 have n11:f11=true→False:=λq=>n8 (h.c11 q).1
 refine⟨k.s,λ_=>rfl,λ_=>rfl,k.c11,k.c14,k.c15,λ_=>⟨r,vs,rfl,h1,h2.mono (my _),λa b x hx=> ?_,λq=>(n11 q).elim⟩,λq=>(n5 q).elim,λq=>(n8 q).elim,k.o9,k.o11,k.o13,k.o14,k.o15⟩
 obtain⟨l,hl⟩:=h2.row hx
 exact fl.new (abU (h.o9 a b)) hl
theorem iU.p5 (h:iU TV TI wd n c rest vs8 ov out f3 f5 f8 f9 f11 f13 f14 f15 u3 u5 u8 u9 u11 u13 u14 u15 W) (n3:f3=true) (e:u3= .agg #[.int .i64 n,r]):
  iU TV TI wd n c rest vs8 ov out f3 true f8 f9 f11 f13 f14 f15 u3 (.agg #[.int .i64 n,r,ov]) u8 u9 u11 u13 u14 u15 W:=
 ⟨h.s,λ_=>n3,h.c8,h.c11,h.c14,h.c15,h.o3,λ_=>⟨r,e,rfl⟩,h.o8,h.o9,h.o11,h.o13,h.o14,h.o15⟩
theorem iU.p8 (h:iU TV TI wd n c rest vs8 ov out f3 f5 f8 f9 f11 f13 f14 f15 u3 u5 u8 u9 u11 u13 u14 u15 W) (n3:f3=true) (n8:f8=false) (hE:dz W W') (h1:cD encV 1 TV W' 0 r vs8):
  iU TV TI wd n c rest vs8 ov out f3 f5 true f9 f11 f13 f14 f15 u3 u5 (.agg #[.int .i64 n,r]) u9 u11 u13 u14 u15 W':=by
 have k:=h.ext hE
 have n15:f15=true→False:=λq=>by rw[(h.c11 (h.c14 (h.c15 q)).1).1]at n8;cases n8
 exact⟨k.s,k.c5,λ_=>n3,λq=>⟨rfl,(k.c11 q).2⟩,k.c14,k.c15,k.o3,k.o5,λ_=>⟨r,rfl,h1⟩,k.o9,k.o11,k.o13,k.o14,λq=>(n15 q).elim⟩
theorem iU.p9 {b:Nat} (h:iU TV TI wd n c rest vs8 ov out f3 f5 f8 f9 f11 f13 f14 f15 u3 u5 u8 u9 u11 u13 u14 u15 W) (n9:f9=false) (hb:b=W.heap.size) (hE:dz W W') (hm:At W' b #[] TI):
  iU TV TI wd n c rest vs8 ov out f3 f5 f8 true f11 f13 f14 f15 u3 u5 u8 (.slice (some ⟨b,0,none⟩) 0 0) u11 u13 u14 u15 W':=by
 have k:=h.ext hE
 have n11:f11=true→False:=λq=>by rw[(h.c11 q).2]at n9;cases n9
 have ap:∀x,(∀j,x.ownBlock=some j→j<W.heap.size)→fl (.slice (some ⟨b,0,none⟩) 0 0) x:=λx hx j h1 h2=>by
  obtain rfl:b=j:=Z9 h1
  have:=hx b h2
  omega
 refine⟨k.s,k.c5,k.c8,λq=>(n11 q).elim,k.c14,k.c15,λq=> ?_,k.o5,k.o8,λ_ _=>uq hm (hb▸dz.size h.s),k.o11,λa b=>⟨(k.o13 a b).1,λ_ _=>ap _ (abU (h.o13 a b).1)⟩,k.o14,k.o15⟩
 obtain⟨r,vs,a1,a2,a3,a4,a5⟩:=h.o3 q
 exact⟨r,vs,a1,hE.ow a2,LO.ext hE a3,λ_ _ x hx=>by obtain⟨l,hl⟩:=a3.row hx;exact ap _ (abU hl),λq=>(n11 q).elim⟩
theorem iU.p13 (h:iU TV TI wd n c rest vs8 ov out f3 f5 f8 f9 f11 f13 f14 f15 u3 u5 u8 u9 u11 u13 u14 u15 W) (n13:f13=false) (hE:dz W W') (hm:cD dJ 1 TI W' W.heap.size v [c]):
  iU TV TI wd n c rest vs8 ov out f3 f5 f8 f9 f11 true f14 f15 u3 u5 u8 u9 u11 v u14 u15 W':=by
 have k:=h.ext hE
 have n14:f14=true→False:=λq=>by rw[(h.c14 q).2]at n13;cases n13
 exact⟨k.s,k.c5,k.c8,k.c11,λq=>(n14 q).elim,k.c15,k.o3,k.o5,k.o8,k.o9,k.o11,λ_ _=>⟨hm.mono (dz.size h.s),λa b=>fl.new (abU (h.o9 a b)) hm⟩,k.o14,k.o15⟩
theorem LO.grownAp {N:Nat} {L:ML} {u:Value} (h:LO TI N W vs L) (ha:∀x,x∈vs→fl u x) (hG:W.grownBy W' u.ownBlock):LO TI N W' vs L:=
 ⟨h.len,λk hk=>(h.get k hk).grownAp (ha _ (dy (by rw[h.len];exact hk))) hG⟩
theorem iU.p11 (h:iU TV TI wd n c rest vs8 ov out f3 f5 f8 f9 f11 f13 f14 f15 u3 u5 u8 u9 u11 u13 u14 u15 W) (hT:TI≠TV) (n11:f11=false) (n8:f8=true) (n9:f9=true) (hG:W.grownBy W' u9.ownBlock) (ho:cD dJ 1 TI W' wd.heap.size v out)
  (hob:v.ownBlock=u9.ownBlock∨v.ownBlock=some W.heap.size):iU TV TI wd n c rest vs8 ov out f3 f5 f8 f9 true f13 f14 f15 u3 u5 u8 u9 v u13 u14 u15 W':=by
 have n14:f14=true→False:=λq=>by rw[(h.c14 q).1]at n11;cases n11
 have h9:=h.o9 n9 n11
 refine⟨db h.s hG (am _) (λj hj=>cD.lt h9 j hj),h.c5,h.c8,λ_=>⟨n8,n9⟩,λq=>(n14 q).elim,h.c15,λq=> ?_,h.o5,λq=> ?_,λ_ q=>(by cases q),λ_ _=>ho,λa b=>⟨?_,λ_ q=>(by cases q)⟩,λq=>(n14 q).elim,h.o15⟩
 ·obtain⟨r,vs,a1,a2,a3,a4,a5⟩:=h.o3 q
  exact⟨r,vs,a1,a2.grownOw h9 hG hT.symm,a3.grownAp (a4 n9 n11) hG,λ_ q=>(by cases q),λ_ _ x hx=>by obtain⟨l,hl⟩:=a3.row hx;exact fl.app (a4 n9 n11 x hx) hob hl⟩
 ·obtain⟨r,a1,a2⟩:=h.o8 q
  exact⟨r,a1,a2.grownOw h9 hG hT.symm⟩
 ·exact(h.o13 a b).1.grownAp ((h.o13 a b).2 n9 n11) hG
theorem iU.p14 (h:iU TV TI wd n c rest vs8 ov out f3 f5 f8 f9 f11 f13 f14 f15 u3 u5 u8 u9 u11 u13 u14 u15 W) (hT:TI≠TV) (n14:f14=false) (n11:f11=true) (n13:f13=true) (hG:W.grownBy W' u11.ownBlock) (ho:cD dJ 1 TI W' wd.heap.size v (out++[c])):
  iU TV TI wd n c rest vs8 ov out f3 f5 f8 f9 f11 f13 true f15 u3 u5 u8 u9 u11 u13 v u15 W':=by
 have n15:f15=true→False:=λq=>by rw[h.c15 q]at n14;cases n14
 have h11:=h.o11 n11 n14
 refine⟨db h.s hG (am _) (λj hj=>cD.lt h11 j hj),h.c5,h.c8,h.c11,λ_=>⟨n11,n13⟩,λ_=>rfl,λq=> ?_,h.o5,λq=> ?_,λ_ q=>(by rw[n11]at q;cases q),λ_ q=>(by cases q),λ_ q=>(by cases q),λ_=>ho,λq=>(n15 q).elim⟩
 ·obtain⟨r,vs,a1,a2,a3,a4,a5⟩:=h.o3 q
  exact⟨r,vs,a1,a2.grownOw h11 hG hT.symm,a3.grownAp (a5 n11 n14) hG,λ_ q=>(by rw[n11]at q;cases q),λ_ q=>(by cases q)⟩
 ·obtain⟨r,a1,a2⟩:=h.o8 q
  exact⟨r,a1,a2.grownOw h11 hG hT.symm⟩
theorem iU.p15 (h:iU TV TI wd n c rest vs8 ov out f3 f5 f8 f9 f11 f13 f14 f15 u3 u5 u8 u9 u11 u13 u14 u15 W) (n14:f14=true) (e:u8= .agg #[.int .i64 n,r]):
  iU TV TI wd n c rest vs8 ov out f3 f5 f8 f9 f11 f13 f14 true u3 u5 u8 u9 u11 u13 u14 (.agg #[.int .i64 n,r,u14]) W:=
 ⟨h.s,h.c5,h.c8,h.c11,h.c14,λ_=>n14,h.o3,h.o5,h.o8,h.o9,h.o11,h.o13,h.o14,λ_=>⟨r,e,rfl⟩⟩
end
structure pa (n:Int) (L:ML) (bud:Int) (xs:List EF) (st:List Gs) (best:List Int) (steps:Int):Prop where
 sw:sC L st best
 sl:Lk xs st
 len:xs.length=st.length
 bl:best.length≤4000
 s0:0≤steps
 sb:steps≤bud
 ps:steps.toNat+JG st≤2^cnt L-1
theorem v6 {st:List Gs} {k:Nat} (h:st.length=k+1):st=st.take k++[st.getD k mJ]:=by
 grind [mJ,List.take_add_one,List.getElem?_eq_getElem,List.take_length]
theorem JS {n:Int} {Lx rest:ML} {T:List Int} (hr:dN n Lx=true) (hf:jz Lx Lx.length=true) (h:mR Lx rest T):∀r,r∈rest→0<r.length:=λr hr2=>by
 have hs:nM Lx Lx.flatten:=λq hq=>by
  match q,hq,yp.1 hf q hq with
  |c::q',hq,_=>exact⟨c,aab ..,List.mem_flatten.2 ⟨_,hq,aab ..⟩⟩
 obtain⟨X,_,h2,_⟩:=h.dn _ (lS _ _) (ra hr hs)
 obtain⟨c,hc,_⟩:=h2 r hr2
 exact abz.2 λe=>by rw[e]at hc;cases hc
section
variable {n n':Int} {L rest:ML} {bud steps:Int} {xs:List EF} {st:List Gs} {best T:List Int} {k:Nat} {c:Int} {rv tv:Value}
theorem acL {best:List Int} (hr:dN n L=true) (hl:L.length≤1000000) (hb:nM L best) (hbl:best.length≤4000) (h0:0≤bud):pa n L bud [⟨n,rv,tv⟩] [(L,[])] best 0:=
 ⟨acJ hb,acM hr hl,rfl,hbl,Int.le_refl _,h0,by simp[JG]⟩
theorem pa.sw' (h:pa n L bud xs st best steps) (hk:st.length=k+1):sC L (st.take k++[st.getD k mJ]) best:=by rw[←v6 hk];exact h.sw
theorem pa.drop {best':List Int} (h:pa n L bud xs st best steps) (hk:st.length=k+1) (hs:sC L (st.take k) best') (hl:best'.length≤4000):pa n L bud (xs.take k) (st.take k) best' steps:=
 ⟨hs,h.sl.take h.len k,by rw[aal,aal,h.len],hl,h.s0,h.sb,by
  have h1:=h.ps
  have h2:=NX (st.take k) (st.getD k mJ)
  rw[←v6 hk]at h2
  omega⟩
theorem pa.none (h:pa n L bud xs st best steps) (hk:st.length=k+1) (hf:(!jz (st.getD k mJ).1 (st.getD k mJ).1.length)=true):pa n L bud (xs.take k) (st.take k) best steps:=by
 have hf2:¬∀i,i<(st.getD k mJ).1.length→0<((st.getD k mJ).1.getD i []).length:=λq=>by rw[nB.2 q]at hf;cases hf
 obtain⟨i,hi⟩:=Classical.not_forall.1 hf2
 obtain⟨hi,hl⟩:=Classical.not_imp.1 hi
 exact h.drop hk ((h.sw' hk).none (dy (d:=[]) hi) (aar (by omega))) h.bl
theorem pa.leaf (h:pa n L bud xs st best steps) (hk:st.length=k+1) (hr:mR (st.getD k mJ).1 rest T) (he:rest.length=0) (hl:((st.getD k mJ).2++T).length<best.length):pa n L bud (xs.take k) (st.take k) ((st.getD k mJ).2++T) steps:=
 h.drop hk ((h.sw' hk).leaf hr (aar he) hl) (an (Nat.le_of_lt hl) h.bl)
theorem pa.leaf0 (h:pa n L bud xs st best steps) (hk:st.length=k+1) (hr:mR (st.getD k mJ).1 rest T) (hl:¬((st.getD k mJ).2++T).length<best.length):pa n L bud (xs.take k) (st.take k) best steps:=
 h.drop hk ((h.sw' hk).leaf0 hr hl) h.bl
theorem pa.prune (h:pa n L bud xs st best steps) (hk:st.length=k+1) (hr:mR (st.getD k mJ).1 rest T) (hl:best.length≤((st.getD k mJ).2++T).length+FI rest rest.length):pa n L bud (xs.take k) (st.take k) best steps:=
 h.drop hk ((h.sw' hk).prune hr hl) h.bl
theorem pa.branch {x1 x2:EF} (h:pa n L bud xs st best steps) (hk:st.length=k+1) (hr:mR (st.getD k mJ).1 rest T) (hrr:dN n' rest=true) (hT:T.length≤4000) (hrl:rest.length≤1000000) (hc:rJ rest c) (hne:¬steps=bud) (e1:x1.n=n') (e2:x2.n=n'):
  pa n L bud (xs.take k++[x1,x2]) (st.take k++[(pM rest c,(st.getD k mJ).2++T),(sQ rest c,(st.getD k mJ).2++T++[c])]) best (steps+1):=by
 have hcm:=ua hr.sub
 have h1:=Hw hrr hc
 have h2:=Ht hrr hc
 have h3:=h.sl.c k (by omega)
 have h4:=h.sl.t k (by omega)
 have ht:(xs.take k).length=(st.take k).length:=by rw[aal,aal,h.len]
 have hk2:(st.take k).length=k:=by rw[aal];omega
 refine⟨(h.sw' hk).branch hr c,?_,by simp only[An,ht];rfl,h.bl,by have:=h.s0;omega,by have:=h.sb;omega,?_⟩
 ·have hl1:((st.getD k mJ).2++T).length+4001*cnt (pM rest c)≤16004000:=by rw[An];omega
  have hl2:((st.getD k mJ).2++T++[c]).length+4001*cnt (sQ rest c)≤16004000:=by rw[An,An,aaC];omega
  have s1:=(h.sl.take h.len k).snoc ht (x:=x1) (y:=(pM rest c,(st.getD k mJ).2++T)) (by rw[e1];exact FP hrr c) (by dsimp only;rw[len_le];exact hrl) (by dsimp only;omega) hl1
  have s2:=s1.snoc (by simp only[An,ht];rfl) (x:=x2) (y:=(sQ rest c,(st.getD k mJ).2++T++[c])) (by rw[e2];exact zj hrr c) (by dsimp only;have:=NI rest c;omega) (by rw[An,aaC];dsimp only;omega) hl2
  rw[aav,aav]at s2
  exact s2
 ·have h5:=zM (st:=st.take k) (x:=st.getD k mJ) (a:=(st.getD k mJ).2++T) (b:=(st.getD k mJ).2++T++[c]) hrr hr hc
  rw[←v6 hk]at h5
  have h6:=h.ps
  omega
theorem pa.out (h:pa n L bud xs st best steps) (hk:st.length=k+1) (hr:mR (st.getD k mJ).1 rest T) (hrr:dN n' rest=true) (hc:rJ rest c) (he:steps=bud):bud.toNat+1<2^cnt L:=by
 have h5:=zM (st:=st.take k) (x:=st.getD k mJ) (a:=[]) (b:=[]) hrr hr hc
 rw[←v6 hk]at h5
 have h6:=h.ps
 omega
theorem aci (h:st.length=k+1):Dy (st.take k)<Dy st:=by
 grind [Nu,mJ,v6]
theorem acF (hk:st.length=k+1) (hr:mR (st.getD k mJ).1 rest T) (hrr:dN n' rest=true) (hc:rJ rest c) {a b:List Int}:Dy (st.take k++[(pM rest c,a),(sQ rest c,b)])<Dy st:=by
 have:=Gp (st:=st.take k) (x:=st.getD k mJ) (a:=a) (b:=b) hrr hr hc
 grind [v6]
end
theorem ii.two {TV TI:TypeId} {W:World} {xs:List EF} {st:List Gs} {x1 x2:EF} {y1 y2:Gs} {vs1 vs2:List Value} (h:ii TV TI W xs st) (a1:cD encV 1 TV W 0 x1.rv vs1) (a2:LO TI 0 W vs1 y1.1) (a3:cD dJ 1 TI W 0 x1.tv y1.2)
  (b1:cD encV 1 TV W 0 x2.rv vs2) (b2:LO TI 0 W vs2 y2.1) (b3:cD dJ 1 TI W 0 x2.tv y2.2):ii TV TI W (xs++[x1,x2]) (st++[y1,y2]):=by
 have:=(h.snoc a1 a2 a3).snoc b1 b2 b3
 grind
theorem U2 {n:Int} {v u:Value} (h:v.oneCell'=true) (k:u.oneCell'=true):[Value.int .i64 n,v,u].all Value.oneCell'=true:=by simp only[aa7,abL,h,k,aaZ];rfl
section
variable {P:Program} {f:Nat→Value} {w:World} {d:Option Nat} {t t2 ty:TypeId} {ps:String} {af:Array Edge} {g:Option (Nat×Bool)} {x y:Operand}
theorem N3 {a b:Int} {k:Nat} (hx:dg f x= .int .i64 a) (hy:dg f y= .int .i64 b) (hk:a-b=(k:Int)) (hl:k≤1000000000):
  (execOp (dg f) ⟨d, .binOp .sub t x y t2,ty,ps,af,g⟩).run P w= .ok (.value (.int .i64 (k:Int))) w:=by
 rw[←hk]
 grind [ld]
end
theorem RR {n m:Int} {a b c d:Value} (ha:a.oneCell'=true) (hb:b.oneCell'=true) (hc:c.oneCell'=true) (hd:d.oneCell'=true):([(⟨n,a,b⟩:EF),⟨m,c,d⟩].flatMap Gu).all Value.oneCell'=true:=by
 simp only[aaE,List.flatMap_nil,Gu,aaT,abp,aaM,aa7,abL,ha,hb,hc,hd,aaZ]
 rfl
theorem qS {L:Array Bool} {i:Nat} (hi:i<L.size):(L.setIfInBounds i true).getD i false=true:=by simp_all
theorem d6 {L:Array Bool} {i j:Nat} (hi:i<L.size) (h:j≠i):(L.setIfInBounds i true).getD j false=L.getD j false:=(Zk hi).trans (if_neg h)
theorem acb {TV TI:TypeId} {wd W:World} {n c:Int} {rest:ML} {vs8:List Value} {ov:Value} {out:List Int} {f3 f5 f8 f9 f11 f13 f14 f15 g3 g5 g8 g9 g11 g13 g14 g15:Bool} {u3 u5 u8 u9 u11 u13 u14 u15:Value}
  (h:iU TV TI wd n c rest vs8 ov out f3 f5 f8 f9 f11 f13 f14 f15 u3 u5 u8 u9 u11 u13 u14 u15 W) (e3:g3=f3) (e5:g5=f5) (e8:g8=f8) (e9:g9=f9) (e11:g11=f11) (e13:g13=f13) (e14:g14=f14) (e15:g15=f15):
  iU TV TI wd n c rest vs8 ov out g3 g5 g8 g9 g11 g13 g14 g15 u3 u5 u8 u9 u11 u13 u14 u15 W:=by
 grind
theorem QW {n:Int} {Lx rest:ML} {T:List Int} (hr:dN n Lx=true) (hf:jz Lx Lx.length=true) (h:mR Lx rest T) (hp:0<rest.length):∃c,rJ rest c:=by
 have hm:rest.getD 0 []∈rest:=dy hp
 have:=JS hr hf h _ hm
 exact⟨_,_,hm,dy (d:=0) this⟩
theorem pa.fin {n:Int} {L:ML} {bud steps:Int} {xs:List EF} {st:List Gs} {best:List Int} (h:pa n L bud xs st best steps) (hr:dN n L=true) (hx:xs.length=0):Re L n (lg best n.toNat):=by
 have:st=[]:=aar (by rw[←h.len];exact hx)
 subst this
 exact h.sw.fin hr
end
section
open Go Go.RowKit
theorem UC {S:Sp} (hr:dq S=true):ix (eW S):=λx hx=>by
 have h:=(fR.1 ((uC hr).1 hx)).1
 have h1:=mq (gD h)
 have h2:=fq (dD.1 hr).2.1
 have h3:=(rf h).2
 omega
theorem pG {S:Sp} (hr:dq S=true) {i:Nat} (hi:i<(eW S).length):rj S ((eW S).getD i ⟨⟨0,0⟩,0⟩)=true:=by grind [uC,dy]
def FV (l:List Rw) (x:Rw):Nat→Bool
 |0=>false
 |k+1=>FV l x k||tm (l.getD k ⟨⟨0,0⟩,0⟩) x
theorem rT {l:List Rw} {x:Rw}:∀k,FV l x k=true↔∃j,j<k∧tm (l.getD j ⟨⟨0,0⟩,0⟩) x=true
 |0=>by simp[FV]
 |k+1=>by
  rw[FV,aaU,rT k]
  constructor
  ·rintro(⟨j,hj,h⟩|h)
   ·exact⟨j,by omega,h⟩
   ·exact⟨k,by omega,h⟩
  ·rintro⟨j,hj,h⟩
   rcases aac.1 hj with hj|rfl
   ·exact .inl ⟨j,hj,h⟩
   ·exact .inr h
theorem Iv {S:Sp} {x:Rw} (h:qw S x=true):FV (eW S) x (eW S).length=true:=by
 obtain⟨h1,h2⟩:=oD h
 obtain⟨j,hj,he⟩:=eZ (d:=⟨⟨0,0⟩,0⟩) ((uC (ie.1 h).1).2 h1)
 grind [rT]
theorem JE {S:Sp} (hr:dq S=true):io S (eW S)=true:=by
 obtain⟨h0,h8,h1,h4,h5,hin⟩:=dD.1 hr
 have hp:=fq h8
 refine fN.2 ⟨hr,ko.2 λk hk=> ?_,λo ho=> ?_⟩
 ·have hi:=(fR.1 (pG hr hk)).1
  exact ig.2 ⟨gD hi,(ie.1 hi).2.1,h5▸(rf hi).1⟩
 ·obtain⟨w1,w2⟩:=hin o ho
  refine Oq (d4.2 λp hp2 h=> ?_) (d4.2 λp hp2 h=> ?_)
  ·have hm:=d4.1 w1 p hp2 h
   have hpn:p<2^S.n.toNat:=by
    have:=d4.1 w2 p hp2 hm
    rw[fw]at this
    simpa using this
   have hpow:=aaz S.n.toNat
   have hx:qw S ⟨⟨2^S.n.toNat-1,p⟩,2^o⟩=true:=by
    have hand:p &&& (2^S.n.toNat-1)=p:=by rw[abj,abo hpn]
    refine ie.2 ⟨hr,aaz o,λj hj=> ?_⟩
    have hj':(2^o).testBit j=true:=hj
    rw[aas,decide_eq_true_eq]at hj'
    subst hj'
    refine⟨by omega,?_⟩
    have:=(gm (s:=kM S o) (n:=S.n) (c:=⟨2^S.n.toNat-1,p⟩)).2 ⟨dw.2 ⟨h0,h8,by show 2^S.n.toNat-1<2^S.n.toNat;omega,hand⟩,λq hq hqp=>by
     have hqp':q &&& (2^S.n.toNat-1)=p:=hqp
     rw[abj,abo hq]at hqp'
     subst hqp';exact hm⟩
    exact this
   obtain⟨j,hj,hh⟩:=(rT _).1 (Iv hx)
   obtain⟨g1,g2⟩:=pJ.1 hh
   have hi:=(fR.1 (pG hr hj)).1
   refine(lE (by omega) p _ (am _)).2 ⟨hpn,j,hj,g2 o (by show (2^o).testBit o=true;rw[aas];simp),?_⟩
   refine mD (p:=p) (dw.1 (gD hi)).2.2.2 g1 ?_
   show p &&& (2^S.n.toNat-1)=p
   rw[abj,abo hpn]
  ·obtain⟨hpn,j,hj,hb,hh⟩:=(lE (by omega) p _ (am _)).1 h
   have hi:=(fR.1 (pG hr hj)).1
   have hw:=((ie.1 hi).2.2 o hb).2
   exact(gm.1 hw).2 p hpn hh
end
section
open Go Go.RowKit
def mC (x:Rw) (k:Nat):Rw:=⟨x.c,x.o-2^k⟩
def rE (l:List Rw) (i k:Nat):List Rw:=l.set i (mC (l.getD i ⟨⟨0,0⟩,0⟩) k)
def qg (x:Rw):List Rw:=if 0<x.o then [x]else []
def nH (l:List Rw):List Rw:=l.filter λx=>decide (0<x.o)
def mB (l:List Rw) (i k:Nat):List Rw:=
 if andNot (l.getD i ⟨⟨0,0⟩,0⟩).o (2^k)=0 then l.take i++l.drop (i+1)else l.set i ⟨(l.getD i ⟨⟨0,0⟩,0⟩).c,andNot (l.getD i ⟨⟨0,0⟩,0⟩).o (2^k)⟩
def pV (l:List Rw):Prop:=∀x,x∈l→0<x.o
theorem AJ (a b:List Rw):nH (a++b)=nH a++nH b:=abI ..
theorem J0 (x:Rw):nH [x]=qg x:=by
 unfold nH qg
 grind
theorem GR (x:Rw) (b:List Rw):nH (x::b)=qg x++nH b:=by rw[←J0,←AJ];rfl
theorem Bl {l:List Rw} (h:pV l):nH l=l:=List.filter_eq_self.2 λx hx=>decide_eq_true (h x hx)
theorem pV.app {a b:List Rw} (ha:pV a) (hb:pV b):pV (a++b):=λx hx=>(Z6.1 hx).elim (ha x) (hb x)
theorem pV.kp (x:Rw):pV (qg x):=λy hy=>by
 unfold qg at hy
 split at hy
 ·simp at hy;subst hy;assumption
 ·cases hy
theorem pV.drop {l:List Rw} (h:pV l) (k:Nat):pV (l.drop k):=λx hx=>h x (List.mem_of_mem_drop hx)
theorem xK (x:Rw):(qg x).length=if 0<x.o then 1 else 0:=by grind [qg]
theorem uh {x:Rw} (h:0<x.o):qg x=[x]:=if_pos h
theorem O0 {x:Rw} (h:x.o=0):qg x=[]:=if_neg (by omega)
theorem zk {S:Sp} {l:List Rw} (h:io S l=true):pV l:=λx hx=>by
 obtain⟨k,hk,rfl⟩:=eZ (d:=⟨⟨0,0⟩,0⟩) hx
 exact(ig.1 (ko.1 (fN.1 h).2.1 k hk)).2.1
theorem FJ {o k:Nat} (h:o.testBit k=true):andNot o (2^k)=o-2^k:=by
 have hlow:(andNot o (2^k)).testBit k=false:=by rw[dU];simp
 have hs:=Rc hlow
 have e:andNot o (2^k) ||| 2^k=o:=Z7 λj=>by
  rw[aaP,dU,aas]
  by_cases hj:k=j
  ·subst hj;simp[h]
  ·simp[hj]
 omega
theorem iI {o k:Nat} (h:o.testBit k=true) (j:Nat):(o-2^k).testBit j=(o.testBit j&& !decide (k=j)):=by
 rw[←FJ h,dU,aas]
theorem R1 (o k:Nat):o-2^k≤o:=by grind
theorem y4 {A B:List Rw} {x d:Rw} {i:Nat} (hi:i=A.length):(A++x::B).getD i d=x:=by
 grind
theorem JR {A B:List Rw} {x y:Rw} {i:Nat} (hi:i=A.length):(A++x::B).set i y=A++y::B:=by
 simp_all
theorem O5 {A B:List Rw} {x:Rw} {i:Nat} (hi:i=A.length):(A++x::B).take i=A:=by grind
theorem MQ {A B:List Rw} {x:Rw} {i:Nat} (hi:i=A.length):(A++x::B).drop (i+1)=B:=by
 simp_all
theorem Ov {A B:List Rw} {x:Rw} {i k:Nat} (hi:i=A.length) (hb:x.o.testBit k=true):mB (A++x::B) i k=A++qg (mC x k)++B:=by
 unfold mB
 rw[y4 hi,FJ hb,O5 hi,MQ hi,JR hi]
 by_cases h:x.o-2^k=0
 ·rw[if_pos h,O0 h,aaT]
 ·rw[if_neg h,uh (show 0<(mC x k).o from Nat.pos_of_ne_zero h)]
  simp[mC]
theorem FG {l:List Rw} {i:Nat} (hi:i<l.length):l=l.take i++l.getD i ⟨⟨0,0⟩,0⟩::l.drop (i+1):=by
 simp_all
theorem Rp {l:List Rw} {i:Nat} (hi:i<l.length):l.drop i=l.getD i ⟨⟨0,0⟩,0⟩::l.drop (i+1):=by
 simp_all
theorem FY {l:List Rw} {i:Nat} {x d:Rw} (hi:i<l.length):(l.set i x).getD i d=x:=by
 grind
theorem Va {l:List Rw} {i k:Nat} (hi:i<l.length) (h:(((l.set i ⟨(l.getD i ⟨⟨0,0⟩,0⟩).c,andNot (l.getD i ⟨⟨0,0⟩,0⟩).o (1*2^k)⟩).getD i ⟨⟨0,0⟩,0⟩).o:Int)=0):
  (l.set i ⟨(l.getD i ⟨⟨0,0⟩,0⟩).c,andNot (l.getD i ⟨⟨0,0⟩,0⟩).o (1*2^k)⟩).take i++(l.set i ⟨(l.getD i ⟨⟨0,0⟩,0⟩).c,andNot (l.getD i ⟨⟨0,0⟩,0⟩).o (1*2^k)⟩).drop (i+1)=mB l i k:=by
 rw[FY hi,aap]at h
 unfold mB
 rw[if_pos (show andNot (l.getD i ⟨⟨0,0⟩,0⟩).o (2^k)=0 from Int.ofNat_inj.1 h),List.take_set_of_le (am _),List.drop_set_of_lt (abn _)]
theorem U6 {l:List Rw} {i k:Nat} (hi:i<l.length) (h:¬(((l.set i ⟨(l.getD i ⟨⟨0,0⟩,0⟩).c,andNot (l.getD i ⟨⟨0,0⟩,0⟩).o (1*2^k)⟩).getD i ⟨⟨0,0⟩,0⟩).o:Int)=0):
  l.set i ⟨(l.getD i ⟨⟨0,0⟩,0⟩).c,andNot (l.getD i ⟨⟨0,0⟩,0⟩).o (1*2^k)⟩=mB l i k:=by
 rw[FY hi,aap]at h
 unfold mB
 grind
theorem Lu (l:List Rw) (i k:Nat):(mB l i k).length≤l.length:=by
 unfold mB
 grind
def KL (S:Sp) (A B:List Rw) (c:Cb) (o:Nat):Nat→Nat
 |0=>o
 |k+1=>if (KL S A B c o k).testBit k=true∧io S (A++qg ⟨c,KL S A B c o k-2^k⟩++B)=true then KL S A B c o k-2^k else KL S A B c o k
def mj (S:Sp) (l:List Rw):Nat→List Rw
 |0=>[]
 |j+1=>mj S l j++qg ⟨(l.getD j ⟨⟨0,0⟩,0⟩).c,KL S (mj S l j) (l.drop (j+1)) (l.getD j ⟨⟨0,0⟩,0⟩).c (l.getD j ⟨⟨0,0⟩,0⟩).o S.on.length⟩
def sK (S:Sp) (l:List Rw) (j k:Nat):Nat:=KL S (mj S l j) (l.drop (j+1)) (l.getD j ⟨⟨0,0⟩,0⟩).c (l.getD j ⟨⟨0,0⟩,0⟩).o k
def sI (S:Sp) (l:List Rw) (j k:Nat):Rw:=⟨(l.getD j ⟨⟨0,0⟩,0⟩).c,sK S l j k⟩
def wX (S:Sp) (l:List Rw) (j k:Nat):List Rw:=mj S l j++qg (sI S l j k)++l.drop (j+1)
def kY (S:Sp) (l:List Rw):List Rw:=mj S l l.length
theorem kb (S:Sp) (l:List Rw) (j:Nat):mj S l (j+1)=mj S l j++qg (sI S l j S.on.length):=rfl
theorem qX (S:Sp) (l:List Rw) (j k:Nat):sK S l j (k+1)=if (sK S l j k).testBit k=true∧io S (mj S l j++qg (mC (sI S l j k) k)++l.drop (j+1))=true then sK S l j k-2^k else sK S l j k:=rfl
theorem TR {S:Sp} {l:List Rw} {j k:Nat} (h1:(sK S l j k).testBit k=true) (h2:io S (mj S l j++qg (mC (sI S l j k) k)++l.drop (j+1))=true):sK S l j (k+1)=sK S l j k-2^k:=by rw[qX,if_pos ⟨h1,h2⟩]
theorem YX {S:Sp} {l:List Rw} {j k:Nat} (h:¬((sK S l j k).testBit k=true∧io S (mj S l j++qg (mC (sI S l j k) k)++l.drop (j+1))=true)):sK S l j (k+1)=sK S l j k:=by rw[qX,if_neg h]
theorem OZ (S:Sp) (l:List Rw) (j:Nat):∀k,sK S l j k≤(l.getD j ⟨⟨0,0⟩,0⟩).o
 |0=>am _
 |k+1=>by
  rw[qX]
  have:=OZ S l j k
  split
  ·have:=R1 (sK S l j k) k;omega
  ·exact this
theorem t8 (S:Sp) (l:List Rw) (j:Nat):∀k q,(sK S l j k).testBit q=true→(l.getD j ⟨⟨0,0⟩,0⟩).o.testBit q=true
 |0,q,h=>h
 |k+1,q,h=>by
  rw[qX]at h
  split at h
  ·rename_i hc
   rw[iI hc.1,we]at h
   exact t8 S l j k q h.1
  ·exact t8 S l j k q h
theorem rC (S:Sp) (l:List Rw) (j:Nat) (k:Nat):∀e q,(sK S l j (k+e)).testBit q=true→(sK S l j k).testBit q=true
 |0,q,h=>h
 |e+1,q,h=>by
  rw[←Nat.add_assoc,qX]at h
  split at h
  ·rename_i hc
   rw[iI hc.1,we]at h
   exact rC S l j k e q h.1
  ·exact rC S l j k e q h
theorem ix.nil:ix []:=λx hx=>by cases hx
theorem ix.any {l:List Rw} (h:ix l) (k:Nat):(l.getD k ⟨⟨0,0⟩,0⟩).o<256:=by
 by_cases hk:k<l.length
 ·exact(h.get hk).2.2
 all_goals grind
theorem ix.app {a b:List Rw} (ha:ix a) (hb:ix b):ix (a++b):=λx hx=>(Z6.1 hx).elim (ha x) (hb x)
theorem ix.drop {l:List Rw} (h:ix l) (k:Nat):ix (l.drop k):=λx hx=>h x (List.mem_of_mem_drop hx)
theorem ix.take {l:List Rw} (h:ix l) (k:Nat):ix (l.take k):=λx hx=>h x (List.mem_of_mem_take hx)
theorem ix.kp {x:Rw} (h:x.c.m<256∧x.c.v<256∧x.o<256):ix (qg x):=λy hy=>by
 unfold qg at hy
 split at hy
 ·simp at hy;subst hy;exact h
 ·cases hy
theorem ix.some {l:List Rw} (h:ix l):ix (nH l):=λx hx=>h x (aaN.1 hx).1
theorem ix.set {l:List Rw} (h:ix l) {i:Nat} {x:Rw} (hx:x.c.m<256∧x.c.v<256∧x.o<256):ix (l.set i x):=λy hy=>(List.mem_or_eq_of_mem_set hy).elim (h y) (λe=>e▸hx)
theorem S3 {S:Sp} {l:List Rw} (h:ix l) {j:Nat} (hj:j<l.length) (k:Nat):(sI S l j k).c.m<256∧(sI S l j k).c.v<256∧(sI S l j k).o<256:=by
 obtain⟨h1,h2,h3⟩:=h.get hj
 have:=OZ S l j k
 exact⟨h1,h2,show sK S l j k<256 by omega⟩
theorem SX {S:Sp} {l:List Rw} (h:ix l):∀j,j≤l.length→ix (mj S l j)
 |0,_=>ix.nil
 |j+1,hj=>by rw[kb];exact(SX h j (by omega)).app (ix.kp (S3 h (by omega) _))
theorem XP {S:Sp} {l:List Rw} (h:ix l) {j:Nat} (hj:j<l.length) (k:Nat):ix (wX S l j k):=((SX h j (by omega)).app (ix.kp (S3 h hj k))).app (h.drop _)
theorem xQ (S:Sp) (l:List Rw):∀j,pV (mj S l j)
 |0=>λx hx=>by cases hx
 |j+1=>by rw[kb];exact(xQ S l j).app (pV.kp _)
theorem Jk (S:Sp) (l:List Rw):∀j,(mj S l j).length≤j
 |0=>am _
 |j+1=>by
  have:=Jk S l j
  rw[kb,An,xK]
  split<;>omega
theorem Es {S:Sp} {l:List Rw} {j:Nat} (hp:pV l) (hj:j<l.length):mj S l j++l.drop j=wX S l j 0:=by
 unfold wX
 rw[Rp hj,uh (x:=sI S l j 0) (hp _ (dy hj)),aav]
 rfl
theorem CN (S:Sp) (l:List Rw) (j:Nat):wX S l j S.on.length=mj S l (j+1)++l.drop (j+1):=by rw[kb];rfl
theorem OW {S:Sp} {l:List Rw} {j k:Nat} (h:0<sK S l j k):wX S l j k=mj S l j++sI S l j k::l.drop (j+1):=by
 grind [wX,uh,sI,List.append_assoc]
theorem P9 {S:Sp} {l:List Rw} {j k:Nat} (h:0<sK S l j k):(wX S l j k).getD (mj S l j).length ⟨⟨0,0⟩,0⟩=sI S l j k:=by
 grind [OW,y4]
theorem D3 {S:Sp} {l:List Rw} {j k:Nat} (hb:(sK S l j k).testBit k=true):mB (wX S l j k) (mj S l j).length k=mj S l j++qg (mC (sI S l j k) k)++l.drop (j+1):=by
 rw[OW (CI hb)]
 exact Ov rfl hb
theorem ST {S:Sp} {l:List Rw} {j k:Nat} (hb:(sK S l j k).testBit k=true) (hc:io S (mB (wX S l j k) (mj S l j).length k)=true):mB (wX S l j k) (mj S l j).length k=wX S l j (k+1):=by
 rw[D3 hb]at hc ⊢
 unfold wX sI
 rw[TR hb hc]
 rfl
theorem ER {S:Sp} {l:List Rw} {j k:Nat} (h:(sK S l j k).testBit k=false∨io S (mB (wX S l j k) (mj S l j).length k)=false):wX S l j k=wX S l j (k+1):=by
 grind [sK,YX,D3,wX,sI]
def Yy (S:Sp) (l:List Rw) (i k:Nat):Bool:=(l.getD i ⟨⟨0,0⟩,0⟩).o.testBit k&&io S (nH (rE l i k))
def xA (S:Sp) (l:List Rw):Bool:=io S l&&(List.range l.length).all λi=>(List.range S.on.length).all λk=> !Yy S l i k
theorem wJ {S:Sp} {l:List Rw}:xA S l=true↔io S l=true∧∀i,i<l.length→∀k,k<S.on.length→Yy S l i k=false:=by
 unfold xA
 simp_all
theorem ZM (x:Rw):(qg x).length≤1∧((qg x).length=1→0<x.o)∧(¬(qg x).length=1→x.o=0):=by
 rw[xK]
 grind
theorem Ez {S:Sp} {l:List Rw} {j k:Nat}:(wX S l j k).length=(mj S l j).length+(qg (sI S l j k)).length+(l.length-(j+1)):=by
 grind [wX,List.length_append,List.length_drop]
theorem QL {S:Sp} {l:List Rw} {j:Nat}:(mj S l j++l.drop j).length=(mj S l j).length+(l.length-j):=by grind
theorem SB {l:List Rw} (h:ix l) {i:Nat} (hi:i<l.length) (k:Nat):ix (mB l i k):=by
 unfold mB
 obtain⟨h1,h2,h3⟩:=h.get hi
 split
 ·exact(h.take _).app (h.drop _)
 ·exact h.set ⟨h1,h2,by have:=rX (l.getD i ⟨⟨0,0⟩,0⟩).o (2^k);show andNot _ _<256;omega⟩
theorem RC {o k:Nat} (h:((o/2^((k:Nat):Int).toNat &&& 1:Nat):Int)=0):o.testBit k=false:=by grind
theorem L7 {o k:Nat} (h:¬((o/2^((k:Nat):Int).toNat &&& 1:Nat):Int)=0):o.testBit k=true:=by grind
theorem Oy {o k:Nat} (h:o=0):o.testBit k=false:=by grind
def tQ (a b:List Rw):Prop:=∀x,x∈a→∃y,y∈b∧x.c=y.c∧∀j,x.o.testBit j=true→y.o.testBit j=true
theorem tQ.refl (a:List Rw):tQ a a:=λx hx=>⟨x,hx,rfl,λ_ h=>h⟩
theorem tQ.trans {a b c:List Rw} (h:tQ a b) (k:tQ b c):tQ a c:=λx hx=>by
 obtain⟨y,hy,h1,h2⟩:=h x hx
 obtain⟨z,hz,h3,h4⟩:=k y hy
 exact⟨z,hz,h1.trans h3,λj hj=>h4 j (h2 j hj)⟩
theorem tQ.app {a b c d:List Rw} (h:tQ a b) (k:tQ c d):tQ (a++c) (b++d):=λx hx=>by
 rcases Z6.1 hx with hx|hx
 ·obtain⟨y,hy,h⟩:=h x hx;exact⟨y,Z6.2 (.inl hy),h⟩
 ·obtain⟨y,hy,h⟩:=k x hx;exact⟨y,Z6.2 (.inr hy),h⟩
theorem tQ.kp {x y:Rw} (hc:x.c=y.c) (ho:∀j,x.o.testBit j=true→y.o.testBit j=true):tQ (qg x) (qg y):=λz hz=>by
 unfold qg at hz
 split at hz
 ·rename_i hp
  simp at hz
  subst hz
  obtain⟨j,hj⟩:=sT hp
  exact⟨y,by rw[uh (CI (ho j hj))];exact Z8.2 rfl,hc,ho⟩
 ·cases hz
theorem tQ.cv {a b:List Rw} (h:tQ a b) {p o:Nat} (hc:DA a p o=true):DA b p o=true:=by
 unfold DA at*
 rw[aaO]at*
 obtain⟨x,hx,h1⟩:=hc
 obtain⟨y,hy,e,h2⟩:=h x hx
 grind
theorem nS {S:Sp} {l:List Rw}:mQ S l=true↔∀x,x∈l→Pr S x=true:=by grind [mQ,List.all_eq_true]
theorem tQ.may {S:Sp} {a b:List Rw} (h:tQ a b) (hp:pV a) (k:mQ S b=true):mQ S a=true:=nS.2 λx hx=>by
 obtain⟨y,hy,e,h2⟩:=h x hx
 obtain⟨h3,_,h5⟩:=ig.1 (nS.1 k y hy)
 refine ig.2 ⟨e▸h3,hp x hx,gz.2 λj hj=>aah.2 λhb=> ?_⟩
 have:=h2 j hb
 rw[gz.1 h5 j hj]at this
 cases this
theorem LQ {S:Sp} {a b u:List Rw} (ha:io S a=true) (hu:io S u=true) (h1:tQ a b) (h2:tQ b u) (hp:pV b):io S b=true:=by
 obtain⟨hr,hma,hca⟩:=fN.1 ha
 obtain⟨_,hmu,hcu⟩:=fN.1 hu
 have hmb:=h2.may hp hmu
 refine fN.2 ⟨hr,hmb,λo ho=>(jR hr hmb ho).2 λp hpn=> ?_⟩
 exact⟨λh=>h1.cv (((jR hr hma ho).1 (hca o ho) p hpn).1 h),λh=>((jR hr hmu ho).1 (hcu o ho) p hpn).2 (h2.cv h)⟩
theorem Pa {S:Sp} {l:List Rw}:∀j,j≤l.length→tQ (mj S l j) (l.take j)
 |0,_=>λx hx=>by cases hx
 |j+1,hj=>by
  have e:l.take (j+1)=l.take j++[l.getD j ⟨⟨0,0⟩,0⟩]:=by
   rw[aaH,me,th (show j<l.length by omega)]
   rfl
  rw[kb,e]
  refine(Pa j (by omega)).app λx hx=>⟨_,Z8.2 rfl,?_⟩
  unfold qg at hx
  split at hx
  ·simp at hx;subst hx;exact⟨rfl,λq hq=>t8 S l j _ q hq⟩
  ·cases hx
theorem IK {S:Sp} {l:List Rw} (h:io S l=true):∀j,j≤l.length→io S (mj S l j++l.drop j)=true
 |0,_=>h
 |j+1,hj=>by
  have ih:=IK h j (by omega)
  rw[Es (zk h) (by omega)]at ih
  rw[←CN]
  have:∀k,io S (wX S l j k)=true:=λk=>by
   induction k with
   |zero=>exact ih
   |succ k ihk=>
    by_cases hb:(sK S l j k).testBit k=true
    ·by_cases hc:io S (mB (wX S l j k) (mj S l j).length k)=true
     ·rw[←ST hb hc];exact hc
     ·rw[←ER (.inr (by simpa using hc))];exact ihk
    ·rw[←ER (.inl (by simpa using hb))];exact ihk
  exact this _
theorem EY {S:Sp} {l:List Rw} (h:io S l=true):io S (kY S l)=true:=by
 have:=IK h l.length (am _)
 rwa [List.drop_length,aaT]at this
theorem s9 (S:Sp) (l:List Rw) (j:Nat):∀e,mj S l j<+:mj S l (j+e)
 |0=>aba _
 |e+1=>by rw[←Nat.add_assoc,kb];exact(s9 S l j e).trans (List.prefix_append _ _)
theorem EL {S:Sp} {l:List Rw}:∀m i,i<(mj S l m).length→∃j,j<m∧(mj S l j).length=i∧0<sK S l j S.on.length∧(mj S l m).getD i ⟨⟨0,0⟩,0⟩=sI S l j S.on.length
 |0,i,h=>by cases h
 |m+1,i,h=>by
  rw[kb]at h ⊢
  by_cases hi:i<(mj S l m).length
  ·obtain⟨j,hj,h1,h2,h3⟩:=EL m i hi
   refine⟨j,by omega,h1,h2,?_⟩
   rw[←h3,me,aaK hi,me]
  ·rw[An,xK]at h
   have hp:0<(sI S l m S.on.length).o:=Classical.byContradiction λhn=>by rw[if_neg hn]at h;omega
   rw[if_pos hp]at h
   refine⟨m,by omega,by omega,hp,?_⟩
   rw[uh hp]
   exact y4 (by omega)
theorem OE {S:Sp} {l:List Rw} (hp:pV l) {j m:Nat} (hjm:j≤m) (hm:m≤l.length):tQ ((mj S l m).drop (mj S l j).length) (l.drop j):=by
 induction m with
 |zero=>
  obtain rfl:j=0:=by omega
  exact λx hx=>by simp[mj]at hx
 |succ m ih=>
  by_cases e:j=m+1
  ·subst e
   rw[List.drop_length]
   exact λx hx=>by cases hx
  ·have hjm':j≤m:=by omega
   have hpre:=(s9 S l j (m-j)).length_le
   rw[show j+(m-j)=m by omega]at hpre
   rw[kb,List.drop_append_of_le_length hpre]
   intro x hx
   rcases Z6.1 hx with hx|hx
   ·exact ih hjm' (by omega) x hx
   ·unfold qg at hx
    split at hx
    ·simp at hx
     subst hx
     refine⟨l.getD m ⟨⟨0,0⟩,0⟩,?_,rfl,λq hq=>t8 S l m _ q hq⟩
     have:=dy (d:=⟨⟨0,0⟩,0⟩) (show m-j<(l.drop j).length by rw[aa5];omega)
     rwa [me,List.getElem?_drop,show j+(m-j)=m by omega,←me]at this
    ·cases hx
theorem Ft {S:Sp} {l:List Rw} (h:io S l=true):xA S (kY S l)=true:=by
 have hpl:=zk h
 refine wJ.2 ⟨EY h,λi hi k hk=>aah.2 λhn=> ?_⟩
 unfold Yy at hn
 rw[we]at hn
 obtain⟨hb,hc⟩:=hn
 obtain⟨j,hj,h1,h2,h3⟩:=EL l.length i hi
 have hp2:pV (kY S l):=xQ S l l.length
 have hb':(sK S l j S.on.length).testBit k=true:=by
  rw[show (kY S l).getD i ⟨⟨0,0⟩,0⟩=_ from h3]at hb
  exact hb
 have hbk1:(sK S l j (k+1)).testBit k=true:=by
  have:=rC S l j (k+1) (S.on.length-(k+1)) k
  rw[show k+1+(S.on.length-(k+1))=S.on.length by omega]at this
  exact this hb'
 have hbk:(sK S l j k).testBit k=true:=rC S l j k 1 k hbk1
 have hno:¬io S (mj S l j++qg (mC (sI S l j k) k)++l.drop (j+1))=true:=λhcc=>by
  rw[TR hbk hcc,iI hbk]at hbk1
  simp at hbk1
 apply hno
 have hpre:=s9 S l j (l.length-j)
 rw[show j+(l.length-j)=l.length by omega]at hpre
 have htk:(kY S l).take i=mj S l j:=by rw[←h1];exact(List.prefix_iff_eq_take.1 hpre).symm
 have hlen:(mj S l (j+1)).length=i+1:=by rw[kb,An,xK,if_pos (show 0<(sI S l j S.on.length).o from h2),h1]
 have hdr:=OE (S:=S) hpl (show j+1≤l.length by omega) (am _)
 rw[hlen]at hdr
 have hx:=FG (l:=kY S l) (i:=i) hi
 have hA:i=((kY S l).take i).length:=by rw[aal];exact(abw (Nat.le_of_lt hi)).symm
 have e:nH (rE (kY S l) i k)=mj S l j++qg (mC (sI S l j S.on.length) k)++(kY S l).drop (i+1):=by
  have h2:rE (kY S l) i k=(kY S l).take i++mC ((kY S l).getD i ⟨⟨0,0⟩,0⟩) k::(kY S l).drop (i+1):=by
   unfold rE
   conv=>lhs;arg 1;rw[hx]
   exact JR hA
  rw[h2,AJ,GR,htk,Bl (xQ S l j),Bl (hp2.drop _),show (kY S l).getD i ⟨⟨0,0⟩,0⟩=_ from h3,aav]
 rw[e]at hc
 have hle1:tQ (mj S l j++qg (mC (sI S l j S.on.length) k)++(kY S l).drop (i+1)) (mj S l j++qg (mC (sI S l j k) k)++l.drop (j+1)):=by
  refine tQ.app (tQ.app (tQ.refl (mj S l j)) (tQ.kp (x:=mC (sI S l j S.on.length) k) (y:=mC (sI S l j k) k) rfl λq hq=> ?_)) hdr
  have hq':(sK S l j S.on.length-2^k).testBit q=true:=hq
  show (sK S l j k-2^k).testBit q=true
  rw[iI hb',we]at hq'
  rw[iI hbk,we]
  refine⟨?_,hq'.2⟩
  have:=rC S l j k (S.on.length-k) q
  rw[show k+(S.on.length-k)=S.on.length by omega]at this
  exact this hq'.1
 have hle2:tQ (mj S l j++qg (mC (sI S l j k) k)++l.drop (j+1)) l:=by
  conv=>rhs;rw[FG hj]
  rw[aav]
  refine(Pa j (by omega)).app ?_
  refine tQ.trans ?_ (tQ.refl (l.getD j ⟨⟨0,0⟩,0⟩::l.drop (j+1)))
  rw[show l.getD j ⟨⟨0,0⟩,0⟩::l.drop (j+1)=[l.getD j ⟨⟨0,0⟩,0⟩]++l.drop (j+1) from rfl]
  refine tQ.app (λx hx=>⟨_,Z8.2 rfl,?_⟩) (tQ.refl _)
  unfold qg at hx
  split at hx
  ·simp at hx
   subst hx
   refine⟨rfl,λq hq=> ?_⟩
   have hq':(sK S l j k-2^k).testBit q=true:=hq
   rw[iI hbk,we]at hq'
   exact t8 S l j k q hq'.1
  ·cases hx
 exact LQ hc h hle1 hle2 (((xQ S l j).app (pV.kp _)).app (hpl.drop _))
end
section
open Go Go.RowKit
def G8 (l:List Cb) (n:Nat) (but:Int):Nat→Nat
 |0=>0
 |k+1=>if (k:Int)=but then G8 l n but k else G8 l n but k ||| oH (l.getD k ⟨0,0⟩).m ((l.getD k ⟨0,0⟩).v &&& (l.getD k ⟨0,0⟩).m) n
theorem lz {l:List Cb} {n:Nat} {but:Int} (hn:n≤8) (p:Nat):∀k,k≤l.length→(∀c,c∈l→c.v &&& c.m=c.v)→((G8 l n but k).testBit p=true↔∃j,j<k∧¬(j:Int)=but∧p<2^n∧hold (l.getD j ⟨0,0⟩) p)
 |0,_,_=>by simp[G8]
 |k+1,hk,hv=>by
  have ih:=lz (but:=but) hn p k (by omega) hv
  rw[G8]
  split
  ·rename_i h
   rw[ih]
   constructor
   ·rintro⟨j,hj,r⟩;exact⟨j,by omega,r⟩
   ·rintro⟨j,hj,h2,r⟩
    rcases aac.1 hj with hj|rfl
    ·exact⟨j,hj,h2,r⟩
    ·exact absurd h h2
  ·rename_i h
   rw[aaP,aaU,ih,iM hn,hv _ (dy (by omega)),we,decide_eq_true_eq,decide_eq_true_eq]
   constructor
   ·rintro(⟨j,hj,r⟩|⟨h1,h2⟩)
    ·exact⟨j,by omega,r⟩
    ·exact⟨k,by omega,h,h1,h2⟩
   ·rintro⟨j,hj,h2,h3,h4⟩
    rcases aac.1 hj with hj|rfl
    ·exact .inl ⟨j,hj,h2,h3,h4⟩
    ·exact .inr ⟨h3,h4⟩
section
variable {on m:Nat} {n:Int}
theorem Ms (h:Bk on m n=true):∃k:Nat,n=(k:Int)∧k≤8∧n6 k on m 0:=by
 obtain⟨h0,h8⟩:=kV (kB.1 h).1
 obtain⟨k,rfl⟩:=aau h0
 obtain⟨h1,h2⟩:=Cs h
 exact⟨k,rfl,h1,h2⟩
theorem S9 (h:Bk on m n=true):∀c,c∈j1 on m n→c.v &&& c.m=c.v:=λc hc=>(xO h hc).2.2.2
theorem Vb (h:Bk on m n=true):eO on (G8 (j1 on m n) n.toNat (-1) (j1 on m n).length)=true:=by
 have hv:=S9 h
 obtain⟨k,rfl,h8,hg⟩:=Ms h
 rw[d4]
 intro p hp ho
 obtain⟨c,hc,hh⟩:=(lk h8 (k+1) on m 0 hg (by omega)).2 p (hg.out p hp (hg.sub p hp ho)) ho
 obtain⟨j,hj,rfl⟩:=eZ (d:=⟨0,0⟩) hc
 exact(lz h8 p _ (am _) hv).2 ⟨j,hj,by omega,hg.out p hp (hg.sub p hp ho),hh⟩
abbrev EW (on m:Nat) (n:Int):List Cb:=Gk m n (j1 on m n)
theorem Sx (h:Bk on m n=true):(EW on m n).length≤19683:=an (qG _ _ _ _) (Eo (kV (kB.1 h).1).2)
theorem vJ (h:Bk on m n=true) {c:Cb} (hc:c∈EW on m n):iD c.m c.v m n=true:=by
 obtain⟨j,hj,rfl⟩:=(rp _).1 hc
 exact(tj (xO h (dy hj)).1).1
theorem Xi (h:Bk on m n=true):∀c,c∈EW on m n→c.m<256∧c.v<256:=λc hc=>by
 have:=mq (kP (vJ h hc))
 have h2:=fq (kV (kB.1 h).1).2
 omega
theorem SU (h:Bk on m n=true):∀c,c∈EW on m n→c.v &&& c.m=c.v:=λc hc=>(dw.1 (kP (vJ h hc))).2.2.2
theorem UB (h:Bk on m n=true):eO on (G8 (EW on m n) n.toNat (-1) (EW on m n).length)=true:=by
 have hv:=SU h
 have h1:=Vb h
 have hcv:=S9 h
 have hgp:∀j,j<(j1 on m n).length→∃k,k<(EW on m n).length∧(EW on m n).getD k ⟨0,0⟩=lK m n ((j1 on m n).getD j ⟨0,0⟩):=λj hj=>eZ ((rp _).2 ⟨j,hj,rfl⟩)
 have hgr:∀j,j<(j1 on m n).length→jx (lK m n ((j1 on m n).getD j ⟨0,0⟩)) ((j1 on m n).getD j ⟨0,0⟩)=true:=λj hj=>(tj (xO h (dy hj)).1).2
 obtain⟨q,rfl,h8,hg⟩:=Ms h
 rw[d4]
 intro p hp ho
 obtain⟨j,hj,_,h2,h3⟩:=(lz h8 p _ (am _) hcv).1 (d4.1 h1 p hp ho)
 obtain⟨k,hk,he⟩:=hgp j hj
 refine(lz h8 p _ (am _) hv).2 ⟨k,hk,by omega,h2,?_⟩
 have:=mD (p:=p) (show (lK m q ((j1 on m q).getD j ⟨0,0⟩)).v &&& (lK m q ((j1 on m q).getD j ⟨0,0⟩)).m=_ by rw[←he];exact hv _ (dy hk)) (hgr j hj) h3
 rw[he]
 exact this
end
end
section
open Go Go.RowKit
def vh (S:Sp) (o:Nat):List Cb:=Gk (kM S o) S.n (j1 (Bh S o) (kM S o) S.n)
def w4 (S:Sp) (o i:Nat):Rw:=wo S ⟨(vh S o).getD i ⟨0,0⟩,2^o⟩
def Jm (S:Sp) (o:Nat) (acc:List Rw):Nat→List Rw
 |0=>acc
 |i+1=>ja (Jm S o acc i) (w4 S o i)
def GZ (S:Sp):Nat→List Rw
 |0=>[]
 |o+1=>Jm S o (GZ S o) (vh S o).length
def mL (S:Sp):List Rw:=GZ S S.on.length
theorem rh {S:Sp} (hr:dq S=true) {o:Nat} (ho:o<S.on.length):Bk (Bh S o) (kM S o) S.n=true:=by
 grind [dD,kB,xz,decide_eq_true]
theorem LW {S:Sp} (hr:dq S=true) {o:Nat} (ho:o<S.on.length):(vh S o).length≤19683:=Sx (rh hr ho)
theorem IR {S:Sp} (hr:dq S=true) {o i:Nat} (ho:o<S.on.length) (hi:i<(vh S o).length):((vh S o).getD i ⟨0,0⟩).m<256∧((vh S o).getD i ⟨0,0⟩).v<256:=Xi (rh hr ho) _ (dy hi)
theorem zH {S:Sp} (hr:dq S=true) {o i:Nat} (ho:o<S.on.length) (hi:i<(vh S o).length):qw S ⟨(vh S o).getD i ⟨0,0⟩,2^o⟩=true:=by
 obtain⟨h0,h8,h1,h4,h5,hin⟩:=dD.1 hr
 refine ie.2 ⟨hr,aaz o,λj hj=> ?_⟩
 have hj':(2^o).testBit j=true:=hj
 rw[aas,decide_eq_true_eq]at hj'
 subst hj'
 exact⟨by omega,(gy.1 (vJ (rh hr ho) (dy hi))).1⟩
theorem X4 {S:Sp} (hr:dq S=true) {o i:Nat} (ho:o<S.on.length) (hi:i<(vh S o).length):(w4 S o i).c.m<256∧(w4 S o i).c.v<256∧(w4 S o i).o<256:=by
 obtain⟨h0,h8,h1,h4,h5,hin⟩:=dD.1 hr
 obtain⟨g1,g2⟩:=uB (S:=S) (x:=⟨(vh S o).getD i ⟨0,0⟩,2^o⟩) (IR hr ho hi) S.n.toNat
 refine⟨g1,g2,?_⟩
 have:=(rf (fR.1 (oD (zH hr ho hi)).1).1).2
 show (wo S ⟨(vh S o).getD i ⟨0,0⟩,2^o⟩).o<256
 omega
theorem Df (S:Sp) (o:Nat) (acc:List Rw):∀i,(Jm S o acc i).length≤acc.length+i
 |0=>am _
 |i+1=>an (rt _ _) (by have:=Df S o acc i;omega)
theorem Cn {S:Sp} (hr:dq S=true):∀o,o≤S.on.length→(GZ S o).length≤o*19683
 |0,_=>am _
 |o+1,ho=>by
  have h1:=Cn hr o (by omega)
  have h2:=Df S o (GZ S o) (vh S o).length
  have h3:=LW hr (show o<S.on.length by omega)
  rw[GZ]
  omega
theorem JC {S:Sp} {o:Nat} {acc:List Rw} {x:Rw}:∀i,x∈Jm S o acc i↔x∈acc∨∃q,q<i∧x=w4 S o q
 |0=>by simp[Jm]
 |i+1=>by
  rw[Jm,gt,JC i]
  constructor
  ·rintro((h|⟨q,hq,h⟩)|h)
   ·exact .inl h
   ·exact .inr ⟨q,by omega,h⟩
   ·exact .inr ⟨i,by omega,h⟩
  ·rintro(h|⟨q,hq,h⟩)
   ·exact .inl (.inl h)
   ·rcases aac.1 hq with hq|rfl
    ·exact .inl (.inr ⟨q,hq,h⟩)
    ·exact .inr h
theorem xn {S:Sp} {x:Rw}:∀o,x∈GZ S o↔∃q,q<o∧∃i,i<(vh S q).length∧x=w4 S q i
 |0=>by simp[GZ]
 |o+1=>by
  rw[GZ,JC,xn o]
  constructor
  ·rintro(⟨q,hq,h⟩|h)
   ·exact⟨q,by omega,h⟩
   ·exact⟨o,by omega,h⟩
  ·rintro⟨q,hq,h⟩
   rcases aac.1 hq with hq|rfl
   ·exact .inl ⟨q,hq,h⟩
   ·exact .inr h
theorem Ll {S:Sp} (hr:dq S=true):(mL S).length≤78732:=by
 have h:=Cn hr _ (am _)
 grind [dD,mL]
theorem wx {S:Sp} (hr:dq S=true) {x:Rw} (hx:x∈mL S):rj S x=true:=by
 obtain⟨q,hq,i,hi,rfl⟩:=(xn _).1 hx
 exact(oD (zH hr hq hi)).1
theorem QY {S:Sp} (hr:dq S=true):ix (mL S):=λx hx=>by
 obtain⟨q,hq,i,hi,rfl⟩:=(xn _).1 hx
 exact X4 hr hq hi
theorem wa {S:Sp} (hr:dq S=true):io S (mL S)=true:=by
 obtain⟨h0,h8,h1,h4,h5,hin⟩:=dD.1 hr
 have hm:mQ S (mL S)=true:=nS.2 λx hx=>by
  have hi:=(fR.1 (wx hr hx)).1
  exact ig.2 ⟨gD hi,(ie.1 hi).2.1,h5▸(rf hi).1⟩
 refine fN.2 ⟨hr,hm,λo ho=>(jR hr hm ho).2 λp hp=>⟨λhb=> ?_,λhb=> ?_⟩⟩
 ·have hok:=rh hr ho
  have hp8:p<256:=by have:=fq h8;omega
  obtain⟨i,hi,_,_,hh⟩:=(lz (n:=S.n.toNat) (by omega) p _ (am _) (SU hok)).1 (d4.1 (UB hok) p hp8 hb)
  obtain⟨hpr,hho⟩:=oD (zH hr ho (i:=i) hi)
  obtain⟨g1,g2⟩:=pJ.1 hho
  have hv:(w4 S o i).c.v &&& (w4 S o i).c.m=(w4 S o i).c.v:=(dw.1 (gD (fR.1 hpr).1)).2.2.2
  unfold DA
  rw[aaO]
  refine⟨w4 S o i,(xn _).2 ⟨o,ho,i,hi,rfl⟩,?_⟩
  rw[we]
  refine⟨g2 o (by show (2^o).testBit o=true;rw[aas];simp),?_⟩
  have:=mD (p:=p) hv g1 hh
  unfold mE
  rw[decide_eq_true_eq,hv]
  exact this
 ·unfold DA at hb
  rw[aaO]at hb
  obtain⟨x,hx,h2⟩:=hb
  rw[we]at h2
  have hi:=(fR.1 (wx hr hx)).1
  have hv:=(dw.1 (gD hi)).2.2.2
  have h3:=h2.2
  unfold mE at h3
  rw[decide_eq_true_eq,hv]at h3
  exact(gm.1 ((ie.1 hi).2.2 o h2.1).2).2 p hp h3
theorem Iz {ml:List Rw} {kk:Rw} (h:(!(iy (fp ml) ⟨⟨kk.c.m,kk.c.v⟩,kk.o⟩).getD false)=true):kk∉ml:=by
 rw[mn]at h
 simpa using h
theorem BV {ml:List Rw} {kk:Rw} (h:(!(iy (fp ml) ⟨⟨kk.c.m,kk.c.v⟩,kk.o⟩).getD false)=false):kk∈ml:=by
 rw[mn]at h
 simpa using h
theorem IC {S:Sp} {o i:Nat} {acc:List Rw} (h:w4 S o i∉Jm S o acc i):Jm S o acc i++[w4 S o i]=Jm S o acc (i+1):=(EA h).symm
theorem xS {S:Sp} {o i:Nat} {acc:List Rw} (h:w4 S o i∈Jm S o acc i):Jm S o acc i=Jm S o acc (i+1):=(xZ h).symm
end
section
open Go Go.RowKit
end
section
open Go Go.RowKit
def z6 (l:List Rw) (ks:List Int):Nat→List Rw
 |0=>[]
 |k+1=>if (k:Int)∈ks then z6 l ks k++[l.getD k ⟨⟨0,0⟩,0⟩]else z6 l ks k
theorem WZ {l:List Rw} {ks:List Int} {k:Nat} (h:(k:Int)∈ks):z6 l ks k++[l.getD k ⟨⟨0,0⟩,0⟩]=z6 l ks (k+1):=(if_pos h).symm
theorem X5 {l:List Rw} {ks:List Int} {k:Nat} (h:¬(k:Int)∈ks):z6 l ks k=z6 l ks (k+1):=(if_neg h).symm
theorem xF (l:List Rw) (ks:List Int):∀k,(z6 l ks k).length=(lg ks k).length
 |0=>rfl
 |k+1=>by
  rw[z6,nh]
  split
  ·rw[An,An,xF l ks k];rfl
  ·exact xF l ks k
theorem OM (l:List Rw) (ks:List Int) (k:Nat):(z6 l ks k).length≤ks.length:=by grind [xF,Fc]
theorem Jr (l:List Rw) (ks:List Int) (k:Nat):(z6 l ks k).length≤k:=by grind [xF,mF]
theorem Bi {l:List Rw} {m:Nat} (h:m<l.length):l.take m++[l.getD m ⟨⟨0,0⟩,0⟩]=l.take (m+1):=by
 simp_all
theorem Jt {l:List Rw} {ks:List Int}:∀k,k≤l.length→(z6 l ks k).Sublist (l.take k)
 |0,_=>by simp[z6]
 |k+1,hk=>by
  have ih:=Jt (l:=l) (ks:=ks) k (by omega)
  rw[z6,←Bi (by omega:k<l.length)]
  split
  ·exact ih.append (List.Sublist.refl _)
  ·exact ih.trans (List.sublist_append_left _ _)
def Vs (n:Nat) (ks:List Int):List Bool:=(List.range n).map λc:Nat=>decide ((c:Int)∈ks)
theorem IJ {n:Nat} {ks:List Int} {k:Nat} (h:k<n):(Vs n ks).getD k false=decide ((k:Int)∈ks):=by
 grind [Vs,List.getElem?_range]
theorem Ps {l:List Rw} {ks:List Int}:∀k,k≤l.length→z6 l ks k=Pv l (Vs l.length ks) k
 |0,_=>rfl
 |k+1,hk=>by
  rw[z6,Pv,Ps k (by omega),IJ (show k<l.length by omega)]
  simp only[decide_eq_true_eq]
theorem MK {n:Nat} {ks:List Int}:∀k,k≤n→QI (Vs n ks) k=lg ks k
 |0,_=>rfl
 |k+1,hk=>by
  rw[QI,nh,MK k (by omega),IJ (show k<n by omega)]
  simp only[decide_eq_true_eq]
section
variable {S:Sp}
theorem KB (hr:dq S=true) (h4:S.n≤4) (h3:S.on.length≤3):(eW S).length≤2048:=by
 obtain⟨h0,h8,_,_,h5,_⟩:=dD.1 hr
 have hn:(eW S).Nodup:=(pU S _).imp λh e=>by rw[e,ya]at h;cases h
 have h:=s6 (b:=(List.range 2048).map λq=>(⟨⟨q%16,q/16%16⟩,q/256⟩:Rw)) hn λx hx=> ?_
 ·simpa using h
 ·have hp:=(fR.1 ((uC hr).1 hx))
  have ho:=(rf hp.1).1
  have hrt:=gD hp.1
  obtain⟨r1,r2,r3,r4⟩:=dw.1 hrt
  have hp3:2^S.may.length≤2^3:=aaf (by decide) (by omega)
  have hp4:2^S.n.toNat≤2^4:=aaf (by decide) (by omega)
  have hm:x.c.m<16:=by omega
  have hvm:x.c.v≤x.c.m:=by rw[←r4];exact abm
  have hv:x.c.v<16:=by omega
  refine aag.2 ⟨x.c.m+16*x.c.v+256*x.o,aam.2 (by omega),?_⟩
  have e1:(x.c.m+16*x.c.v+256*x.o)%16=x.c.m:=by omega
  have e2:(x.c.m+16*x.c.v+256*x.o)/16%16=x.c.v:=by omega
  have e3:(x.c.m+16*x.c.v+256*x.o)/256=x.o:=by omega
  rw[e1,e2,e3]
theorem xH (hr:dq S=true):∀q,q<(eW S).length→qw S ((eW S).getD q ⟨⟨0,0⟩,0⟩)=true:=by grind [fR,pG]
theorem Gz (hr:dq S=true) (hl:(eW S).length≤4000) {ks:List Int} (h:nM (mI S (eW S)) ks):io S (z6 (eW S) ks (eW S).length)=true:=by
 rw[Ps _ (am _)]
 have hm:=TD (bs:=Vs (eW S).length ks) hr (xH hr) hl (am _)
 have hs:pW (mI S (eW S)) (QI (Vs (eW S).length ks) (eW S).length)=true:=by
  rw[MK _ (am _)]
  have:=ra (kE (S:=S) hl) h
  rw[so]at this
  exact IQ.2 this
 grind [kE]
theorem PR (hr:dq S=true) (hl:(eW S).length≤4000):nM (mI S (eW S)) (Vf (eW S).length):=by
 have hm:=TD (bs:=Vs (eW S).length (Vf (eW S).length)) hr (xH hr) hl (am _)
 have e:z6 (eW S) (Vf (eW S).length) (eW S).length=eW S:=by
  have key:∀k,k≤(eW S).length→z6 (eW S) (Vf (eW S).length) k=(eW S).take k:=by
   intro k
   induction k with
   |zero=>intro _;simp[z6]
   |succ k ih=>
    intro hk
    rw[z6,if_pos (Rq.2 ⟨by omega,by omega⟩),ih (by omega),Bi (by omega)]
  rw[key _ (am _),aan]
 rw[←Ps _ (am _),e,MK _ (am _),JE hr,kE hl,aax]at hm
 have h2:pW (mI S (eW S)) (lg (Vf (eW S).length) (eW S).length)=true:=hm
 grind [yY,IQ,ro]
theorem R5 {L:ML} {X:List Int} (h:nM L X):jz L L.length=true:=Nx.2 λi hi=>by
 obtain⟨c,h1,_⟩:=h _ (dy (d:=[]) hi)
 exact aaG h1
theorem Ve (hr:dq S=true) {Z:List Rw} (h:io S Z=true) {i:Nat} (hi:i<Z.length):qw S (Z.getD i ⟨⟨0,0⟩,0⟩)=true:=by
 obtain⟨_,hm,hc⟩:=fN.1 h
 obtain⟨h0,h8,h1,h4,h5,hin⟩:=dD.1 hr
 have hok:=ig.1 (ko.1 hm i hi)
 refine ie.2 ⟨hr,hok.2.1,λj hj=> ?_⟩
 have hjl:j<S.on.length:=by
  rcases aa0 j S.on.length with k|k
  ·exact k
  ·have:=gz.1 hok.2.2 j k
   rw[hj]at this;cases this
 refine⟨by omega,gm.2 ⟨hok.1,λp hp hh=> ?_⟩⟩
 refine((jR hr hm hjl).1 (hc j hjl) p hp).2 (uY.2 ⟨i,hi,?_⟩)
 rw[hj,aax]
 unfold mE
 grind
theorem Ri (hr:dq S=true) {Z:List Rw} (h:io S Z=true):∃Y:List Int,Y.Nodup∧nM (mI S (eW S)) Y∧Y.length≤Z.length:=by
 obtain⟨_,hm,hc⟩:=fN.1 h
 have place:∀z,∃c:Nat,z∈Z→qw S z=true→c<(eW S).length∧tm ((eW S).getD c ⟨⟨0,0⟩,0⟩) z=true:=λz=>by
  by_cases hz:qw S z=true
  ·obtain⟨j,h1,h2⟩:=(rT _).1 (Iv hz)
   exact⟨j,λ_ _=>⟨h1,h2⟩⟩
  ·exact⟨0,λ_ k=>absurd k hz⟩
 let idx:Rw→Int:=λz=>((Classical.choose (place z):Nat):Int)
 have hidx:∀z,z∈Z→qw S z=true→∃c:Nat,idx z=(c:Int)∧c<(eW S).length∧tm ((eW S).getD c ⟨⟨0,0⟩,0⟩) z=true:=λz h1 h2=>⟨_,rfl,Classical.choose_spec (place z) h1 h2⟩
 have fold:∀(l:List Rw) (acc:List Int),acc.Nodup→((l.foldl (λa z=>ja a (idx z)) acc).Nodup∧(l.foldl (λa z=>ja a (idx z)) acc).length≤acc.length+l.length∧∀x,x∈acc∨(∃z,z∈l∧x=idx z)→x∈l.foldl (λa z=>ja a (idx z)) acc):=by
  intro l
  induction l with
  |nil=>intro acc ha;exact⟨ha,by simp,λx hx=>hx.elim id λ⟨z,hz,_⟩=>by cases hz⟩
  |cons z l ih=>
   intro acc ha
   obtain⟨i1,i2,i3⟩:=ih (ja acc (idx z)) (jO ha _)
   have hl:=rt acc (idx z)
   refine⟨i1,?_,λx hx=>i3 x ?_⟩
   ·rw[abO,aak];omega
   ·rcases hx with hx|⟨y,hy,e⟩
    ·exact .inl (gt.2 (.inl hx))
    ·rcases aaq.1 hy with q|q
     ·rw[q]at e;exact .inl (gt.2 (.inr e))
     ·exact .inr ⟨y,q,e⟩
 obtain⟨f1,f2,f3⟩:=fold Z [] List.nodup_nil
 refine⟨_,f1,λr hr2=> ?_,by simpa using f2⟩
 obtain⟨q,hq,j,hj,e⟩:=(o6 _).1 (nk.1 hr2)
 obtain⟨p,hp,hpb,hpe⟩:=lV hj
 rw[hpe,so]at e
 have hpn:p<2^S.n.toNat:=TY hr hq hpb hp
 obtain⟨i,hi,hb⟩:=uY.1 (((jR hr hm hq).1 (hc q hq) p hpn).1 hpb)
 rw[we]at hb
 have hz:Z.getD i ⟨⟨0,0⟩,0⟩∈Z:=dy hi
 have hin:qw S (Z.getD i ⟨⟨0,0⟩,0⟩)=true:=Ve hr h hi
 obtain⟨c,h1,h2,h3⟩:=hidx _ hz hin
 obtain⟨h4,h5⟩:=pJ.1 h3
 refine⟨(c:Int),?_,f3 _ (.inr ⟨_,hz,h1.symm⟩)⟩
 rw[e]
 refine oW.2 ⟨c,rfl,h2,?_⟩
 unfold Lt
 rw[h5 q hb.1,aax]
 have hv1:=(dw.1 (gD hin)).2.2.2
 have hv2:=(dw.1 (gD (xH hr c h2))).2.2.2
 have hp1:=of_decide_eq_true hb.2
 rw[hv1]at hp1
 unfold mE
 rw[decide_eq_true_eq,hv2]
 grind [mD]
end
structure Mb (S:Sp) (R:List Rw):Prop where
 cov:io S R=true
 sub:R.Sublist (eW S)
 min:∀Z,io S Z=true→R.length≤Z.length
theorem Qi {S:Sp} {L:ML} {T X ks:List Int} (hr:dq S=true) (hl:(eW S).length≤4000) (h:mR (mI S (eW S)) L T) (k:Re L ((eW S).length:Int) X) (hk:∀c,c∈ks↔c∈T++X) (hn:ks.Nodup):Mb S (z6 (eW S) ks (eW S).length):=by
 obtain⟨h1,h2⟩:=Re.both h k
 refine⟨Gz hr hl (yY h1 λc hc=>(hk c).2 hc),?_,λZ hZ=> ?_⟩
 ·have:=Jt (l:=eW S) (ks:=ks) _ (am _)
  rwa [aan]at this
 ·obtain⟨Y,y1,y2,y3⟩:=Ri hr hZ
  have:=h2 Y y1 y2
  have h3:=OM (eW S) ks (eW S).length
  have h4:=s6 hn λc hc=>(hk c).1 hc
  omega
end
end Go.Proofs.YtedeonkjellcpaaGreatDoor
