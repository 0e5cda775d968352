/- ju rows of numbers: putting a number in its place, merging; what is told of a family; what is marked. No program in it. What the statements about families need: outcomes with room enough, the document's rows, and what they have to do with a family's members. No program in it. Ids and the rows of the -/
import Derived.Test.YtedeonkjellcpaaGreatDoorZ1
import Derived.Scope
namespace Go.Proofs.YtedeonkjellcpaaGreatDoor
set_option linter.unusedVariables false
set_option linter.unusedSimpArgs false
section
section
open Go Go.RowKit
theorem vbt {b:Bool} (h:b=true):Value.bool true= .bool b:=by rw[h]
theorem vbf {b:Bool} (h:¬b=true):Value.bool false= .bool b:=by rw[aa0.2 h]
def Inc (l:List Int):Prop:=l.Pairwise λa b=>a<b
def TL:List Int→Int→List Int
 |[],m=>[m]
 |x::xs,m=>if x<m then x::TL xs m else if x=m then x::xs else m::x::xs
def XE (l:List Int):Nat→List Int
 |0=>[]
 |k+1=>TL (XE l k) (l.getD k 0)
def ofI (l:List Int):List Int:=XE l l.length
def YO (ns:List Nd) (f:Nat):List Int:=ofI ((dA ns f).map λx:Nat=>(x:Int))
end
section
open Go Go.RowKit
structure abc (ns ns':List Nd) (c:Nat) (S:Nat→Prop) (id:Nat):Prop where
 v:id<ns'.length+2
 mem:∀x,x∈dA ns' id↔S x
 pre:ns<+:ns'
 cost:ns'.length≤ns.length+c
theorem ke.valid {ns ns':List Nd} {R c l:Nat} {S:Nat→Prop} {id:Nat} {er:Int} (g:ke ns ns' R c l S id er):id<ns'.length+2:=by
 rcases g.res with ⟨_,h2,_⟩|⟨_,h2,_⟩<;>omega
theorem O9 {ns ns':List Nd} (h:Wf ns') {id a b:Nat} (hid:id<ns'.length+2) (hs:∀x,x∈dA ns' id→x∈dA ns a∨x∈dA ns b):(dA ns' id).length≤(dA ns a).length+(dA ns b).length:=by
 have:=jC (l2:=dA ns a++dA ns b) (kL h id hid) (λx hx=>aah.2 (hs x hx))
 rwa [An]at this
def TyS (T:TypeId) (w:World) (v:Value) (l:List Int):Prop:=l≠[]→∃c fr,w.heap[AH v]? =some (.cells c T fr)
section
variable {T Ta Tn:TypeId} {N ba bm R:Nat} {w w':World} {v:Value} {l:List Int} {ns:List Nd}
end
def aaZ (F G:List Int) (b:Bool):List Int:=F.filter λx=>decide (x∈G)==b
def leB (l:List Int) (i k:Nat):Bool:=(List.range k).all λq=>decide (q=i)|| !decide (((l.getD i 0).toNat ||| (l.getD q 0).toNat:Nat)=(l.getD i 0).toNat)
def ZP (l:List Int) (k:Nat):List Int:=((List.range k).filter λi=>leB l i l.length).map λi=>l.getD i 0
end
section
open Go Go.RowKit
structure Is (ns:List Nd) (a:Nat) (F:List Int):Prop where
 v:a<ns.length+2
 s:YO ns a=F
section
variable {ns ns':List Nd} {a b id R c l:Nat} {A B f g:List Int} {er:Int}
theorem Is.pre (h:Is ns a A) (p:ns<+:ns'):Is ns' a A:=by
 have e:=h.s
 refine⟨by have:=gr p;have:=h.v;omega,?_⟩
 unfold YO at e ⊢
 rw[ii p h.v]
 exact e
end
section
variable {ns ns':List Nd} {a b id R c l n:Nat} {A B f g:List Int} {er:Int}
theorem TF {ok:Bool} {S:Nat→Prop} (q:(ok=true∧ke ns ns' R c l S id er)∨(ok=false∧ns'=ns∧id=0∧er=1)) (h:ok=true):ke ns ns' R c l S id er:=by
 rcases q with q|q
 ·exact q.2
 ·rw[h]at q;exact absurd q.1 (by decide)
theorem Vc {j:Nat} (hj:j<24):Hb [((2^j:Nat):Int)]=true:=vL.2 λm hm=>by
 rw[aaL.1 hm]
 have h1:2^j≤8388608:=by have:=aa8 (show 0<2 by decide) (show j≤23 by omega);simpa using this
 have h2:=abo j
 omega
end
theorem HI (u0 u1 u2:Value) (z:Array Value) (h0:u0.cells= #[u0]) (h1:u1.cells= #[u1]) (h2:u2.cells= #[u2]) (hz:z.size=3):Instr.fill (λi=>some (i*1,1)) z [(0,u0),(1,u1),(2,u2)]=some #[u0,u1,u2]:=by
 rw[fS 1 0 u0 _ z (by rw[h0];rfl) (by omega),fS 1 1 u1 _ _ (by rw[h1];rfl) (by simp[h0];omega),fS 1 2 u2 _ _ (by rw[h2];rfl) (by simp[h0,h1];omega),Instr.fill,h0,h1,h2]
 obtain⟨l⟩:=z
 match l,hz with
 |[a,b,c],_=>simp
section
variable {P:Program} {f:Nat→Value} {w w':World} {d:Option Nat} {ty:TypeId} {ps:String} {af:Array Edge} {g:Option (Nat×Bool)} {t e T:TypeId} {by_ N sz b:Nat} {K:Value→World→Prop}
theorem VJ {x0 x1 x2:Operand} {u0 u1 u2:Value} (hx0:dk f x0=u0) (hx1:dk f x1=u1) (hx2:dk f x2=u2) (hT:fl P t=some (e,1,by_)) (hz:(dW P e).map (λz=>z.cells.size)=some 1) (h0:u0.cells= #[u0]) (h1:u1.cells= #[u1]) (h2:u2.cells= #[u2])
  (hK:∀b w',b=w.heap.size→dC w w'→At w' b #[u0,u1,u2] e→K (.slice (some ⟨b,0,none⟩) 3 3) w'):Yd P ⟨d, .buildSlice t 3 #[(0,x0),(1,x1),(2,x2)],ty,ps,af,g⟩ f w K:=by
 obtain⟨z,hz,hzs⟩:=an.1 hz
 unfold dW at hz
 obtain⟨i,hi,hzz⟩:=Do.1 hz
 unfold fl at hT
 cases hun:P.underlying t with
 |none=>simp[hun]at hT
 |some desc=>
  cases desc<;>simp[hun]at hT
  rename_i e'
  obtain⟨i',hi',rfl,q1,rfl⟩:=hT
  obtain rfl:i'=i:=by rw[hi]at hi';exact(aaY hi').symm
  refine .val (w':=w.alloc (.cells #[u0,u1,u2] e')) ?_ (hK w.heap.size _ rfl (dC.alloc w _) (lR w _ _))
  have hf:=HI u0 u1 u2 ((Array.range (3*1)).map (z.cells[·%z.cells.size]!)) h0 h1 h2 fD
  simp only[ab4]at hf
  simp[execOp,hx0,hx1,hx2,Instr.buildSlice,run_underlying hun,sizeOf,typeInfo,hi,q1,zeroValue,hzz,newRow,hf]
end
end
end
section
open Go Go.RowKit
def OA (Q:Exit→(Nat→Value)→World→Prop):Exit→(Nat→Value)→World→Prop
 | .goto _=>λ_ _=>False
 |e=>Q e
section
variable {P:Program} {n:Nat} {Q Q':Exit→(Nat→Value)→World→Prop} {f:Nat→Value} {w:World}
theorem Fy {c:Code} (h:WC P n c (OA Q) f w):WC P n (.scope c) Q f w:=by
 refine⟨λa ha=>wp_scope_straight (Code.wp_mono (λe a' w' hq=> ?_) (h.out a ha))⟩
 obtain⟨f',hr,hq⟩:=hq
 cases e with
 |goto l=>exact hq.elim
 |_=>exact⟨f',hr,hq⟩
theorem Ec {l:Nat} (h:Q .normal f w):WC P n (.label l) Q f w:=⟨λ_ ha=>wp_label ⟨f,ha,h⟩⟩
instance retQ_scope [h:EI Q Q']:EI (OA Q) Q':=⟨λf w q=>h.out f w q⟩
end
theorem QW {P:Program} {f:Nat→Value} {w:World} {t u s k b:Nat} {T T':TypeId} {c:Array Value} {v v2:Value} {Post:Value→World→Prop} (h:f t=v) (h1:f u= .pointer (some ⟨b,0,none⟩)) (hT:kf P T=some k) (hm:At w b c T') (hk:k=c.size) (h2:f s=v2) (hp:Post (.tuple #[v, .agg c,v2]) w):mw P #[.tmp t, .cell u T, .tmp s] Post .ret f w:=by
 refine⟨_,λtmps fn ht hr=> ?_,hp⟩
 have e:=ht t
 have e1:=ht u
 have e2:=ht s
 rw[h]at e
 rw[h1]at e1
 rw[h2]at e2
 have hl:=nc (hk▸hT) hm
 simp only[abM]at e e1 e2
 simp[results,hr,e,e1,e2,asAddr,hl]
def WX (bm bt q1 q2 q3:Nat):List Value:=[.func (.func q1) #[] #[.pointer (some ⟨bm,0,none⟩), .pointer (some ⟨bt,0,none⟩)], .func (.func q2) #[] #[.pointer (some ⟨bm,0,none⟩)], .func (.func q3) #[] #[.pointer (some ⟨bm,0,none⟩)]]
def Z0 (q1 q2 q3:Nat):Nat→Nat
 |0=>q1
 |1=>q2
 |_=>q3
def ZM (bm bt:Nat):Nat→Array Value
 |0=> #[.pointer (some ⟨bm,0,none⟩), .pointer (some ⟨bt,0,none⟩)]
 |_=> #[.pointer (some ⟨bm,0,none⟩)]
theorem RX {bm bt q1 q2 q3 i:Nat} (hi:i<3):(WX bm bt q1 q2 q3).getD i undef= .func (.func (Z0 q1 q2 q3 i)) #[] (ZM bm bt i):=by
 match i,hi with
 |0,_=>rfl
 |1,_=>rfl
 |2,_=>rfl
theorem clB {P:Program} {q1 q2 q3 i:Nat} (h1:cX P q1=true) (h2:cX P q2=true) (h3:cX P q3=true):cX P (Z0 q1 q2 q3 i)=true:=by
 match i with
 |0=>exact h1
 |1=>exact h2
 |_+2=>exact h3
end
section
open Go Go.RowKit
theorem n6 {L:ML} {k:Nat}:jG L k=true↔∀i,i<k→0<(L.getD i []).length:=by
 unfold jG
 rw[aa2]
 exact⟨λh i hi=>of_decide_eq_true (h i (aba.2 hi)),λh i hi=>decide_eq_true (h i (aba.1 hi))⟩
theorem ZF {L:ML} {k:Nat} (hk:k<L.length) (h:((L.getD k []).length:Int)=0):Value.bool false= .bool (jG L L.length):=xn λe=>by
 have:=n6.1 e k hk
 omega
theorem Zj {L:ML} {k:Nat} (hk:k=L.length) (h:∀q,q<k→¬((L.getD q []).length:Int)=0):Value.bool true= .bool (jG L L.length):=Ou (n6.2 λi hi=>by
 have:=h i (by omega)
 omega)
theorem TW {L:ML} {i j:Nat} (hj:j<(L.getD i []).length) (h:(iH (fz (AE L i)) ((L.getD i []).getD j 0)).getD false=true):Gb (AE L i) (L.getD i [])=true:=abH.2 ⟨_,dB hj,decide_eq_true (vD h)⟩
theorem UZ {L:ML} {i j:Nat} (hj:j=(L.getD i []).length) (h:∀q,q<j→(iH (fz (AE L i)) ((L.getD i []).getD q 0)).getD false=false):¬Gb (AE L i) (L.getD i [])=true:=λe=>by
 obtain⟨c,h1,h2⟩:=abH.1 e
 obtain⟨q,hq,rfl⟩:=fi (d:=0) h1
 exact rh (h q (by omega)) (of_decide_eq_true h2)
theorem Yr {L:ML} {k:Nat} (h:Gb (AE L k) (L.getD k [])=true):AE L (k+1)=AE L k:=if_pos h
theorem Zk {L:ML} {k:Nat} (h:¬Gb (AE L k) (L.getD k [])=true):AE L (k+1)=qS (AE L k) (L.getD k []) (L.getD k []).length:=if_neg h
theorem YH {L:ML} {k:Nat} (h:Gb (AE L k) (L.getD k [])=true):Value.int .i64 (Gn L k:Int)= .int .i64 (Gn L (k+1):Int):=by rw[Gn,if_pos h]
theorem X8 {L:ML} {k:Nat} (h:¬Gb (AE L k) (L.getD k [])=true):Value.int .i64 ((Gn L k:Int)+1)= .int .i64 (Gn L (k+1):Int):=by rw[Gn,if_neg h];rfl
theorem GY (L:ML):∀k,Gn L k≤k
 |0=>am _
 |k+1=>by
  have:=GY L k
  rw[Gn]
  split<;>omega
theorem aao {r:List Int} {c:Int} {j:Nat} (h:c∈r.take j):Value.bool true= .bool (decide (c∈r.take (j+1))):=Ou (decide_eq_true (by rw[abt];exact aah.2 (.inl h)))
theorem aau {r:List Int} {c:Int} {j:Nat} (hj:j<r.length) (h:¬c∈r.take j):Value.bool (decide (r.getD j 0=c))= .bool (decide (c∈r.take (j+1))):=by
 congr 1
 rw[decide_eq_decide,abt,aah,we hj,me,we hj]
 simp only[Option.getD_some,Option.toList_some,aaL]
 exact⟨λe=> .inr e.symm,λe=>(e.resolve_left h).symm⟩
structure AB (L:ML) (i M:Nat) (l:List (Int×Int)):Prop where
 nd:(l.map (·.1)).Nodup
 inl:∀c,c∈l.map (·.1)→sM L c
 lim:∀p,p∈l→0≤p.2∧p.2≤M
 ne:∀k,k<i→0<(L.getD k []).length→l≠[]
section
variable {L:ML} {i j M:Nat} {l:List (Int×Int)} {c:Int}
theorem AB.nil:AB L 0 0 []:=⟨List.nodup_nil,λc h=>(by cases h),λp h=>(by cases h),λk hk=>(by cases hk)⟩
theorem AB.mono {M':Nat} (h:AB L i M l) (hM:M≤M'):AB L i M' l:=⟨h.nd,h.inl,λp hp=>⟨(h.lim p hp).1,by have:=(h.lim p hp).2;omega⟩,h.ne⟩
theorem AB.get (h:AB L i M l) (c:Int):0≤(iH l c).getD 0∧(iH l c).getD 0≤M:=by
 cases e:iH l c with
 |none=>exact⟨Int.le_refl _,Int.natCast_nonneg _⟩
 |some v=>exact h.lim (c,v) ((ny h.nd).1 e)
theorem Ku {α β:Type} [DecidableEq α] {l:List (α×β)} {c:α} {v:β} {p:α×β} (h:p∈iJ l c v):p=(c,v)∨p∈l:=by
 unfold iJ at h
 split at h
 ·obtain⟨q,hq,e⟩:=aa6.1 h
  split at e
  ·exact .inl e.symm
  ·rw[←e];exact .inr hq
 ·rcases aah.1 h with k|k
  ·exact .inr k
  ·exact .inl (aaL.1 k)
theorem J2 {v:Int}:iJ l c v≠[]:=λe=>by
 have:=lp l c v
 rw[e]at this
 have h2:c∈ji (l.map (·.1)) c:=gy.2 (.inr rfl)
 rw[←this]at h2
 cases h2
theorem AB.put (h:AB L i M l) (hi:i<L.length) (hj:j<(L.getD i []).length):AB L i (M+1) (iJ l ((L.getD i []).getD j 0) ((iH l ((L.getD i []).getD j 0)).getD 0+1)):=by
 refine⟨?_,λc hc=> ?_,λp hp=> ?_,λk _ _=>J2⟩
 ·rw[lp];exact jT h.nd _
 ·rw[lp]at hc
  rcases gy.1 hc with k|rfl
  ·exact h.inl c k
  ·exact⟨_,dB (d:=[]) hi,dB hj⟩
 ·rcases Ku hp with rfl|k
  ·have:=h.get ((L.getD i []).getD j 0)
   exact⟨by dsimp only;omega,by dsimp only;omega⟩
  ·have:=h.lim p k
   exact⟨this.1,by omega⟩
theorem AB.next {M':Nat} (h:AB L i M l) (hn:0<(L.getD i []).length→l≠[]) (hM:M≤M'):AB L (i+1) M' l:=⟨h.nd,h.inl,λp hp=>⟨(h.lim p hp).1,by have:=(h.lim p hp).2;omega⟩,λk hk hkl=>by
 rcases aaK.1 hk with q|rfl
 ·exact h.ne k q hkl
 ·exact hn hkl⟩
def Yc (L:ML) (seen:List Int) (b:Int):Prop:=(seen=[]∧b= -1)∨(0≤b∧sM L b)
theorem HR {n v:Int} {seen:List Int} (hr:dQ n L=true) (h:AB L i M l) (hc:(c,v)∈l):Yc L (c::seen) c:=
 have q:=h.inl c (aa6.2 ⟨_,hc,rfl⟩)
 .inr ⟨(sf hr q).1,q⟩
theorem Nx {seen:List Int} {b:Int} (h:Yc L seen b) (hb:¬b<0):Yc L (c::seen) b:= .inr (h.resolve_left λq=>by have:=q.2;omega)
theorem Va {seen:List Int} {b:Int} (h:Yc L seen b) (hu:AB L i M l) (hi:i=L.length) (hs:∀p,p∈l→p.1∈seen) (hk:∃k,k<L.length∧0<(L.getD k []).length):sM L b:=by
 obtain⟨k,hk,hl⟩:=hk
 rcases h with ⟨rfl,_⟩|h
 ·have:=hu.ne k (by omega) hl
  match l,this,hs with
  |p::_,_,hs=>cases hs p (aa9 ..)
 ·exact h.2
end
theorem GH {a b:List Int} (h:∀c,c∈a↔c∈b) (k:Nat):lY a k=lY b k:=by
 unfold lY
 congr 1
 exact List.filter_congr λc _=>decide_eq_decide.2 (h c)
theorem QR (l:List Int) (k:Nat):lY (qS [] l l.length) k=lY l k:=GH (λc=>by
 rw[rB _ (am _),aa7]
 simp) k
structure MX (n:Int) (L0 L:ML) (out:List Int):Prop where
 r:dQ n L=true
 full:jG L L.length=true
 up:∀X,nL L X→nL L0 (out++X)
 len:out.length+L.length≤L0.length
theorem adv {n:Int} {L:ML} (hr:dQ n L=true) (hf:jG L L.length=true):MX n L L []:=⟨hr,hf,λX h=>h,by simp⟩
theorem Ao {L:ML}:jG L L.length=true↔∀r,r∈L→r≠[]:=by
 rw[n6]
 constructor
 ·intro h r hr
  obtain⟨j,hj,rfl⟩:=fi (d:=[]) hr
  exact λe=>by have:=h j hj;rw[e]at this;cases this
 ·intro h i hi
  exact acp.2 (h _ (dB hi))
theorem MX.inl {n c:Int} {L0 L:ML} {out:List Int} (h:MX n L0 L out) (hp:(L.length:Int)>0) (hb:(∃k,k<L.length∧0<(L.getD k []).length)→sM L c):sM L c:=
 hb ⟨0,by omega,n6.1 h.full 0 (by omega)⟩
theorem MX.next {n c:Int} {L0 L:ML} {out:List Int} (h:MX n L0 L out) (hc:sM L c):MX n L0 (tD L c) (out++[c]):=by
 refine⟨yO h.r c,Ao.2 λr hr=>Ao.1 h.full r (oz.1 hr).1,λX hX=> ?_,?_⟩
 ·rw[abm]
  exact h.up _ (H4 hX)
 ·have:=BR hc
  have:=h.len
  rw[An,abp];omega
theorem MX.fin {n:Int} {L0 L:ML} {out:List Int} (h0:dQ n L0=true) (h:MX n L0 L out) (hp:¬(L.length:Int)>0):nL L0 (lY out n.toNat):=by
 have:L=[]:=abk (by omega)
 subst this
 have h2:=h.up [] (Jq _)
 rw[abK]at h2
 exact rK h0 h2
end
section
open Go Go.RowKit
structure Ef where
 n:Int
 rv:Value
 tv:Value
def De:Ef:=⟨0,undef,undef⟩
def Hu (x:Ef):List Value:=[.int .i64 x.n,x.rv,x.tv]
theorem uC:∀a,(Hu a).length=3:=λ_=>rfl
abbrev Hf:=ML×List Int
def mT:Hf:=([],[])
structure iB (TV TI:TypeId) (W:World) (xs:List Ef) (st:List Hf):Prop where
 len:xs.length=st.length
 mx:∀k,k<st.length→∃vs,cH encV 1 TV W 0 (xs.getD k De).rv vs∧LO TI 0 W vs (st.getD k mT).1
 ch:∀k,k<st.length→cH dT 1 TI W 0 (xs.getD k De).tv (st.getD k mT).2
section
variable {TV TI T':TypeId} {W W':World} {xs:List Ef} {st:List Hf} {N':Nat}
theorem iB.map (h:iB TV TI W xs st) (f:∀(α:Type) (enc:α→List Value) (T:TypeId) (v:Value) (l:List α),T=TV∨T=TI→cH enc 1 T W 0 v l→cH enc 1 T W' 0 v l):iB TV TI W' xs st:=
 ⟨h.len,λk hk=>by
  obtain⟨vs,h1,h2⟩:=h.mx k hk
  exact⟨vs,f _ _ _ _ _ (.inl rfl) h1,h2.len,λi hi=>f _ _ _ _ _ (.inr rfl) (h2.get i hi)⟩,λk hk=>f _ _ _ _ _ (.inr rfl) (h.ch k hk)⟩
theorem iB.ext (hE:dC W W') (h:iB TV TI W xs st):iB TV TI W' xs st:=h.map λ_ _ _ _ _ _ k=>hE.ow k
theorem iB.below {w:World} (hB:Below w.heap.size w W) (h:iB TV TI w xs st):iB TV TI W xs st:=h.map λ_ _ _ _ _ _ k=>Below.ow hB k
theorem iB.grownAt {b:Nat} {c:Array Value} (h:iB TV TI W xs st) (hm:At W b c T') (hG:W.grownBy W' (some b)) (h1:T'≠TV) (h2:T'≠TI):iB TV TI W' xs st:=
 h.map λ_ _ _ _ _ hT k=>k.grownAt hm hG (by rcases hT with rfl|rfl<;>assumption)
theorem iB.grownOw {α:Type} {enc:α→List Value} {sz:Nat} {v:Value} {l:List α} (h:iB TV TI W xs st) (hv:cH enc sz T' W N' v l) (hG:W.grownBy W' v.ownBlock) (h1:T'≠TV) (h2:T'≠TI):iB TV TI W' xs st:=
 h.map λ_ _ _ _ _ hT k=>k.grownOw hv hG (by rcases hT with rfl|rfl;exact h1.symm;exact h2.symm)
theorem pX {α:Type} {a b:List α} {d:α} {i:Nat} (h:i<a.length):(a++b).getD i d=a.getD i d:=by
 grind
theorem oN {α:Type} {a:List α} {x d:α}:(a++[x]).getD a.length d=x:=by
 grind
theorem jt {α:Type} {l:List α} {d:α} {i k:Nat} (h:i<k):(l.take k).getD i d=l.getD i d:=by
 grind
theorem iB.take (h:iB TV TI W xs st) (k:Nat):iB TV TI W (xs.take k) (st.take k):=by
 refine⟨by rw[aa4,aa4,h.len],λi hi=> ?_,λi hi=> ?_⟩
 ·rw[aa4]at hi
  rw[jt (by omega),jt (by omega)]
  exact h.mx i (by omega)
 ·rw[aa4]at hi
  rw[jt (by omega),jt (by omega)]
  exact h.ch i (by omega)
theorem iB.snoc {x:Ef} {y:Hf} {vs:List Value} (h:iB TV TI W xs st) (h1:cH encV 1 TV W 0 x.rv vs) (h2:LO TI 0 W vs y.1) (h3:cH dT 1 TI W 0 x.tv y.2):iB TV TI W (xs++[x]) (st++[y]):=by
 refine⟨by simp[h.len],λi hi=> ?_,λi hi=> ?_⟩
 ·rw[An,abp]at hi
  by_cases e:i<st.length
  ·rw[pX (h.len▸e),pX e];exact h.mx i e
  ·obtain rfl:i=st.length:=by omega
   rw[oN,←h.len,oN];exact⟨vs,h1,h2⟩
 ·rw[An,abp]at hi
  by_cases e:i<st.length
  ·rw[pX (h.len▸e),pX e];exact h.ch i e
  ·obtain rfl:i=st.length:=by omega
   rw[oN,←h.len,oN];exact h3
theorem iB.one {x:Ef} {y:Hf} {vs:List Value} (h1:cH encV 1 TV W 0 x.rv vs) (h2:LO TI 0 W vs y.1) (h3:cH dT 1 TI W 0 x.tv y.2):iB TV TI W [x] [y]:=
 iB.snoc (xs:=[]) (st:=[]) ⟨rfl,λk hk=>(by cases hk),λk hk=>(by cases hk)⟩ h1 h2 h3
end
structure Lk (xs:List Ef) (st:List Hf):Prop where
 r:∀k,k<st.length→dQ (xs.getD k De).n (st.getD k mT).1=true
 l:∀k,k<st.length→(st.getD k mT).1.length≤1000000
 c:∀k,k<st.length→k+cnt (st.getD k mT).1≤4000
 t:∀k,k<st.length→(st.getD k mT).2.length+4001*cnt (st.getD k mT).1≤16004000
section
variable {xs:List Ef} {st:List Hf}
theorem Lk.len (h:Lk xs st):st.length≤4001:=by
 cases e:st.length with
 |zero=>omega
 |succ k=>have:=h.c k (by omega);omega
theorem Lk.take (h:Lk xs st) (hl:xs.length=st.length) (k:Nat):Lk (xs.take k) (st.take k):=by
 refine⟨λi hi=> ?_,λi hi=> ?_,λi hi=> ?_,λi hi=> ?_⟩<;>rw[aa4]at hi
 ·rw[jt (by omega),jt (by omega)];exact h.r i (by omega)
 ·rw[jt (by omega)];exact h.l i (by omega)
 ·rw[jt (by omega)];exact h.c i (by omega)
 ·rw[jt (by omega)];exact h.t i (by omega)
theorem Lk.snoc (h:Lk xs st) (hl:xs.length=st.length) {x:Ef} {y:Hf} (h1:dQ x.n y.1=true) (h2:y.1.length≤1000000) (h3:st.length+cnt y.1≤4000) (h4:y.2.length+4001*cnt y.1≤16004000):Lk (xs++[x]) (st++[y]):=by
 refine⟨λi hi=> ?_,λi hi=> ?_,λi hi=> ?_,λi hi=> ?_⟩<;>rw[An,abp]at hi<;>by_cases e:i<st.length
 ·rw[pX (hl▸e),pX e];exact h.r i e
 ·obtain rfl:i=st.length:=by omega
  rw[oN,←hl,oN];exact h1
 ·rw[pX e];exact h.l i e
 ·obtain rfl:i=st.length:=by omega
  rw[oN];exact h2
 ·rw[pX e];exact h.c i e
 ·obtain rfl:i=st.length:=by omega
  rw[oN];exact h3
 ·rw[pX e];exact h.t i e
 all_goals grind
end
theorem PG (L:ML):cnt L≤4000:=by
 grind [cnt,Nat.le_trans,List.countP_le_length]
theorem adx {n:Int} {L:ML} {rv tv:Value} (hr:dQ n L=true) (hl:L.length≤1000000):Lk [⟨n,rv,tv⟩] [(L,[])]:=by
 grind [PG,Lk,List.length_nil]
def X1 (ops:Array Oper) (i j:Nat):Bool:=((ops[i]?).map λo=>o.after.toList.any λe=>Region.binds .any e&&e.on==j).getD false
theorem lj {ops:Array Oper} {L:Array Bool} {i j:Nat} (h:i∈Region.ready .any ops L) (hd:X1 ops i j=true):L.getD j false=true:=by
 unfold Region.ready at h
 have h2:=(abQ.1 h).2
 rw[th]at h2
 have h3:=h2.2
 unfold X1 at hd
 grind
theorem ma {ops:Array Oper} {L:Array Bool} {i:Nat} (h:i∈Region.ready .any ops L):L.getD i false=false:=by
 unfold Region.ready at h
 grind
section
variable {P:Program} {n:Nat} {ops:Array Oper} {Q:(Nat→Value)→World→Prop} {S:World→Prop} {f0:Nat→Value}
theorem xd {A:List Nat} {L1:Array Bool} {T:List Nat} {k:Nat} (I:Array Bool→(Nat→Value)→World→Prop)
  (hstep:∀i,A.contains i=true→∀L g w,i<L.size→i∈Region.ready .any ops L→I L g w→∃oi d,ops[i]? =some oi∧gf ops (mask T f0 g) oi=true∧oi.dst=some d∧jU n (some d)=true∧pc T d=true∧
   Yd P oi (mask T f0 g) w λv w'=>(S w'∨mO ops L i=true)∧I (L.setIfInBounds i true) (upd g d v) w')
  (hfin:∀g w,I L1 g w→WT P n ops Q S k L1 (mask T f0 g) w):
  ∀(m:Nat) (Ls:List (Array Bool)),H8 ops A L1 m Ls=true→∀L,L∈Ls→∀g w,I L g w→WT P n ops Q S (k+m) L (mask T f0 g) w
 |0,Ls,h,L,hL,g,w,hI=>by
  have e:L=L1:=by
   have:=aa2.1 h L hL
   exact eq_of_beq this
  subst e
  exact hfin g w hI
 |m+1,Ls,h,L,hL,g,w,hI=>by
  rw[H8,th]at h
  have h1:=aa2.1 h.1 L hL
  rw[th]at h1
  refine⟨λhsz hcl a ha=>⟨λh0=>(by rw[h0]at h1;exact absurd h1.1 (by decide)),λj hj=> ?_⟩⟩
  have hA:=aa2.1 h1.2 j hj
  have hjlt:j<L.size:=by
   obtain⟨_,oj,hoj,_⟩:=mem_ready.1 hj
   rw[hsz];exact(acs.1 hoj).1
  obtain⟨oi,d,hi,hw,hd,hok,hT,hY⟩:=hstep j hA L g w hjlt hj hI
  refine EV (K:=λf' w'=>(S w'∨mO ops L j=true)∧WT P n ops Q S (k+m) (L.setIfInBounds j true) f' w') hi hw hd hok ha
   (λf' a' w' hr' hk=>⟨hk.1,hk.2.out (by simpa using hsz) (hcl.add hj) a' hr'⟩) (hY.mono λv w' hv=>⟨hv.1,?_⟩)
  rw[FJ hT]
  refine xd I hstep hfin m _ h.2 _ ?_ _ _ hv.2
  unfold N0
  rw[List.mem_eraseDups]
  exact acN.2 ⟨L,hL,aa6.2 ⟨j,hj,rfl⟩⟩
theorem Rp {A:List Nat} {L0 L1:Array Bool} {T:List Nat} {k m:Nat} {w:World} (I:Array Bool→(Nat→Value)→World→Prop) (hc:H8 ops A L1 m [L0]=true) (h0:I L0 f0 w)
  (hstep:∀i,A.contains i=true→∀L g w,i<L.size→i∈Region.ready .any ops L→I L g w→∃oi d,ops[i]? =some oi∧gf ops (mask T f0 g) oi=true∧oi.dst=some d∧jU n (some d)=true∧pc T d=true∧
   Yd P oi (mask T f0 g) w λv w'=>(S w'∨mO ops L i=true)∧I (L.setIfInBounds i true) (upd g d v) w')
  (hfin:∀g w,I L1 g w→WT P n ops Q S k L1 (mask T f0 g) w):WT P n ops Q S (k+m) L0 f0 w:=by
 have:=xd (f0:=f0) (T:=T) I hstep hfin m [L0] hc L0 (aaL.2 rfl) f0 w h0
 rwa [BO]at this
end
theorem aaX {L:Array Bool} {i j:Nat} (hi:i<L.size):(L.setIfInBounds i true).getD j false=if j=i then true else L.getD j false:=by
 by_cases h:j=i
 ·subst h
  rw[if_pos rfl]
  exact rk.2 (.inl ⟨rfl,hi⟩)
 ·rw[if_neg h]
  grind [rk]
structure i6 (TV TI:TypeId) (wd:World) (n c:Int) (rest:ML) (vs8:List Value) (ov:Value) (out:List Int) (f3 f5 f8 f9 f11 f13 f14 f15:Bool) (u3 u5 u8 u9 u11 u13 u14 u15:Value) (W:World):Prop where
 s:dC wd W
 c5:f5=true→f3=true
 c8:f8=true→f3=true
 c11:f11=true→f8=true∧f9=true
 c14:f14=true→f11=true∧f13=true
 c15:f15=true→f14=true
 o3:f3=true→∃r vs,u3= .agg #[.int .i64 n,r]∧cH encV 1 TV W 0 r vs∧LO TI 0 W vs (qD rest c)∧(f9=true→f11=false→∀x,x∈vs→ft u9 x)∧(f11=true→f14=false→∀x,x∈vs→ft u11 x)
 o5:f5=true→∃r,u3= .agg #[.int .i64 n,r]∧u5= .agg #[.int .i64 n,r,ov]
 o8:f8=true→∃r,u8= .agg #[.int .i64 n,r]∧cH encV 1 TV W 0 r vs8
 o9:f9=true→f11=false→cH dT 1 TI W wd.heap.size u9 ([]:List Int)
 o11:f11=true→f14=false→cH dT 1 TI W wd.heap.size u11 out
 o13:f13=true→f14=false→cH dT 1 TI W wd.heap.size u13 [c]∧(f9=true→f11=false→ft u9 u13)
 o14:f14=true→cH dT 1 TI W wd.heap.size u14 (out++[c])
 o15:f15=true→∃r,u8= .agg #[.int .i64 n,r]∧u15= .agg #[.int .i64 n,r,u14]
section
variable {TV TI:TypeId} {wd W W':World} {n c:Int} {rest:ML} {vs8:List Value} {ov:Value} {out:List Int} {f3 f5 f8 f9 f11 f13 f14 f15:Bool} {u3 u5 u8 u9 u11 u13 u14 u15 v:Value} {r:Value} {vs:List Value}
theorem LO.row {N:Nat} {L:ML} {x:Value} (h:LO TI N W vs L) (hx:x∈vs):∃l,cH dT 1 TI W N x l:=by
 obtain⟨j,hj,rfl⟩:=fi (d:=undef) hx
 exact⟨_,h.get j (by rw[←h.len];exact hj)⟩
theorem ady (W:World):i6 TV TI W n c rest vs8 ov out false false false false false false false false u3 u5 u8 u9 u11 u13 u14 u15 W:=by
 constructor<;>first|exact dC.refl _|(intro h;cases h)
theorem i6.ext (h:i6 TV TI wd n c rest vs8 ov out f3 f5 f8 f9 f11 f13 f14 f15 u3 u5 u8 u9 u11 u13 u14 u15 W) (hE:dC W W'):i6 TV TI wd n c rest vs8 ov out f3 f5 f8 f9 f11 f13 f14 f15 u3 u5 u8 u9 u11 u13 u14 u15 W':=
 ⟨h.s.trans hE,h.c5,h.c8,h.c11,h.c14,h.c15,λq=>by obtain⟨r,vs,a,b,c,d⟩:=h.o3 q;exact⟨r,vs,a,hE.ow b,LO.ext hE c,d⟩,h.o5,λq=>by obtain⟨r,a,b⟩:=h.o8 q;exact⟨r,a,hE.ow b⟩,
  λa b=>hE.ow (h.o9 a b),λa b=>hE.ow (h.o11 a b),λa b=>⟨hE.ow (h.o13 a b).1,(h.o13 a b).2⟩,λa=>hE.ow (h.o14 a),h.o15⟩
theorem i6.p3 (h:i6 TV TI wd n c rest vs8 ov out f3 f5 f8 f9 f11 f13 f14 f15 u3 u5 u8 u9 u11 u13 u14 u15 W) (n3:f3=false) (hE:dC W W') (h1:cH encV 1 TV W' 0 r vs) (h2:LO TI W.heap.size W' vs (qD rest c)):
  i6 TV TI wd n c rest vs8 ov out true f5 f8 f9 f11 f13 f14 f15 (.agg #[.int .i64 n,r]) u5 u8 u9 u11 u13 u14 u15 W':=by
 have k:=h.ext hE
 have n5:f5=true→False:=λq=>by rw[h.c5 q]at n3;cases n3
 have n8:f8=true→False:=λq=>by rw[h.c8 q]at n3;cases n3
 have n11:f11=true→False:=λq=>n8 (h.c11 q).1
 refine⟨k.s,λ_=>rfl,λ_=>rfl,k.c11,k.c14,k.c15,λ_=>⟨r,vs,rfl,h1,h2.mono (my _),λa b x hx=> ?_,λq=>(n11 q).elim⟩,λq=>(n5 q).elim,λq=>(n8 q).elim,k.o9,k.o11,k.o13,k.o14,k.o15⟩
 obtain⟨l,hl⟩:=h2.row hx
 exact ft.new (acL (h.o9 a b)) hl
theorem i6.p5 (h:i6 TV TI wd n c rest vs8 ov out f3 f5 f8 f9 f11 f13 f14 f15 u3 u5 u8 u9 u11 u13 u14 u15 W) (n3:f3=true) (e:u3= .agg #[.int .i64 n,r]):
  i6 TV TI wd n c rest vs8 ov out f3 true f8 f9 f11 f13 f14 f15 u3 (.agg #[.int .i64 n,r,ov]) u8 u9 u11 u13 u14 u15 W:=
 ⟨h.s,λ_=>n3,h.c8,h.c11,h.c14,h.c15,h.o3,λ_=>⟨r,e,rfl⟩,h.o8,h.o9,h.o11,h.o13,h.o14,h.o15⟩
theorem i6.p8 (h:i6 TV TI wd n c rest vs8 ov out f3 f5 f8 f9 f11 f13 f14 f15 u3 u5 u8 u9 u11 u13 u14 u15 W) (n3:f3=true) (n8:f8=false) (hE:dC W W') (h1:cH encV 1 TV W' 0 r vs8):
  i6 TV TI wd n c rest vs8 ov out f3 f5 true f9 f11 f13 f14 f15 u3 u5 (.agg #[.int .i64 n,r]) u9 u11 u13 u14 u15 W':=by
 have k:=h.ext hE
 have n15:f15=true→False:=λq=>by rw[(h.c11 (h.c14 (h.c15 q)).1).1]at n8;cases n8
 exact⟨k.s,k.c5,λ_=>n3,λq=>⟨rfl,(k.c11 q).2⟩,k.c14,k.c15,k.o3,k.o5,λ_=>⟨r,rfl,h1⟩,k.o9,k.o11,k.o13,k.o14,λq=>(n15 q).elim⟩
theorem i6.p9 {b:Nat} (h:i6 TV TI wd n c rest vs8 ov out f3 f5 f8 f9 f11 f13 f14 f15 u3 u5 u8 u9 u11 u13 u14 u15 W) (n9:f9=false) (hb:b=W.heap.size) (hE:dC W W') (hm:At W' b #[] TI):
  i6 TV TI wd n c rest vs8 ov out f3 f5 f8 true f11 f13 f14 f15 u3 u5 u8 (.slice (some ⟨b,0,none⟩) 0 0) u11 u13 u14 u15 W':=by
 have k:=h.ext hE
 have n11:f11=true→False:=λq=>by rw[(h.c11 q).2]at n9;cases n9
 have ap:∀x,(∀j,x.ownBlock=some j→j<W.heap.size)→ft (.slice (some ⟨b,0,none⟩) 0 0) x:=λx hx j h1 h2=>by
  obtain rfl:b=j:=aaY h1
  have:=hx b h2
  omega
 refine⟨k.s,k.c5,k.c8,λq=>(n11 q).elim,k.c14,k.c15,λq=> ?_,k.o5,k.o8,λ_ _=>vq hm (hb▸dC.size h.s),k.o11,λa b=>⟨(k.o13 a b).1,λ_ _=>ap _ (acL (h.o13 a b).1)⟩,k.o14,k.o15⟩
 obtain⟨r,vs,a1,a2,a3,a4,a5⟩:=h.o3 q
 exact⟨r,vs,a1,hE.ow a2,LO.ext hE a3,λ_ _ x hx=>by obtain⟨l,hl⟩:=a3.row hx;exact ap _ (acL hl),λq=>(n11 q).elim⟩
theorem i6.p13 (h:i6 TV TI wd n c rest vs8 ov out f3 f5 f8 f9 f11 f13 f14 f15 u3 u5 u8 u9 u11 u13 u14 u15 W) (n13:f13=false) (hE:dC W W') (hm:cH dT 1 TI W' W.heap.size v [c]):
  i6 TV TI wd n c rest vs8 ov out f3 f5 f8 f9 f11 true f14 f15 u3 u5 u8 u9 u11 v u14 u15 W':=by
 have k:=h.ext hE
 have n14:f14=true→False:=λq=>by rw[(h.c14 q).2]at n13;cases n13
 exact⟨k.s,k.c5,k.c8,k.c11,λq=>(n14 q).elim,k.c15,k.o3,k.o5,k.o8,k.o9,k.o11,λ_ _=>⟨hm.mono (dC.size h.s),λa b=>ft.new (acL (h.o9 a b)) hm⟩,k.o14,k.o15⟩
theorem LO.grownAp {N:Nat} {L:ML} {u:Value} (h:LO TI N W vs L) (ha:∀x,x∈vs→ft u x) (hG:W.grownBy W' u.ownBlock):LO TI N W' vs L:=
 ⟨h.len,λk hk=>(h.get k hk).grownAp (ha _ (dB (by rw[h.len];exact hk))) hG⟩
theorem i6.p11 (h:i6 TV TI wd n c rest vs8 ov out f3 f5 f8 f9 f11 f13 f14 f15 u3 u5 u8 u9 u11 u13 u14 u15 W) (hT:TI≠TV) (n11:f11=false) (n8:f8=true) (n9:f9=true) (hG:W.grownBy W' u9.ownBlock) (ho:cH dT 1 TI W' wd.heap.size v out)
  (hob:v.ownBlock=u9.ownBlock∨v.ownBlock=some W.heap.size):i6 TV TI wd n c rest vs8 ov out f3 f5 f8 f9 true f13 f14 f15 u3 u5 u8 u9 v u13 u14 u15 W':=by
 have n14:f14=true→False:=λq=>by rw[(h.c14 q).1]at n11;cases n11
 have h9:=h.o9 n9 n11
 refine⟨dg h.s hG (am _) (λj hj=>cH.lt h9 j hj),h.c5,h.c8,λ_=>⟨n8,n9⟩,λq=>(n14 q).elim,h.c15,λq=> ?_,h.o5,λq=> ?_,λ_ q=>(by cases q),λ_ _=>ho,λa b=>⟨?_,λ_ q=>(by cases q)⟩,λq=>(n14 q).elim,h.o15⟩
 ·obtain⟨r,vs,a1,a2,a3,a4,a5⟩:=h.o3 q
  exact⟨r,vs,a1,a2.grownOw h9 hG hT.symm,a3.grownAp (a4 n9 n11) hG,λ_ q=>(by cases q),λ_ _ x hx=>by obtain⟨l,hl⟩:=a3.row hx;exact ft.app (a4 n9 n11 x hx) hob hl⟩
 ·obtain⟨r,a1,a2⟩:=h.o8 q
  exact⟨r,a1,a2.grownOw h9 hG hT.symm⟩
 ·exact(h.o13 a b).1.grownAp ((h.o13 a b).2 n9 n11) hG
theorem i6.p14 (h:i6 TV TI wd n c rest vs8 ov out f3 f5 f8 f9 f11 f13 f14 f15 u3 u5 u8 u9 u11 u13 u14 u15 W) (hT:TI≠TV) (n14:f14=false) (n11:f11=true) (n13:f13=true) (hG:W.grownBy W' u11.ownBlock) (ho:cH dT 1 TI W' wd.heap.size v (out++[c])):
  i6 TV TI wd n c rest vs8 ov out f3 f5 f8 f9 f11 f13 true f15 u3 u5 u8 u9 u11 u13 v u15 W':=by
 have n15:f15=true→False:=λq=>by rw[h.c15 q]at n14;cases n14
 have h11:=h.o11 n11 n14
 refine⟨dg h.s hG (am _) (λj hj=>cH.lt h11 j hj),h.c5,h.c8,h.c11,λ_=>⟨n11,n13⟩,λ_=>rfl,λq=> ?_,h.o5,λq=> ?_,λ_ q=>(by rw[n11]at q;cases q),λ_ q=>(by cases q),λ_ q=>(by cases q),λ_=>ho,λq=>(n15 q).elim⟩
 ·obtain⟨r,vs,a1,a2,a3,a4,a5⟩:=h.o3 q
  exact⟨r,vs,a1,a2.grownOw h11 hG hT.symm,a3.grownAp (a5 n11 n14) hG,λ_ q=>(by rw[n11]at q;cases q),λ_ q=>(by cases q)⟩
 ·obtain⟨r,a1,a2⟩:=h.o8 q
  exact⟨r,a1,a2.grownOw h11 hG hT.symm⟩
theorem i6.p15 (h:i6 TV TI wd n c rest vs8 ov out f3 f5 f8 f9 f11 f13 f14 f15 u3 u5 u8 u9 u11 u13 u14 u15 W) (n14:f14=true) (e:u8= .agg #[.int .i64 n,r]):
  i6 TV TI wd n c rest vs8 ov out f3 f5 f8 f9 f11 f13 f14 true u3 u5 u8 u9 u11 u13 u14 (.agg #[.int .i64 n,r,u14]) W:=
 ⟨h.s,h.c5,h.c8,h.c11,h.c14,λ_=>n14,h.o3,h.o5,h.o8,h.o9,h.o11,h.o13,h.o14,λ_=>⟨r,e,rfl⟩⟩
end
structure px (n:Int) (L:ML) (bud:Int) (xs:List Ef) (st:List Hf) (best:List Int) (steps:Int):Prop where
 sw:sZ L st best
 sl:Lk xs st
 len:xs.length=st.length
 bl:best.length≤4000
 s0:0≤steps
 sb:steps≤bud
 ps:steps.toNat+Iu st≤2^cnt L-1
theorem wh {st:List Hf} {k:Nat} (h:st.length=k+1):st=st.take k++[st.getD k mT]:=by
 grind [mT,List.take_add_one,List.getElem?_eq_getElem,List.take_length]
theorem Je {n:Int} {Lx rest:ML} {T:List Int} (hr:dQ n Lx=true) (hf:jG Lx Lx.length=true) (h:mW Lx rest T):∀r,r∈rest→0<r.length:=λr hr2=>by
 have hs:nL Lx Lx.flatten:=λq hq=>by
  match q,hq,Ao.1 hf q hq with
  |c::q',hq,_=>exact⟨c,aa9 ..,List.mem_flatten.2 ⟨_,hq,aa9 ..⟩⟩
 obtain⟨X,_,h2,_⟩:=h.dn _ (l8 _ _) (rK hr hs)
 obtain⟨c,hc,_⟩:=h2 r hr2
 exact acp.2 λe=>by rw[e]at hc;cases hc
section
variable {n n':Int} {L rest:ML} {bud steps:Int} {xs:List Ef} {st:List Hf} {best T:List Int} {k:Nat} {c:Int} {rv tv:Value}
theorem adz {best:List Int} (hr:dQ n L=true) (hl:L.length≤1000000) (hb:nL L best) (hbl:best.length≤4000) (h0:0≤bud):px n L bud [⟨n,rv,tv⟩] [(L,[])] best 0:=
 ⟨adw hb,adx hr hl,rfl,hbl,Int.le_refl _,h0,by simp[Iu]⟩
theorem px.sw' (h:px n L bud xs st best steps) (hk:st.length=k+1):sZ L (st.take k++[st.getD k mT]) best:=by rw[←wh hk];exact h.sw
theorem px.drop {best':List Int} (h:px n L bud xs st best steps) (hk:st.length=k+1) (hs:sZ L (st.take k) best') (hl:best'.length≤4000):px n L bud (xs.take k) (st.take k) best' steps:=
 ⟨hs,h.sl.take h.len k,by rw[aa4,aa4,h.len],hl,h.s0,h.sb,by
  have h1:=h.ps
  have h2:=Pg (st.take k) (st.getD k mT)
  rw[←wh hk]at h2
  omega⟩
theorem px.none (h:px n L bud xs st best steps) (hk:st.length=k+1) (hf:(!jG (st.getD k mT).1 (st.getD k mT).1.length)=true):px n L bud (xs.take k) (st.take k) best steps:=by
 have hf2:¬∀i,i<(st.getD k mT).1.length→0<((st.getD k mT).1.getD i []).length:=λq=>by rw[n6.2 q]at hf;cases hf
 obtain⟨i,hi⟩:=Classical.not_forall.1 hf2
 obtain⟨hi,hl⟩:=Classical.not_imp.1 hi
 exact h.drop hk ((h.sw' hk).none (dB (d:=[]) hi) (abk (by omega))) h.bl
theorem px.leaf (h:px n L bud xs st best steps) (hk:st.length=k+1) (hr:mW (st.getD k mT).1 rest T) (he:rest.length=0) (hl:((st.getD k mT).2++T).length<best.length):px n L bud (xs.take k) (st.take k) ((st.getD k mT).2++T) steps:=
 h.drop hk ((h.sw' hk).leaf hr (abk he) hl) (go (Nat.le_of_lt hl) h.bl)
theorem px.leaf0 (h:px n L bud xs st best steps) (hk:st.length=k+1) (hr:mW (st.getD k mT).1 rest T) (hl:¬((st.getD k mT).2++T).length<best.length):px n L bud (xs.take k) (st.take k) best steps:=
 h.drop hk ((h.sw' hk).leaf0 hr hl) h.bl
theorem px.prune (h:px n L bud xs st best steps) (hk:st.length=k+1) (hr:mW (st.getD k mT).1 rest T) (hl:best.length≤((st.getD k mT).2++T).length+Gn rest rest.length):px n L bud (xs.take k) (st.take k) best steps:=
 h.drop hk ((h.sw' hk).prune hr hl) h.bl
theorem px.branch {x1 x2:Ef} (h:px n L bud xs st best steps) (hk:st.length=k+1) (hr:mW (st.getD k mT).1 rest T) (hrr:dQ n' rest=true) (hT:T.length≤4000) (hrl:rest.length≤1000000) (hc:sM rest c) (hne:¬steps=bud) (e1:x1.n=n') (e2:x2.n=n'):
  px n L bud (xs.take k++[x1,x2]) (st.take k++[(qD rest c,(st.getD k mT).2++T),(tD rest c,(st.getD k mT).2++T++[c])]) best (steps+1):=by
 have hcm:=vz hr.sub
 have h1:=HQ hrr hc
 have h2:=Ha hrr hc
 have h3:=h.sl.c k (by omega)
 have h4:=h.sl.t k (by omega)
 have ht:(xs.take k).length=(st.take k).length:=by rw[aa4,aa4,h.len]
 have hk2:(st.take k).length=k:=by rw[aa4];omega
 refine⟨(h.sw' hk).branch hr c,?_,by simp only[An,ht];rfl,h.bl,by have:=h.s0;omega,by have:=h.sb;omega,?_⟩
 ·have hl1:((st.getD k mT).2++T).length+4001*cnt (qD rest c)≤16004000:=by rw[An];omega
  have hl2:((st.getD k mT).2++T++[c]).length+4001*cnt (tD rest c)≤16004000:=by rw[An,An,abp];omega
  have s1:=(h.sl.take h.len k).snoc ht (x:=x1) (y:=(qD rest c,(st.getD k mT).2++T)) (by rw[e1];exact Fh hrr c) (by dsimp only;rw[len_le];exact hrl) (by dsimp only;omega) hl1
  have s2:=s1.snoc (by simp only[An,ht];rfl) (x:=x2) (y:=(tD rest c,(st.getD k mT).2++T++[c])) (by rw[e2];exact yO hrr c) (by dsimp only;have:=Ox rest c;omega) (by rw[An,abp];dsimp only;omega) hl2
  rw[abm,abm]at s2
  exact s2
 ·have h5:=z6 (st:=st.take k) (x:=st.getD k mT) (a:=(st.getD k mT).2++T) (b:=(st.getD k mT).2++T++[c]) hrr hr hc
  rw[←wh hk]at h5
  have h6:=h.ps
  omega
theorem px.out (h:px n L bud xs st best steps) (hk:st.length=k+1) (hr:mW (st.getD k mT).1 rest T) (hrr:dQ n' rest=true) (hc:sM rest c) (he:steps=bud):bud.toNat+1<2^cnt L:=by
 have h5:=z6 (st:=st.take k) (x:=st.getD k mT) (a:=[]) (b:=[]) hrr hr hc
 rw[←wh hk]at h5
 have h6:=h.ps
 omega
theorem ac8 (h:st.length=k+1):D9 (st.take k)<D9 st:=by
 grind [N6,mT,wh]
theorem adr (hk:st.length=k+1) (hr:mW (st.getD k mT).1 rest T) (hrr:dQ n' rest=true) (hc:sM rest c) {a b:List Int}:D9 (st.take k++[(qD rest c,a),(tD rest c,b)])<D9 st:=by
 have:=Ii (st:=st.take k) (x:=st.getD k mT) (a:=a) (b:=b) hrr hr hc
 grind [wh]
end
theorem iB.two {TV TI:TypeId} {W:World} {xs:List Ef} {st:List Hf} {x1 x2:Ef} {y1 y2:Hf} {vs1 vs2:List Value} (h:iB TV TI W xs st) (a1:cH encV 1 TV W 0 x1.rv vs1) (a2:LO TI 0 W vs1 y1.1) (a3:cH dT 1 TI W 0 x1.tv y1.2)
  (b1:cH encV 1 TV W 0 x2.rv vs2) (b2:LO TI 0 W vs2 y2.1) (b3:cH dT 1 TI W 0 x2.tv y2.2):iB TV TI W (xs++[x1,x2]) (st++[y1,y2]):=by
 have:=(h.snoc a1 a2 a3).snoc b1 b2 b3
 grind
theorem Vg {n:Int} {v u:Value} (h:v.oneCell'=true) (k:u.oneCell'=true):[Value.int .i64 n,v,u].all Value.oneCell'=true:=by simp only[ab1,acD,h,k,abN];rfl
section
variable {P:Program} {f:Nat→Value} {w:World} {d:Option Nat} {t t2 ty:TypeId} {ps:String} {af:Array Edge} {g:Option (Nat×Bool)} {x y:Operand}
theorem OY {a b:Int} {k:Nat} (hx:dk f x= .int .i64 a) (hy:dk f y= .int .i64 b) (hk:a-b=(k:Int)) (hl:k≤1000000000):
  (execOp (dk f) ⟨d, .binOp .sub t x y t2,ty,ps,af,g⟩).run P w= .ok (.value (.int .i64 (k:Int))) w:=by
 rw[←hk]
 grind [jS]
end
theorem Qk {n m:Int} {a b c d:Value} (ha:a.oneCell'=true) (hb:b.oneCell'=true) (hc:c.oneCell'=true) (hd:d.oneCell'=true):([(⟨n,a,b⟩:Ef),⟨m,c,d⟩].flatMap Hu).all Value.oneCell'=true:=by
 simp only[abv,List.flatMap_nil,Hu,abK,abR,abG,ab1,acD,ha,hb,hc,hd,abN]
 rfl
theorem rZ {L:Array Bool} {i:Nat} (hi:i<L.size):(L.setIfInBounds i true).getD i false=true:=by simp_all
theorem ea {L:Array Bool} {i j:Nat} (hi:i<L.size) (h:j≠i):(L.setIfInBounds i true).getD j false=L.getD j false:=(aaX hi).trans (if_neg h)
theorem ac0 {TV TI:TypeId} {wd W:World} {n c:Int} {rest:ML} {vs8:List Value} {ov:Value} {out:List Int} {f3 f5 f8 f9 f11 f13 f14 f15 g3 g5 g8 g9 g11 g13 g14 g15:Bool} {u3 u5 u8 u9 u11 u13 u14 u15:Value}
  (h:i6 TV TI wd n c rest vs8 ov out f3 f5 f8 f9 f11 f13 f14 f15 u3 u5 u8 u9 u11 u13 u14 u15 W) (e3:g3=f3) (e5:g5=f5) (e8:g8=f8) (e9:g9=f9) (e11:g11=f11) (e13:g13=f13) (e14:g14=f14) (e15:g15=f15):
  i6 TV TI wd n c rest vs8 ov out g3 g5 g8 g9 g11 g13 g14 g15 u3 u5 u8 u9 u11 u13 u14 u15 W:=by
 grind
theorem Rq {n:Int} {Lx rest:ML} {T:List Int} (hr:dQ n Lx=true) (hf:jG Lx Lx.length=true) (h:mW Lx rest T) (hp:0<rest.length):∃c,sM rest c:=by
 have hm:rest.getD 0 []∈rest:=dB hp
 have:=Je hr hf h _ hm
 exact⟨_,_,hm,dB (d:=0) this⟩
theorem px.fin {n:Int} {L:ML} {bud steps:Int} {xs:List Ef} {st:List Hf} {best:List Int} (h:px n L bud xs st best steps) (hr:dQ n L=true) (hx:xs.length=0):SP L n (lY best n.toNat):=by
 have:st=[]:=abk (by rw[←h.len];exact hx)
 subst this
 exact h.sw.fin hr
end
section
open Go Go.RowKit
theorem WF {S:Sp} (hr:dt S=true):iC (eV S):=λx hx=>by
 have h:=(fQ.1 ((uR hr).1 hx)).1
 have h1:=mG (gI h)
 have h2:=fw (dz.1 hr).2.1
 have h3:=(rM h).2
 omega
theorem qf {S:Sp} (hr:dt S=true) {i:Nat} (hi:i<(eV S).length):rq S ((eV S).getD i ⟨⟨0,0⟩,0⟩)=true:=by grind [uR,dB]
def Gv (l:List Rw) (x:Rw):Nat→Bool
 |0=>false
 |k+1=>Gv l x k||tQ (l.getD k ⟨⟨0,0⟩,0⟩) x
theorem sV {l:List Rw} {x:Rw}:∀k,Gv l x k=true↔∃j,j<k∧tQ (l.getD j ⟨⟨0,0⟩,0⟩) x=true
 |0=>by simp[Gv]
 |k+1=>by
  rw[Gv,abF,sV k]
  constructor
  ·rintro(⟨j,hj,h⟩|h)
   ·exact⟨j,by omega,h⟩
   ·exact⟨k,by omega,h⟩
  ·rintro⟨j,hj,h⟩
   rcases aaK.1 hj with hj|rfl
   ·exact .inl ⟨j,hj,h⟩
   ·exact .inr h
theorem Jk {S:Sp} {x:Rw} (h:rC S x=true):Gv (eV S) x (eV S).length=true:=by
 obtain⟨h1,h2⟩:=oA h
 obtain⟨j,hj,he⟩:=fi (d:=⟨⟨0,0⟩,0⟩) ((uR (im.1 h).1).2 h1)
 grind [sV]
theorem Jr {S:Sp} (hr:dt S=true):gz S (eV S)=true:=by
 obtain⟨h0,h8,h1,h4,h5,hin⟩:=dz.1 hr
 have hp:=fw h8
 refine eU.2 ⟨hr,j8.2 λk hk=> ?_,λo ho=> ?_⟩
 ·have hi:=(fQ.1 (qf hr hk)).1
  exact fY.2 ⟨gI hi,(im.1 hi).2.1,h5▸(rM hi).1⟩
 ·obtain⟨w1,w2⟩:=hin o ho
  refine M8 (dL.2 λp hp2 h=> ?_) (dL.2 λp hp2 h=> ?_)
  ·have hm:=dL.1 w1 p hp2 h
   have hpn:p<2^S.n.toNat:=by
    have:=dL.1 w2 p hp2 hm
    rw[fk]at this
    simpa using this
   have hpow:=abo S.n.toNat
   have hx:rC S ⟨⟨2^S.n.toNat-1,p⟩,2^o⟩=true:=by
    have hand:p &&& (2^S.n.toNat-1)=p:=by rw[acf,act hpn]
    refine im.2 ⟨hr,abo o,λj hj=> ?_⟩
    have hj':(2^o).testBit j=true:=hj
    rw[abh,decide_eq_true_eq]at hj'
    subst hj'
    refine⟨by omega,?_⟩
    have:=(gp (s:=kg S o) (n:=S.n) (c:=⟨2^S.n.toNat-1,p⟩)).2 ⟨du.2 ⟨h0,h8,by show 2^S.n.toNat-1<2^S.n.toNat;omega,hand⟩,λq hq hqp=>by
     have hqp':q &&& (2^S.n.toNat-1)=p:=hqp
     rw[acf,act hq]at hqp'
     subst hqp';exact hm⟩
    exact this
   obtain⟨j,hj,hh⟩:=(sV _).1 (Jk hx)
   obtain⟨g1,g2⟩:=qi.1 hh
   have hi:=(fQ.1 (qf hr hj)).1
   refine(lX (by omega) p _ (am _)).2 ⟨hpn,j,hj,g2 o (by show (2^o).testBit o=true;rw[abh];simp),?_⟩
   refine mS (p:=p) (du.1 (gI hi)).2.2.2 g1 ?_
   show p &&& (2^S.n.toNat-1)=p
   rw[acf,act hpn]
  ·obtain⟨hpn,j,hj,hb,hh⟩:=(lX (by omega) p _ (am _)).1 h
   have hi:=(fQ.1 (qf hr hj)).1
   have hw:=((im.1 hi).2.2 o hb).2
   exact(gp.1 hw).2 p hpn hh
end
section
open Go Go.RowKit
def mC (x:Rw) (k:Nat):Rw:=⟨x.c,x.o-2^k⟩
def rX (l:List Rw) (i k:Nat):List Rw:=l.set i (mC (l.getD i ⟨⟨0,0⟩,0⟩) k)
def qF (x:Rw):List Rw:=if 0<x.o then [x]else []
def nI (l:List Rw):List Rw:=l.filter λx=>decide (0<x.o)
def mz (l:List Rw) (i k:Nat):List Rw:=
 if andNot (l.getD i ⟨⟨0,0⟩,0⟩).o (2^k)=0 then l.take i++l.drop (i+1)else l.set i ⟨(l.getD i ⟨⟨0,0⟩,0⟩).c,andNot (l.getD i ⟨⟨0,0⟩,0⟩).o (2^k)⟩
def qB (l:List Rw):Prop:=∀x,x∈l→0<x.o
theorem Ch (a b:List Rw):nI (a++b)=nI a++nI b:=acz ..
theorem Ll (x:Rw):nI [x]=qF x:=by
 unfold nI qF
 grind
theorem HN (x:Rw) (b:List Rw):nI (x::b)=qF x++nI b:=by rw[←Ll,←Ch];rfl
theorem BI {l:List Rw} (h:qB l):nI l=l:=List.filter_eq_self.2 λx hx=>decide_eq_true (h x hx)
theorem qB.app {a b:List Rw} (ha:qB a) (hb:qB b):qB (a++b):=λx hx=>(aah.1 hx).elim (ha x) (hb x)
theorem qB.kp (x:Rw):qB (qF x):=λy hy=>by
 unfold qF at hy
 split at hy
 ·simp at hy;subst hy;assumption
 ·cases hy
theorem qB.drop {l:List Rw} (h:qB l) (k:Nat):qB (l.drop k):=λx hx=>h x (List.mem_of_mem_drop hx)
theorem xL (x:Rw):(qF x).length=if 0<x.o then 1 else 0:=by grind [qF]
theorem ve {x:Rw} (h:0<x.o):qF x=[x]:=if_pos h
theorem OI {x:Rw} (h:x.o=0):qF x=[]:=if_neg (by omega)
theorem zn {S:Sp} {l:List Rw} (h:gz S l=true):qB l:=λx hx=>by
 obtain⟨k,hk,rfl⟩:=fi (d:=⟨⟨0,0⟩,0⟩) hx
 exact(fY.1 (j8.1 (eU.1 h).2.1 k hk)).2.1
theorem Ee {o k:Nat} (h:o.testBit k=true):andNot o (2^k)=o-2^k:=by
 have hlow:(andNot o (2^k)).testBit k=false:=by rw[d4];simp
 have hs:=R5 hlow
 have e:andNot o (2^k) ||| 2^k=o:=aaz λj=>by
  rw[abI,d4,abh]
  by_cases hj:k=j
  ·subst hj;simp[h]
  ·simp[hj]
 omega
theorem iT {o k:Nat} (h:o.testBit k=true) (j:Nat):(o-2^k).testBit j=(o.testBit j&& !decide (k=j)):=by
 rw[←Ee h,d4,abh]
theorem Sy (o k:Nat):o-2^k≤o:=by grind
theorem Aq {A B:List Rw} {x d:Rw} {i:Nat} (hi:i=A.length):(A++x::B).getD i d=x:=by
 grind
theorem Jj {A B:List Rw} {x y:Rw} {i:Nat} (hi:i=A.length):(A++x::B).set i y=A++y::B:=by
 simp_all
theorem Mm {A B:List Rw} {x:Rw} {i:Nat} (hi:i=A.length):(A++x::B).take i=A:=by grind
theorem OX {A B:List Rw} {x:Rw} {i:Nat} (hi:i=A.length):(A++x::B).drop (i+1)=B:=by
 simp_all
theorem Od {A B:List Rw} {x:Rw} {i k:Nat} (hi:i=A.length) (hb:x.o.testBit k=true):mz (A++x::B) i k=A++qF (mC x k)++B:=by
 unfold mz
 rw[Aq hi,Ee hb,Mm hi,OX hi,Jj hi]
 by_cases h:x.o-2^k=0
 ·rw[if_pos h,OI h,abK]
 ·rw[if_neg h,ve (show 0<(mC x k).o from Nat.pos_of_ne_zero h)]
  simp[mC]
theorem EE {l:List Rw} {i:Nat} (hi:i<l.length):l=l.take i++l.getD i ⟨⟨0,0⟩,0⟩::l.drop (i+1):=by
 simp_all
theorem SG {l:List Rw} {i:Nat} (hi:i<l.length):l.drop i=l.getD i ⟨⟨0,0⟩,0⟩::l.drop (i+1):=by
 simp_all
theorem EN {l:List Rw} {i:Nat} {x d:Rw} (hi:i<l.length):(l.set i x).getD i d=x:=by
 grind
theorem WR {l:List Rw} {i k:Nat} (hi:i<l.length) (h:(((l.set i ⟨(l.getD i ⟨⟨0,0⟩,0⟩).c,andNot (l.getD i ⟨⟨0,0⟩,0⟩).o (1*2^k)⟩).getD i ⟨⟨0,0⟩,0⟩).o:Int)=0):
  (l.set i ⟨(l.getD i ⟨⟨0,0⟩,0⟩).c,andNot (l.getD i ⟨⟨0,0⟩,0⟩).o (1*2^k)⟩).take i++(l.set i ⟨(l.getD i ⟨⟨0,0⟩,0⟩).c,andNot (l.getD i ⟨⟨0,0⟩,0⟩).o (1*2^k)⟩).drop (i+1)=mz l i k:=by
 rw[EN hi,abd]at h
 unfold mz
 rw[if_pos (show andNot (l.getD i ⟨⟨0,0⟩,0⟩).o (2^k)=0 from Int.ofNat_inj.1 h),List.take_set_of_le (am _),List.drop_set_of_lt (acj _)]
theorem VQ {l:List Rw} {i k:Nat} (hi:i<l.length) (h:¬(((l.set i ⟨(l.getD i ⟨⟨0,0⟩,0⟩).c,andNot (l.getD i ⟨⟨0,0⟩,0⟩).o (1*2^k)⟩).getD i ⟨⟨0,0⟩,0⟩).o:Int)=0):
  l.set i ⟨(l.getD i ⟨⟨0,0⟩,0⟩).c,andNot (l.getD i ⟨⟨0,0⟩,0⟩).o (1*2^k)⟩=mz l i k:=by
 rw[EN hi,abd]at h
 unfold mz
 grind
theorem LI (l:List Rw) (i k:Nat):(mz l i k).length≤l.length:=by
 unfold mz
 grind
def LN (S:Sp) (A B:List Rw) (c:Cb) (o:Nat):Nat→Nat
 |0=>o
 |k+1=>if (LN S A B c o k).testBit k=true∧gz S (A++qF ⟨c,LN S A B c o k-2^k⟩++B)=true then LN S A B c o k-2^k else LN S A B c o k
def mF (S:Sp) (l:List Rw):Nat→List Rw
 |0=>[]
 |j+1=>mF S l j++qF ⟨(l.getD j ⟨⟨0,0⟩,0⟩).c,LN S (mF S l j) (l.drop (j+1)) (l.getD j ⟨⟨0,0⟩,0⟩).c (l.getD j ⟨⟨0,0⟩,0⟩).o S.on.length⟩
def tG (S:Sp) (l:List Rw) (j k:Nat):Nat:=LN S (mF S l j) (l.drop (j+1)) (l.getD j ⟨⟨0,0⟩,0⟩).c (l.getD j ⟨⟨0,0⟩,0⟩).o k
def tm (S:Sp) (l:List Rw) (j k:Nat):Rw:=⟨(l.getD j ⟨⟨0,0⟩,0⟩).c,tG S l j k⟩
def xh (S:Sp) (l:List Rw) (j k:Nat):List Rw:=mF S l j++qF (tm S l j k)++l.drop (j+1)
def lf (S:Sp) (l:List Rw):List Rw:=mF S l l.length
theorem kq (S:Sp) (l:List Rw) (j:Nat):mF S l (j+1)=mF S l j++qF (tm S l j S.on.length):=rfl
theorem rO (S:Sp) (l:List Rw) (j k:Nat):tG S l j (k+1)=if (tG S l j k).testBit k=true∧gz S (mF S l j++qF (mC (tm S l j k) k)++l.drop (j+1))=true then tG S l j k-2^k else tG S l j k:=rfl
theorem Un {S:Sp} {l:List Rw} {j k:Nat} (h1:(tG S l j k).testBit k=true) (h2:gz S (mF S l j++qF (mC (tm S l j k) k)++l.drop (j+1))=true):tG S l j (k+1)=tG S l j k-2^k:=by rw[rO,if_pos ⟨h1,h2⟩]
theorem aaS {S:Sp} {l:List Rw} {j k:Nat} (h:¬((tG S l j k).testBit k=true∧gz S (mF S l j++qF (mC (tm S l j k) k)++l.drop (j+1))=true)):tG S l j (k+1)=tG S l j k:=by rw[rO,if_neg h]
theorem Oa (S:Sp) (l:List Rw) (j:Nat):∀k,tG S l j k≤(l.getD j ⟨⟨0,0⟩,0⟩).o
 |0=>am _
 |k+1=>by
  rw[rO]
  have:=Oa S l j k
  split
  ·have:=Sy (tG S l j k) k;omega
  ·exact this
theorem uH (S:Sp) (l:List Rw) (j:Nat):∀k q,(tG S l j k).testBit q=true→(l.getD j ⟨⟨0,0⟩,0⟩).o.testBit q=true
 |0,q,h=>h
 |k+1,q,h=>by
  rw[rO]at h
  split at h
  ·rename_i hc
   rw[iT hc.1,th]at h
   exact uH S l j k q h.1
  ·exact uH S l j k q h
theorem ry (S:Sp) (l:List Rw) (j:Nat) (k:Nat):∀e q,(tG S l j (k+e)).testBit q=true→(tG S l j k).testBit q=true
 |0,q,h=>h
 |e+1,q,h=>by
  rw[←Nat.add_assoc,rO]at h
  split at h
  ·rename_i hc
   rw[iT hc.1,th]at h
   exact ry S l j k e q h.1
  ·exact ry S l j k e q h
theorem iC.nil:iC []:=λx hx=>by cases hx
theorem iC.any {l:List Rw} (h:iC l) (k:Nat):(l.getD k ⟨⟨0,0⟩,0⟩).o<256:=by
 by_cases hk:k<l.length
 ·exact(h.get hk).2.2
 all_goals grind
theorem iC.app {a b:List Rw} (ha:iC a) (hb:iC b):iC (a++b):=λx hx=>(aah.1 hx).elim (ha x) (hb x)
theorem iC.drop {l:List Rw} (h:iC l) (k:Nat):iC (l.drop k):=λx hx=>h x (List.mem_of_mem_drop hx)
theorem iC.take {l:List Rw} (h:iC l) (k:Nat):iC (l.take k):=λx hx=>h x (List.mem_of_mem_take hx)
theorem iC.kp {x:Rw} (h:x.c.m<256∧x.c.v<256∧x.o<256):iC (qF x):=λy hy=>by
 unfold qF at hy
 split at hy
 ·simp at hy;subst hy;exact h
 ·cases hy
theorem iC.some {l:List Rw} (h:iC l):iC (nI l):=λx hx=>h x (abQ.1 hx).1
theorem iC.set {l:List Rw} (h:iC l) {i:Nat} {x:Rw} (hx:x.c.m<256∧x.c.v<256∧x.o<256):iC (l.set i x):=λy hy=>(List.mem_or_eq_of_mem_set hy).elim (h y) (λe=>e▸hx)
theorem Uh {S:Sp} {l:List Rw} (h:iC l) {j:Nat} (hj:j<l.length) (k:Nat):(tm S l j k).c.m<256∧(tm S l j k).c.v<256∧(tm S l j k).o<256:=by
 obtain⟨h1,h2,h3⟩:=h.get hj
 have:=Oa S l j k
 exact⟨h1,h2,show tG S l j k<256 by omega⟩
theorem Us {S:Sp} {l:List Rw} (h:iC l):∀j,j≤l.length→iC (mF S l j)
 |0,_=>iC.nil
 |j+1,hj=>by rw[kq];exact(Us h j (by omega)).app (iC.kp (Uh h (by omega) _))
theorem XG {S:Sp} {l:List Rw} (h:iC l) {j:Nat} (hj:j<l.length) (k:Nat):iC (xh S l j k):=((Us h j (by omega)).app (iC.kp (Uh h hj k))).app (h.drop _)
theorem ye (S:Sp) (l:List Rw):∀j,qB (mF S l j)
 |0=>λx hx=>by cases hx
 |j+1=>by rw[kq];exact(ye S l j).app (qB.kp _)
theorem IY (S:Sp) (l:List Rw):∀j,(mF S l j).length≤j
 |0=>am _
 |j+1=>by
  have:=IY S l j
  rw[kq,An,xL]
  split<;>omega
theorem Gq {S:Sp} {l:List Rw} {j:Nat} (hp:qB l) (hj:j<l.length):mF S l j++l.drop j=xh S l j 0:=by
 unfold xh
 rw[SG hj,ve (x:=tm S l j 0) (hp _ (dB hj)),abm]
 rfl
theorem DQ (S:Sp) (l:List Rw) (j:Nat):xh S l j S.on.length=mF S l (j+1)++l.drop (j+1):=by rw[kq];rfl
theorem OG {S:Sp} {l:List Rw} {j k:Nat} (h:0<tG S l j k):xh S l j k=mF S l j++tm S l j k::l.drop (j+1):=by
 grind [xh,ve,tm,List.append_assoc]
theorem Rv {S:Sp} {l:List Rw} {j k:Nat} (h:0<tG S l j k):(xh S l j k).getD (mF S l j).length ⟨⟨0,0⟩,0⟩=tm S l j k:=by
 grind [OG,Aq]
theorem Fe {S:Sp} {l:List Rw} {j k:Nat} (hb:(tG S l j k).testBit k=true):mz (xh S l j k) (mF S l j).length k=mF S l j++qF (mC (tm S l j k) k)++l.drop (j+1):=by
 rw[OG (CR hb)]
 exact Od rfl hb
theorem TN {S:Sp} {l:List Rw} {j k:Nat} (hb:(tG S l j k).testBit k=true) (hc:gz S (mz (xh S l j k) (mF S l j).length k)=true):mz (xh S l j k) (mF S l j).length k=xh S l j (k+1):=by
 rw[Fe hb]at hc ⊢
 unfold xh tm
 rw[Un hb hc]
 rfl
theorem Ff {S:Sp} {l:List Rw} {j k:Nat} (h:(tG S l j k).testBit k=false∨gz S (mz (xh S l j k) (mF S l j).length k)=false):xh S l j k=xh S l j (k+1):=by
 grind [tG,aaS,Fe,xh,tm]
def ZU (S:Sp) (l:List Rw) (i k:Nat):Bool:=(l.getD i ⟨⟨0,0⟩,0⟩).o.testBit k&&gz S (nI (rX l i k))
def yd (S:Sp) (l:List Rw):Bool:=gz S l&&(List.range l.length).all λi=>(List.range S.on.length).all λk=> !ZU S l i k
theorem wT {S:Sp} {l:List Rw}:yd S l=true↔gz S l=true∧∀i,i<l.length→∀k,k<S.on.length→ZU S l i k=false:=by
 unfold yd
 simp_all
theorem kpL (x:Rw):(qF x).length≤1∧((qF x).length=1→0<x.o)∧(¬(qF x).length=1→x.o=0):=by
 rw[xL]
 grind
theorem FC {S:Sp} {l:List Rw} {j k:Nat}:(xh S l j k).length=(mF S l j).length+(qF (tm S l j k)).length+(l.length-(j+1)):=by
 grind [xh,List.length_append,List.length_drop]
theorem QT {S:Sp} {l:List Rw} {j:Nat}:(mF S l j++l.drop j).length=(mF S l j).length+(l.length-j):=by grind
theorem Rj {l:List Rw} (h:iC l) {i:Nat} (hi:i<l.length) (k:Nat):iC (mz l i k):=by
 unfold mz
 obtain⟨h1,h2,h3⟩:=h.get hi
 split
 ·exact(h.take _).app (h.drop _)
 ·exact h.set ⟨h1,h2,by have:=sR (l.getD i ⟨⟨0,0⟩,0⟩).o (2^k);show andNot _ _<256;omega⟩
theorem Ru {o k:Nat} (h:((o/2^((k:Nat):Int).toNat &&& 1:Nat):Int)=0):o.testBit k=false:=by grind
theorem Oi {o k:Nat} (h:¬((o/2^((k:Nat):Int).toNat &&& 1:Nat):Int)=0):o.testBit k=true:=by grind
theorem M5 {o k:Nat} (h:o=0):o.testBit k=false:=by grind
def ul (a b:List Rw):Prop:=∀x,x∈a→∃y,y∈b∧x.c=y.c∧∀j,x.o.testBit j=true→y.o.testBit j=true
theorem ul.refl (a:List Rw):ul a a:=λx hx=>⟨x,hx,rfl,λ_ h=>h⟩
theorem ul.trans {a b c:List Rw} (h:ul a b) (k:ul b c):ul a c:=λx hx=>by
 obtain⟨y,hy,h1,h2⟩:=h x hx
 obtain⟨z,hz,h3,h4⟩:=k y hy
 exact⟨z,hz,h1.trans h3,λj hj=>h4 j (h2 j hj)⟩
theorem ul.app {a b c d:List Rw} (h:ul a b) (k:ul c d):ul (a++c) (b++d):=λx hx=>by
 rcases aah.1 hx with hx|hx
 ·obtain⟨y,hy,h⟩:=h x hx;exact⟨y,aah.2 (.inl hy),h⟩
 ·obtain⟨y,hy,h⟩:=k x hx;exact⟨y,aah.2 (.inr hy),h⟩
theorem ul.kp {x y:Rw} (hc:x.c=y.c) (ho:∀j,x.o.testBit j=true→y.o.testBit j=true):ul (qF x) (qF y):=λz hz=>by
 unfold qF at hz
 split at hz
 ·rename_i hp
  simp at hz
  subst hz
  obtain⟨j,hj⟩:=ub hp
  exact⟨y,by rw[ve (CR (ho j hj))];exact aaL.2 rfl,hc,ho⟩
 ·cases hz
theorem ul.cv {a b:List Rw} (h:ul a b) {p o:Nat} (hc:DR a p o=true):DR b p o=true:=by
 unfold DR at*
 rw[abH]at*
 obtain⟨x,hx,h1⟩:=hc
 obtain⟨y,hy,e,h2⟩:=h x hx
 grind
theorem jV {S:Sp} {l:List Rw}:km S l=true↔∀x,x∈l→NF S x=true:=by grind [km,List.all_eq_true]
theorem ul.may {S:Sp} {a b:List Rw} (h:ul a b) (hp:qB a) (k:km S b=true):km S a=true:=jV.2 λx hx=>by
 obtain⟨y,hy,e,h2⟩:=h x hx
 obtain⟨h3,_,h5⟩:=fY.1 (jV.1 k y hy)
 refine fY.2 ⟨e▸h3,hp x hx,gF.2 λj hj=>aa0.2 λhb=> ?_⟩
 have:=h2 j hb
 rw[gF.1 h5 j hj]at this
 cases this
theorem Pt {S:Sp} {a b u:List Rw} (ha:gz S a=true) (hu:gz S u=true) (h1:ul a b) (h2:ul b u) (hp:qB b):gz S b=true:=by
 obtain⟨hr,hma,hca⟩:=eU.1 ha
 obtain⟨_,hmu,hcu⟩:=eU.1 hu
 have hmb:=h2.may hp hmu
 refine eU.2 ⟨hr,hmb,λo ho=>(ig hr hmb ho).2 λp hpn=> ?_⟩
 exact⟨λh=>h1.cv (((ig hr hma ho).1 (hca o ho) p hpn).1 h),λh=>((ig hr hmu ho).1 (hcu o ho) p hpn).2 (h2.cv h)⟩
theorem Nt {S:Sp} {l:List Rw}:∀j,j≤l.length→ul (mF S l j) (l.take j)
 |0,_=>λx hx=>by cases hx
 |j+1,hj=>by
  have e:l.take (j+1)=l.take j++[l.getD j ⟨⟨0,0⟩,0⟩]:=by
   rw[abt,me,we (show j<l.length by omega)]
   rfl
  rw[kq,e]
  refine(Nt j (by omega)).app λx hx=>⟨_,aaL.2 rfl,?_⟩
  unfold qF at hx
  split at hx
  ·simp at hx;subst hx;exact⟨rfl,λq hq=>uH S l j _ q hq⟩
  ·cases hx
theorem Js {S:Sp} {l:List Rw} (h:gz S l=true):∀j,j≤l.length→gz S (mF S l j++l.drop j)=true
 |0,_=>h
 |j+1,hj=>by
  have ih:=Js h j (by omega)
  rw[Gq (zn h) (by omega)]at ih
  rw[←DQ]
  have:∀k,gz S (xh S l j k)=true:=λk=>by
   induction k with
   |zero=>exact ih
   |succ k ihk=>
    by_cases hb:(tG S l j k).testBit k=true
    ·by_cases hc:gz S (mz (xh S l j k) (mF S l j).length k)=true
     ·rw[←TN hb hc];exact hc
     ·rw[←Ff (.inr (by simpa using hc))];exact ihk
    ·rw[←Ff (.inl (by simpa using hb))];exact ihk
  exact this _
theorem Gp {S:Sp} {l:List Rw} (h:gz S l=true):gz S (lf S l)=true:=by
 have:=Js h l.length (am _)
 rwa [List.drop_length,abK]at this
theorem tU (S:Sp) (l:List Rw) (j:Nat):∀e,mF S l j<+:mF S l (j+e)
 |0=>ab6 _
 |e+1=>by rw[←Nat.add_assoc,kq];exact(tU S l j e).trans (List.prefix_append _ _)
theorem Ft {S:Sp} {l:List Rw}:∀m i,i<(mF S l m).length→∃j,j<m∧(mF S l j).length=i∧0<tG S l j S.on.length∧(mF S l m).getD i ⟨⟨0,0⟩,0⟩=tm S l j S.on.length
 |0,i,h=>by cases h
 |m+1,i,h=>by
  rw[kq]at h ⊢
  by_cases hi:i<(mF S l m).length
  ·obtain⟨j,hj,h1,h2,h3⟩:=Ft m i hi
   refine⟨j,by omega,h1,h2,?_⟩
   rw[←h3,me,abL hi,me]
  ·rw[An,xL]at h
   have hp:0<(tm S l m S.on.length).o:=Classical.byContradiction λhn=>by rw[if_neg hn]at h;omega
   rw[if_pos hp]at h
   refine⟨m,by omega,by omega,hp,?_⟩
   rw[ve hp]
   exact Aq (by omega)
theorem M9 {S:Sp} {l:List Rw} (hp:qB l) {j m:Nat} (hjm:j≤m) (hm:m≤l.length):ul ((mF S l m).drop (mF S l j).length) (l.drop j):=by
 induction m with
 |zero=>
  obtain rfl:j=0:=by omega
  exact λx hx=>by simp[mF]at hx
 |succ m ih=>
  by_cases e:j=m+1
  ·subst e
   rw[List.drop_length]
   exact λx hx=>by cases hx
  ·have hjm':j≤m:=by omega
   have hpre:=(tU S l j (m-j)).length_le
   rw[show j+(m-j)=m by omega]at hpre
   rw[kq,List.drop_append_of_le_length hpre]
   intro x hx
   rcases aah.1 hx with hx|hx
   ·exact ih hjm' (by omega) x hx
   ·unfold qF at hx
    split at hx
    ·simp at hx
     subst hx
     refine⟨l.getD m ⟨⟨0,0⟩,0⟩,?_,rfl,λq hq=>uH S l m _ q hq⟩
     have:=dB (d:=⟨⟨0,0⟩,0⟩) (show m-j<(l.drop j).length by rw[abw];omega)
     rwa [me,acO,show j+(m-j)=m by omega,←me]at this
    ·cases hx
theorem En {S:Sp} {l:List Rw} (h:gz S l=true):yd S (lf S l)=true:=by
 have hpl:=zn h
 refine wT.2 ⟨Gp h,λi hi k hk=>aa0.2 λhn=> ?_⟩
 unfold ZU at hn
 rw[th]at hn
 obtain⟨hb,hc⟩:=hn
 obtain⟨j,hj,h1,h2,h3⟩:=Ft l.length i hi
 have hp2:qB (lf S l):=ye S l l.length
 have hb':(tG S l j S.on.length).testBit k=true:=by
  rw[show (lf S l).getD i ⟨⟨0,0⟩,0⟩=_ from h3]at hb
  exact hb
 have hbk1:(tG S l j (k+1)).testBit k=true:=by
  have:=ry S l j (k+1) (S.on.length-(k+1)) k
  rw[show k+1+(S.on.length-(k+1))=S.on.length by omega]at this
  exact this hb'
 have hbk:(tG S l j k).testBit k=true:=ry S l j k 1 k hbk1
 have hno:¬gz S (mF S l j++qF (mC (tm S l j k) k)++l.drop (j+1))=true:=λhcc=>by
  rw[Un hbk hcc,iT hbk]at hbk1
  simp at hbk1
 apply hno
 have hpre:=tU S l j (l.length-j)
 rw[show j+(l.length-j)=l.length by omega]at hpre
 have htk:(lf S l).take i=mF S l j:=by rw[←h1];exact(List.prefix_iff_eq_take.1 hpre).symm
 have hlen:(mF S l (j+1)).length=i+1:=by rw[kq,An,xL,if_pos (show 0<(tm S l j S.on.length).o from h2),h1]
 have hdr:=M9 (S:=S) hpl (show j+1≤l.length by omega) (am _)
 rw[hlen]at hdr
 have hx:=EE (l:=lf S l) (i:=i) hi
 have hA:i=((lf S l).take i).length:=by rw[aa4];exact(acF (Nat.le_of_lt hi)).symm
 have e:nI (rX (lf S l) i k)=mF S l j++qF (mC (tm S l j S.on.length) k)++(lf S l).drop (i+1):=by
  have h2:rX (lf S l) i k=(lf S l).take i++mC ((lf S l).getD i ⟨⟨0,0⟩,0⟩) k::(lf S l).drop (i+1):=by
   unfold rX
   conv=>lhs;arg 1;rw[hx]
   exact Jj hA
  rw[h2,Ch,HN,htk,BI (ye S l j),BI (hp2.drop _),show (lf S l).getD i ⟨⟨0,0⟩,0⟩=_ from h3,abm]
 rw[e]at hc
 have hle1:ul (mF S l j++qF (mC (tm S l j S.on.length) k)++(lf S l).drop (i+1)) (mF S l j++qF (mC (tm S l j k) k)++l.drop (j+1)):=by
  refine ul.app (ul.app (ul.refl (mF S l j)) (ul.kp (x:=mC (tm S l j S.on.length) k) (y:=mC (tm S l j k) k) rfl λq hq=> ?_)) hdr
  have hq':(tG S l j S.on.length-2^k).testBit q=true:=hq
  show (tG S l j k-2^k).testBit q=true
  rw[iT hb',th]at hq'
  rw[iT hbk,th]
  refine⟨?_,hq'.2⟩
  have:=ry S l j k (S.on.length-k) q
  rw[show k+(S.on.length-k)=S.on.length by omega]at this
  exact this hq'.1
 have hle2:ul (mF S l j++qF (mC (tm S l j k) k)++l.drop (j+1)) l:=by
  conv=>rhs;rw[EE hj]
  rw[abm]
  refine(Nt j (by omega)).app ?_
  refine ul.trans ?_ (ul.refl (l.getD j ⟨⟨0,0⟩,0⟩::l.drop (j+1)))
  rw[show l.getD j ⟨⟨0,0⟩,0⟩::l.drop (j+1)=[l.getD j ⟨⟨0,0⟩,0⟩]++l.drop (j+1) from rfl]
  refine ul.app (λx hx=>⟨_,aaL.2 rfl,?_⟩) (ul.refl _)
  unfold qF at hx
  split at hx
  ·simp at hx
   subst hx
   refine⟨rfl,λq hq=> ?_⟩
   have hq':(tG S l j k-2^k).testBit q=true:=hq
   rw[iT hbk,th]at hq'
   exact uH S l j k q hq'.1
  ·cases hx
 exact Pt hc h hle1 hle2 (((ye S l j).app (qB.kp _)).app (hpl.drop _))
end
section
open Go Go.RowKit
def HV (l:List Cb) (n:Nat) (but:Int):Nat→Nat
 |0=>0
 |k+1=>if (k:Int)=but then HV l n but k else HV l n but k ||| qU (l.getD k ⟨0,0⟩).m ((l.getD k ⟨0,0⟩).v &&& (l.getD k ⟨0,0⟩).m) n
theorem lW {l:List Cb} {n:Nat} {but:Int} (hn:n≤8) (p:Nat):∀k,k≤l.length→(∀c,c∈l→c.v &&& c.m=c.v)→((HV l n but k).testBit p=true↔∃j,j<k∧¬(j:Int)=but∧p<2^n∧hold (l.getD j ⟨0,0⟩) p)
 |0,_,_=>by simp[HV]
 |k+1,hk,hv=>by
  have ih:=lW (but:=but) hn p k (by omega) hv
  rw[HV]
  split
  ·rename_i h
   rw[ih]
   constructor
   ·rintro⟨j,hj,r⟩;exact⟨j,by omega,r⟩
   ·rintro⟨j,hj,h2,r⟩
    rcases aaK.1 hj with hj|rfl
    ·exact⟨j,hj,h2,r⟩
    ·exact absurd h h2
  ·rename_i h
   rw[abI,abF,ih,jr hn,hv _ (dB (by omega)),th,decide_eq_true_eq,decide_eq_true_eq]
   constructor
   ·rintro(⟨j,hj,r⟩|⟨h1,h2⟩)
    ·exact⟨j,by omega,r⟩
    ·exact⟨k,by omega,h,h1,h2⟩
   ·rintro⟨j,hj,h2,h3,h4⟩
    rcases aaK.1 hj with hj|rfl
    ·exact .inl ⟨j,hj,h2,h3,h4⟩
    ·exact .inr ⟨h3,h4⟩
section
variable {on m:Nat} {n:Int}
theorem PR (h:BD on m n=true):∃k:Nat,n=(k:Int)∧k≤8∧ox k on m 0:=by
 obtain⟨h0,h8⟩:=lg (kF.1 h).1
 obtain⟨k,rfl⟩:=abj h0
 obtain⟨h1,h2⟩:=CP h
 exact⟨k,rfl,h1,h2⟩
theorem TQ (h:BD on m n=true):∀c,c∈kc on m n→c.v &&& c.m=c.v:=λc hc=>(xJ h hc).2.2.2
theorem V4 (h:BD on m n=true):ep on (HV (kc on m n) n.toNat (-1) (kc on m n).length)=true:=by
 have hv:=TQ h
 obtain⟨k,rfl,h8,hg⟩:=PR h
 rw[dL]
 intro p hp ho
 obtain⟨c,hc,hh⟩:=(lT h8 (k+1) on m 0 hg (by omega)).2 p (hg.out p hp (hg.sub p hp ho)) ho
 obtain⟨j,hj,rfl⟩:=fi (d:=⟨0,0⟩) hc
 exact(lW h8 p _ (am _) hv).2 ⟨j,hj,by omega,hg.out p hp (hg.sub p hp ho),hh⟩
abbrev Fg (on m:Nat) (n:Int):List Cb:=Ic m n (kc on m n)
theorem So (h:BD on m n=true):(Fg on m n).length≤19683:=go (rP _ _ _ _) (Ex (lg (kF.1 h).1).2)
theorem v6 (h:BD on m n=true) {c:Cb} (hc:c∈Fg on m n):iL c.m c.v m n=true:=by
 obtain⟨j,hj,rfl⟩:=(rp _).1 hc
 exact(tP (xJ h (dB hj)).1).1
theorem Y5 (h:BD on m n=true):∀c,c∈Fg on m n→c.m<256∧c.v<256:=λc hc=>by
 have:=mG (lr (v6 h hc))
 have h2:=fw (lg (kF.1 h).1).2
 omega
theorem TT (h:BD on m n=true):∀c,c∈Fg on m n→c.v &&& c.m=c.v:=λc hc=>(du.1 (lr (v6 h hc))).2.2.2
theorem Wm (h:BD on m n=true):ep on (HV (Fg on m n) n.toNat (-1) (Fg on m n).length)=true:=by
 have hv:=TT h
 have h1:=V4 h
 have hcv:=TQ h
 have hgp:∀j,j<(kc on m n).length→∃k,k<(Fg on m n).length∧(Fg on m n).getD k ⟨0,0⟩=lz m n ((kc on m n).getD j ⟨0,0⟩):=λj hj=>fi ((rp _).2 ⟨j,hj,rfl⟩)
 have hgr:∀j,j<(kc on m n).length→jF (lz m n ((kc on m n).getD j ⟨0,0⟩)) ((kc on m n).getD j ⟨0,0⟩)=true:=λj hj=>(tP (xJ h (dB hj)).1).2
 obtain⟨q,rfl,h8,hg⟩:=PR h
 rw[dL]
 intro p hp ho
 obtain⟨j,hj,_,h2,h3⟩:=(lW h8 p _ (am _) hcv).1 (dL.1 h1 p hp ho)
 obtain⟨k,hk,he⟩:=hgp j hj
 refine(lW h8 p _ (am _) hv).2 ⟨k,hk,by omega,h2,?_⟩
 have:=mS (p:=p) (show (lz m q ((kc on m q).getD j ⟨0,0⟩)).v &&& (lz m q ((kc on m q).getD j ⟨0,0⟩)).m=_ by rw[←he];exact hv _ (dB hk)) (hgr j hj) h3
 rw[he]
 exact this
end
end
section
open Go Go.RowKit
def ur (S:Sp) (o:Nat):List Cb:=Ic (kg S o) S.n (kc (AC S o) (kg S o) S.n)
def xA (S:Sp) (o i:Nat):Rw:=wI S ⟨(ur S o).getD i ⟨0,0⟩,2^o⟩
def Jd (S:Sp) (o:Nat) (acc:List Rw):Nat→List Rw
 |0=>acc
 |i+1=>ji (Jd S o acc i) (xA S o i)
def G9 (S:Sp):Nat→List Rw
 |0=>[]
 |o+1=>Jd S o (G9 S o) (ur S o).length
def mX (S:Sp):List Rw:=G9 S S.on.length
theorem rt {S:Sp} (hr:dt S=true) {o:Nat} (ho:o<S.on.length):BD (AC S o) (kg S o) S.n=true:=by
 grind [dz,kF,xQ,decide_eq_true]
theorem Oy {S:Sp} (hr:dt S=true) {o:Nat} (ho:o<S.on.length):(ur S o).length≤19683:=So (rt hr ho)
theorem I6 {S:Sp} (hr:dt S=true) {o i:Nat} (ho:o<S.on.length) (hi:i<(ur S o).length):((ur S o).getD i ⟨0,0⟩).m<256∧((ur S o).getD i ⟨0,0⟩).v<256:=Y5 (rt hr ho) _ (dB hi)
theorem yD {S:Sp} (hr:dt S=true) {o i:Nat} (ho:o<S.on.length) (hi:i<(ur S o).length):rC S ⟨(ur S o).getD i ⟨0,0⟩,2^o⟩=true:=by
 obtain⟨h0,h8,h1,h4,h5,hin⟩:=dz.1 hr
 refine im.2 ⟨hr,abo o,λj hj=> ?_⟩
 have hj':(2^o).testBit j=true:=hj
 rw[abh,decide_eq_true_eq]at hj'
 subst hj'
 exact⟨by omega,(gE.1 (v6 (rt hr ho) (dB hi))).1⟩
theorem Yb {S:Sp} (hr:dt S=true) {o i:Nat} (ho:o<S.on.length) (hi:i<(ur S o).length):(xA S o i).c.m<256∧(xA S o i).c.v<256∧(xA S o i).o<256:=by
 obtain⟨h0,h8,h1,h4,h5,hin⟩:=dz.1 hr
 obtain⟨g1,g2⟩:=uL (S:=S) (x:=⟨(ur S o).getD i ⟨0,0⟩,2^o⟩) (I6 hr ho hi) S.n.toNat
 refine⟨g1,g2,?_⟩
 have:=(rM (fQ.1 (oA (yD hr ho hi)).1).1).2
 show (wI S ⟨(ur S o).getD i ⟨0,0⟩,2^o⟩).o<256
 omega
theorem C6 (S:Sp) (o:Nat) (acc:List Rw):∀i,(Jd S o acc i).length≤acc.length+i
 |0=>am _
 |i+1=>go (rD _ _) (by have:=C6 S o acc i;omega)
theorem Df {S:Sp} (hr:dt S=true):∀o,o≤S.on.length→(G9 S o).length≤o*19683
 |0,_=>am _
 |o+1,ho=>by
  have h1:=Df hr o (by omega)
  have h2:=C6 S o (G9 S o) (ur S o).length
  have h3:=Oy hr (show o<S.on.length by omega)
  rw[G9]
  omega
theorem IG {S:Sp} {o:Nat} {acc:List Rw} {x:Rw}:∀i,x∈Jd S o acc i↔x∈acc∨∃q,q<i∧x=xA S o q
 |0=>by simp[Jd]
 |i+1=>by
  rw[Jd,gy,IG i]
  constructor
  ·rintro((h|⟨q,hq,h⟩)|h)
   ·exact .inl h
   ·exact .inr ⟨q,by omega,h⟩
   ·exact .inr ⟨i,by omega,h⟩
  ·rintro(h|⟨q,hq,h⟩)
   ·exact .inl (.inl h)
   ·rcases aaK.1 hq with hq|rfl
    ·exact .inl (.inr ⟨q,hq,h⟩)
    ·exact .inr h
theorem xX {S:Sp} {x:Rw}:∀o,x∈G9 S o↔∃q,q<o∧∃i,i<(ur S q).length∧x=xA S q i
 |0=>by simp[G9]
 |o+1=>by
  rw[G9,IG,xX o]
  constructor
  ·rintro(⟨q,hq,h⟩|h)
   ·exact⟨q,by omega,h⟩
   ·exact⟨o,by omega,h⟩
  ·rintro⟨q,hq,h⟩
   rcases aaK.1 hq with hq|rfl
   ·exact .inl ⟨q,hq,h⟩
   ·exact .inr h
theorem Ld {S:Sp} (hr:dt S=true):(mX S).length≤78732:=by
 have h:=Df hr _ (am _)
 grind [dz,mX]
theorem wH {S:Sp} (hr:dt S=true) {x:Rw} (hx:x∈mX S):rq S x=true:=by
 obtain⟨q,hq,i,hi,rfl⟩:=(xX _).1 hx
 exact(oA (yD hr hq hi)).1
theorem Qs {S:Sp} (hr:dt S=true):iC (mX S):=λx hx=>by
 obtain⟨q,hq,i,hi,rfl⟩:=(xX _).1 hx
 exact Yb hr hq hi
theorem wo {S:Sp} (hr:dt S=true):gz S (mX S)=true:=by
 obtain⟨h0,h8,h1,h4,h5,hin⟩:=dz.1 hr
 have hm:km S (mX S)=true:=jV.2 λx hx=>by
  have hi:=(fQ.1 (wH hr hx)).1
  exact fY.2 ⟨gI hi,(im.1 hi).2.1,h5▸(rM hi).1⟩
 refine eU.2 ⟨hr,hm,λo ho=>(ig hr hm ho).2 λp hp=>⟨λhb=> ?_,λhb=> ?_⟩⟩
 ·have hok:=rt hr ho
  have hp8:p<256:=by have:=fw h8;omega
  obtain⟨i,hi,_,_,hh⟩:=(lW (n:=S.n.toNat) (by omega) p _ (am _) (TT hok)).1 (dL.1 (Wm hok) p hp8 hb)
  obtain⟨hpr,hho⟩:=oA (yD hr ho (i:=i) hi)
  obtain⟨g1,g2⟩:=qi.1 hho
  have hv:(xA S o i).c.v &&& (xA S o i).c.m=(xA S o i).c.v:=(du.1 (gI (fQ.1 hpr).1)).2.2.2
  unfold DR
  rw[abH]
  refine⟨xA S o i,(xX _).2 ⟨o,ho,i,hi,rfl⟩,?_⟩
  rw[th]
  refine⟨g2 o (by show (2^o).testBit o=true;rw[abh];simp),?_⟩
  have:=mS (p:=p) hv g1 hh
  unfold pa
  rw[decide_eq_true_eq,hv]
  exact this
 ·unfold DR at hb
  rw[abH]at hb
  obtain⟨x,hx,h2⟩:=hb
  rw[th]at h2
  have hi:=(fQ.1 (wH hr hx)).1
  have hv:=(du.1 (gI hi)).2.2.2
  have h3:=h2.2
  unfold pa at h3
  rw[decide_eq_true_eq,hv]at h3
  exact(gp.1 ((im.1 hi).2.2 o h2.1).2).2 p hp h3
theorem Ji {ml:List Rw} {kk:Rw} (h:(!(iH (fz ml) ⟨⟨kk.c.m,kk.c.v⟩,kk.o⟩).getD false)=true):kk∉ml:=by
 rw[mL]at h
 simpa using h
theorem DA {ml:List Rw} {kk:Rw} (h:(!(iH (fz ml) ⟨⟨kk.c.m,kk.c.v⟩,kk.o⟩).getD false)=false):kk∈ml:=by
 rw[mL]at h
 simpa using h
theorem I5 {S:Sp} {o i:Nat} {acc:List Rw} (h:xA S o i∉Jd S o acc i):Jd S o acc i++[xA S o i]=Jd S o acc (i+1):=(EA h).symm
theorem x9 {S:Sp} {o i:Nat} {acc:List Rw} (h:xA S o i∈Jd S o acc i):Jd S o acc i=Jd S o acc (i+1):=(zP h).symm
end
section
open Go Go.RowKit
end
section
open Go Go.RowKit
def AG (l:List Rw) (ks:List Int):Nat→List Rw
 |0=>[]
 |k+1=>if (k:Int)∈ks then AG l ks k++[l.getD k ⟨⟨0,0⟩,0⟩]else AG l ks k
theorem Yi {l:List Rw} {ks:List Int} {k:Nat} (h:(k:Int)∈ks):AG l ks k++[l.getD k ⟨⟨0,0⟩,0⟩]=AG l ks (k+1):=(if_pos h).symm
theorem Xm {l:List Rw} {ks:List Int} {k:Nat} (h:¬(k:Int)∈ks):AG l ks k=AG l ks (k+1):=(if_neg h).symm
theorem yl (l:List Rw) (ks:List Int):∀k,(AG l ks k).length=(lY ks k).length
 |0=>rfl
 |k+1=>by
  rw[AG,nr]
  split
  ·rw[An,An,yl l ks k];rfl
  ·exact yl l ks k
theorem Nl (l:List Rw) (ks:List Int) (k:Nat):(AG l ks k).length≤ks.length:=by grind [yl,EG]
theorem I3 (l:List Rw) (ks:List Int) (k:Nat):(AG l ks k).length≤k:=by grind [yl,mH]
theorem Bu {l:List Rw} {m:Nat} (h:m<l.length):l.take m++[l.getD m ⟨⟨0,0⟩,0⟩]=l.take (m+1):=by
 simp_all
theorem JI {l:List Rw} {ks:List Int}:∀k,k≤l.length→(AG l ks k).Sublist (l.take k)
 |0,_=>by simp[AG]
 |k+1,hk=>by
  have ih:=JI (l:=l) (ks:=ks) k (by omega)
  rw[AG,←Bu (by omega:k<l.length)]
  split
  ·exact ih.append (List.Sublist.refl _)
  ·exact ih.trans (List.sublist_append_left _ _)
def Vx (n:Nat) (ks:List Int):List Bool:=(List.range n).map λc:Nat=>decide ((c:Int)∈ks)
theorem Kg {n:Nat} {ks:List Int} {k:Nat} (h:k<n):(Vx n ks).getD k false=decide ((k:Int)∈ks):=by
 grind [Vx,List.getElem?_range]
theorem Ml {l:List Rw} {ks:List Int}:∀k,k≤l.length→AG l ks k=P5 l (Vx l.length ks) k
 |0,_=>rfl
 |k+1,hk=>by
  rw[AG,P5,Ml k (by omega),Kg (show k<l.length by omega)]
  simp only[decide_eq_true_eq]
theorem NS {n:Nat} {ks:List Int}:∀k,k≤n→Qx (Vx n ks) k=lY ks k
 |0,_=>rfl
 |k+1,hk=>by
  rw[Qx,nr,NS k (by omega),Kg (show k<n by omega)]
  simp only[decide_eq_true_eq]
section
variable {S:Sp}
theorem LP (hr:dt S=true) (h4:S.n≤4) (h3:S.on.length≤3):(eV S).length≤2048:=by
 obtain⟨h0,h8,_,_,h5,_⟩:=dz.1 hr
 have hn:(eV S).Nodup:=(qa S _).imp λh e=>by rw[e,Al]at h;cases h
 have h:=tO (b:=(List.range 2048).map λq=>(⟨⟨q%16,q/16%16⟩,q/256⟩:Rw)) hn λx hx=> ?_
 ·simpa using h
 ·have hp:=(fQ.1 ((uR hr).1 hx))
  have ho:=(rM hp.1).1
  have hrt:=gI hp.1
  obtain⟨r1,r2,r3,r4⟩:=du.1 hrt
  have hp3:2^S.may.length≤2^3:=aa8 (by decide) (by omega)
  have hp4:2^S.n.toNat≤2^4:=aa8 (by decide) (by omega)
  have hm:x.c.m<16:=by omega
  have hvm:x.c.v≤x.c.m:=by rw[←r4];exact aci
  have hv:x.c.v<16:=by omega
  refine aa6.2 ⟨x.c.m+16*x.c.v+256*x.o,aba.2 (by omega),?_⟩
  have e1:(x.c.m+16*x.c.v+256*x.o)%16=x.c.m:=by omega
  have e2:(x.c.m+16*x.c.v+256*x.o)/16%16=x.c.v:=by omega
  have e3:(x.c.m+16*x.c.v+256*x.o)/256=x.o:=by omega
  rw[e1,e2,e3]
theorem xU (hr:dt S=true):∀q,q<(eV S).length→rC S ((eV S).getD q ⟨⟨0,0⟩,0⟩)=true:=by grind [fQ,qf]
theorem G1 (hr:dt S=true) (hl:(eV S).length≤4000) {ks:List Int} (h:nL (mB S (eV S)) ks):gz S (AG (eV S) ks (eV S).length)=true:=by
 rw[Ml _ (am _)]
 have hm:=Ue (bs:=Vx (eV S).length ks) hr (xU hr) hl (am _)
 have hs:pR (mB S (eV S)) (Qx (Vx (eV S).length ks) (eV S).length)=true:=by
  rw[NS _ (am _)]
  have:=rK (kT (S:=S) hl) h
  rw[so]at this
  exact Kl.2 this
 grind [kT]
theorem Qg (hr:dt S=true) (hl:(eV S).length≤4000):nL (mB S (eV S)) (Vu (eV S).length):=by
 have hm:=Ue (bs:=Vx (eV S).length (Vu (eV S).length)) hr (xU hr) hl (am _)
 have e:AG (eV S) (Vu (eV S).length) (eV S).length=eV S:=by
  have key:∀k,k≤(eV S).length→AG (eV S) (Vu (eV S).length) k=(eV S).take k:=by
   intro k
   induction k with
   |zero=>intro _;simp[AG]
   |succ k ih=>
    intro hk
    rw[AG,if_pos (P7.2 ⟨by omega,by omega⟩),ih (by omega),Bu (by omega)]
  rw[key _ (am _),aa7]
 rw[←Ml _ (am _),e,NS _ (am _),Jr hr,kT hl,abu]at hm
 have h2:pR (mB S (eV S)) (lY (Vu (eV S).length) (eV S).length)=true:=hm
 grind [zA,Kl,rJ]
theorem Qf {L:ML} {X:List Int} (h:nL L X):jG L L.length=true:=Pu.2 λi hi=>by
 obtain⟨c,h1,_⟩:=h _ (dB (d:=[]) hi)
 exact abC h1
theorem UJ (hr:dt S=true) {Z:List Rw} (h:gz S Z=true) {i:Nat} (hi:i<Z.length):rC S (Z.getD i ⟨⟨0,0⟩,0⟩)=true:=by
 obtain⟨_,hm,hc⟩:=eU.1 h
 obtain⟨h0,h8,h1,h4,h5,hin⟩:=dz.1 hr
 have hok:=fY.1 (j8.1 hm i hi)
 refine im.2 ⟨hr,hok.2.1,λj hj=> ?_⟩
 have hjl:j<S.on.length:=by
  rcases abO j S.on.length with k|k
  ·exact k
  ·have:=gF.1 hok.2.2 j k
   rw[hj]at this;cases this
 refine⟨by omega,gp.2 ⟨hok.1,λp hp hh=> ?_⟩⟩
 refine((ig hr hm hjl).1 (hc j hjl) p hp).2 (sB.2 ⟨i,hi,?_⟩)
 rw[hj,abu]
 unfold pa
 grind
theorem RS (hr:dt S=true) {Z:List Rw} (h:gz S Z=true):∃Y:List Int,Y.Nodup∧nL (mB S (eV S)) Y∧Y.length≤Z.length:=by
 obtain⟨_,hm,hc⟩:=eU.1 h
 have place:∀z,∃c:Nat,z∈Z→rC S z=true→c<(eV S).length∧tQ ((eV S).getD c ⟨⟨0,0⟩,0⟩) z=true:=λz=>by
  by_cases hz:rC S z=true
  ·obtain⟨j,h1,h2⟩:=(sV _).1 (Jk hz)
   exact⟨j,λ_ _=>⟨h1,h2⟩⟩
  ·exact⟨0,λ_ k=>absurd k hz⟩
 let idx:Rw→Int:=λz=>((Classical.choose (place z):Nat):Int)
 have hidx:∀z,z∈Z→rC S z=true→∃c:Nat,idx z=(c:Int)∧c<(eV S).length∧tQ ((eV S).getD c ⟨⟨0,0⟩,0⟩) z=true:=λz h1 h2=>⟨_,rfl,Classical.choose_spec (place z) h1 h2⟩
 have fold:∀(l:List Rw) (acc:List Int),acc.Nodup→((l.foldl (λa z=>ji a (idx z)) acc).Nodup∧(l.foldl (λa z=>ji a (idx z)) acc).length≤acc.length+l.length∧∀x,x∈acc∨(∃z,z∈l∧x=idx z)→x∈l.foldl (λa z=>ji a (idx z)) acc):=by
  intro l
  induction l with
  |nil=>intro acc ha;exact⟨ha,by simp,λx hx=>hx.elim id λ⟨z,hz,_⟩=>by cases hz⟩
  |cons z l ih=>
   intro acc ha
   obtain⟨i1,i2,i3⟩:=ih (ji acc (idx z)) (jT ha _)
   have hl:=rD acc (idx z)
   refine⟨i1,?_,λx hx=>i3 x ?_⟩
   ·rw[acG,aa5];omega
   ·rcases hx with hx|⟨y,hy,e⟩
    ·exact .inl (gy.2 (.inl hx))
    ·rcases abl.1 hy with q|q
     ·rw[q]at e;exact .inl (gy.2 (.inr e))
     ·exact .inr ⟨y,q,e⟩
 obtain⟨f1,f2,f3⟩:=fold Z [] List.nodup_nil
 refine⟨_,f1,λr hr2=> ?_,by simpa using f2⟩
 obtain⟨q,hq,j,hj,e⟩:=(pt _).1 (nx.1 hr2)
 obtain⟨p,hp,hpb,hpe⟩:=l9 hj
 rw[hpe,so]at e
 have hpn:p<2^S.n.toNat:=T3 hr hq hpb hp
 obtain⟨i,hi,hb⟩:=sB.1 (((ig hr hm hq).1 (hc q hq) p hpn).1 hpb)
 rw[th]at hb
 have hz:Z.getD i ⟨⟨0,0⟩,0⟩∈Z:=dB hi
 have hin:rC S (Z.getD i ⟨⟨0,0⟩,0⟩)=true:=UJ hr h hi
 obtain⟨c,h1,h2,h3⟩:=hidx _ hz hin
 obtain⟨h4,h5⟩:=qi.1 h3
 refine⟨(c:Int),?_,f3 _ (.inr ⟨_,hz,h1.symm⟩)⟩
 rw[e]
 refine pC.2 ⟨c,rfl,h2,?_⟩
 unfold LD
 rw[h5 q hb.1,abu]
 have hv1:=(du.1 (gI hin)).2.2.2
 have hv2:=(du.1 (gI (xU hr c h2))).2.2.2
 have hp1:=of_decide_eq_true hb.2
 rw[hv1]at hp1
 unfold pa
 rw[decide_eq_true_eq,hv2]
 grind [mS]
end
structure F7 (S:Sp) (R:List Rw):Prop where
 cov:gz S R=true
 sub:R.Sublist (eV S)
 min:∀Z,gz S Z=true→R.length≤Z.length
theorem Tm {S:Sp} {L:ML} {T X ks:List Int} (hr:dt S=true) (hl:(eV S).length≤4000) (h:mW (mB S (eV S)) L T) (k:SP L ((eV S).length:Int) X) (hk:∀c,c∈ks↔c∈T++X) (hn:ks.Nodup):F7 S (AG (eV S) ks (eV S).length):=by
 obtain⟨h1,h2⟩:=SP.both h k
 refine⟨G1 hr hl (zA h1 λc hc=>(hk c).2 hc),?_,λZ hZ=> ?_⟩
 ·have:=JI (l:=eV S) (ks:=ks) _ (am _)
  rwa [aa7]at this
 ·obtain⟨Y,y1,y2,y3⟩:=RS hr hZ
  have:=h2 Y y1 y2
  have h3:=Nl (eV S) ks (eV S).length
  have h4:=tO hn λc hc=>(hk c).1 hc
  omega
end
section
open Go Go.RowKit
def pm (m v:Nat):Nat→Nat
 |0=>0
 |k+1=>pm m v k+(if m.testBit k=true then 2^(2*k+(if v.testBit k=true then 1 else 0))else 0)
def uG (c:Cb):Nat:=pm c.m c.v 8
theorem UH (k:Nat):2^(2*k)+2^(2*k)+2^(2*k)+2^(2*k)=2^(2*(k+1)):=by
 grind
theorem Q6 (k:Nat):2^(2*k+1)=2^(2*k)+2^(2*k):=by omega
theorem DN (m v:Nat):∀k,pm m v k<2^(2*k)
 |0=>by simp[pm]
 |k+1=>by
  have ih:=DN m v k
  have h1:=UH k
  have h2:=Q6 k
  rw[pm]
  split
  ·split
   ·rw[h2];omega
   ·rw[ab7];omega
  ·omega
theorem PM {x a e t:Nat} (hx:x<2^a) (ha:a≤e):(x+2^e).testBit t=(x.testBit t||decide (t=e)):=by
 have hlt:x<2^e:=abe hx (aa8 (by decide) ha)
 have h:=abS hlt 1
 grind
theorem rS (m v:Nat):∀(k j b:Nat),b<2→((pm m v k).testBit (2*j+b)=true↔j<k∧m.testBit j=true∧v.testBit j=decide (b=1))
 |0,j,b,_=>by simp[pm]
 |k+1,j,b,hb=>by
  have ih:=rS m v k j b hb
  rw[pm]
  by_cases hm:m.testBit k=true
  ·rw[if_pos hm]
   generalize hv:(if v.testBit k=true then 1 else 0:Nat)=d
   have hd:d<2∧v.testBit k=decide (d=1):=by
    subst hv
    split
    ·rename_i h;exact⟨by omega,by rw[h];rfl⟩
    ·rename_i h;exact⟨by omega,by simpa using h⟩
   rw[PM (DN m v k) (by omega),abF,ih,decide_eq_true_iff]
   constructor
   ·rintro(⟨h1,h2,h3⟩|h)
    ·exact⟨by omega,h2,h3⟩
    ·obtain rfl:j=k:=by omega
     obtain rfl:b=d:=by omega
     exact⟨by omega,hm,hd.2⟩
   ·rintro⟨h1,h2,h3⟩
    by_cases e:j=k
    ·subst e
     rw[hd.2]at h3
     have:(d=1)↔(b=1):=decide_eq_decide.1 h3
     exact .inr (by omega)
    ·exact .inl ⟨by omega,h2,h3⟩
  ·rw[if_neg hm,ab7,ih]
   constructor
   ·rintro⟨h1,h2⟩;exact⟨by omega,h2⟩
   ·rintro⟨h1,h2,h3⟩
    refine⟨?_,h2,h3⟩
    by_cases e:j=k
    ·subst e;exact absurd h2 hm
    ·omega
theorem Cu {c d:Cb} (h:uG c=uG d) {j:Nat} (hj:j<8) (hc:c.m.testBit j=true):d.m.testBit j=true∧d.v.testBit j=c.v.testBit j:=by
 unfold uG at h
 cases hv:c.v.testBit j with
 |false=>
  have h1:=(rS c.m c.v 8 j 0 (by decide)).2 ⟨hj,hc,hv⟩
  rw[h]at h1
  exact((rS d.m d.v 8 j 0 (by decide)).1 h1).2
 |true=>
  have h1:=(rS c.m c.v 8 j 1 (by decide)).2 ⟨hj,hc,hv⟩
  rw[h]at h1
  exact((rS d.m d.v 8 j 1 (by decide)).1 h1).2
theorem L6 {c d:Cb} (hc:c.m<256) (hd:d.m<256) (vc:c.v &&& c.m=c.v) (vd:d.v &&& d.m=d.v) (h:uG c=uG d):c=d:=by
 have hi:∀(a:Nat),a<256→∀j,8≤j→a.testBit j=false:=λa ha j hj=>(gF (n:=8)).1 ha j hj
 have em:c.m=d.m:=aaz λj=>by
  rcases abO j 8 with hj|hj
  ·cases e1:c.m.testBit j with
   |true=>exact(Cu h hj e1).1.symm
   |false=>
    cases e2:d.m.testBit j with
    |false=>rfl
    |true=>rw[(Cu h.symm hj e2).1]at e1;cases e1
  ·rw[hi _ hc j hj,hi _ hd j hj]
 have ev:c.v=d.v:=aaz λj=>by
  rcases abO j 8 with hj|hj
  ·cases e1:c.m.testBit j with
   |true=>exact(Cu h hj e1).2.symm
   |false=>rw[eX vc,eX vd,←em,e1,abq,abq]
  ·rw[eX vc,eX vd,hi _ hc j hj,hi _ hd j hj,abq,abq]
 cases c;cases d
 grind
theorem Gg (m v i:Nat) (h:∀j,j<i→m.testBit j=false):∀k,2^(2*i)∣pm m v k
 |0=>Nat.dvd_zero _
 |k+1=>by
  rw[pm]
  refine Nat.dvd_add (Gg m v i h k) ?_
  split
  ·rename_i hk
   refine acE 2 ?_
   have:¬k<i:=λq=>by rw[h k q]at hk;cases hk
   omega
  ·exact Nat.dvd_zero _
theorem Bh {c:Cb} {i one:Nat} (h1:one=0∨one=1) (hm:c.m.testBit i=false) (hv:c.v.testBit i=false):∀k,pm (iZ i one c).m (iZ i one c).v k=pm c.m c.v k+(if i<k then 2^(2*i+one)else 0)
 |0=>by simp[pm]
 |k+1=>by
  have ih:=Bh h1 hm hv k
  have lm:=kl c i one k
  have lv:(iZ i one c).v.testBit k=(c.v.testBit k||(decide (k=i)&&decide (one=1))):=by
   rcases h1 with rfl|rfl
   ·rw[oR];simp
   ·rw[oL];simp
  rw[pm,pm,ih,lm,lv]
  by_cases e:k=i
  ·subst e
   rcases h1 with rfl|rfl<;>simp[hm,hv]
  ·rw[decide_eq_false e,acJ,abD,acJ]
   by_cases q:i<k
   ·have q2:i<k+1:=by omega
    rw[if_pos q,if_pos q2]
    omega
   ·have q2:¬i<k+1:=by omega
    rw[if_neg q,if_neg q2]
    omega
structure Rt (n:Nat) (c:Cb):Prop where
 m:c.m<2^n
 v:c.v &&& c.m=c.v
def LZ (n s:Nat) (c:Cb):Prop:=∀p,p<2^n→hold c p→s.testBit p=true
theorem WM {n:Nat} (h8:n≤8) {c:Cb}:dP c.m c.v (n:Int)=true↔Rt n c:=by
 rw[du,so]
 exact⟨λh=>⟨h.2.2.1,h.2.2.2⟩,λh=>⟨by omega,by omega,h.m,h.v⟩⟩
theorem JX {n i:Nat} {c:Cb} (hi:i<8) (h:Rt n c):Rt n (jP c i):=by
 refine⟨gF.2 λj hj=> ?_,?_⟩
 ·show (lA c.m (i:Int)).testBit j=false
  rw[fE hi,gF.1 h.m j hj,abD]
 ·show (c.v &&& lA c.m (i:Int)) &&& lA c.m (i:Int)=_
  rw[Nat.and_assoc,Nat.and_self]
  rfl
theorem gV {n s:Nat} (h8:n≤8) {c:Cb}:iL c.m c.v s (n:Int)=true↔Rt n c∧LZ n s c∧∀i,i<n→c.m.testBit i=true→¬LZ n s (jP c i):=by
 have hw:∀d:Cb,tz d.m d.v s (n:Int)=true↔Rt n d∧LZ n s d:=λd=>by
  have:=gp (s:=s) (n:=(n:Int)) (c:=d)
  rw[WM h8,so]at this
  exact this
 rw[gE,hw,so]
 constructor
 ·rintro⟨⟨h1,h2⟩,h3⟩
  refine⟨h1,h2,λi hi hb hq=> ?_⟩
  have h4:=h3 i hi
  unfold lI at h4
  rw[hb,abu]at h4
  have h5:=(hw (jP c i)).2 ⟨JX (by omega) h1,hq⟩
  have h6:tz (lA c.m (i:Int)) (c.v &&& lA c.m (i:Int)) s (n:Int)=true:=h5
  rw[h4]at h6
  cases h6
 ·rintro⟨h1,h2,h3⟩
  refine⟨⟨h1,h2⟩,λi hi=>aa0.2 λh4=> ?_⟩
  unfold lI at h4
  obtain⟨h5,h6⟩:=acm.1 h4
  grind [jP]
def vR (n s x:Nat):Prop:=∃c:Cb,iL c.m c.v s (n:Int)=true∧x=uG c
structure wX (n s i:Nat):Prop where
 le:i≤n
 out:∀p,p<256→s.testBit p=true→p<2^n
 free:∀p j,p<256→j<i→s.testBit (p ^^^ 2^j)=s.testBit p
theorem MK {n s:Nat} (h:∀p,p<256→s.testBit p=true→p<2^n):wX n s 0:=⟨my _,h,λ_ j _ hj=>absurd hj (Nat.not_lt_zero j)⟩
section
variable {n s t i:Nat}
theorem wX.good (h:wX n s i):ox n 0 s i:=⟨h.le,λp _ hq=>(by rw[abx]at hq;cases hq),h.out,λp j _ _=>(by rw[abx,abx]),h.free⟩
theorem wX.side (h8:n≤8) (h:wX n s i) (hi:i<n) (x:Bool):wX n (cS s i x) (i+1):=by
 have g:=h.good.side h8 hi x
 exact⟨g.le,g.out,g.freeM⟩
theorem wX.and (h:wX n s i) (k:wX n t i):wX n (s &&& t) i:=by
 refine⟨h.le,λp hp hq=> ?_,λp j hp hj=> ?_⟩
 ·rw[aa3,th]at hq
  exact h.out p hp hq.1
 ·rw[aa3,aa3,h.free p j hp hj,k.free p j hp hj]
theorem wX.lt (h8:n≤8) (h:wX n s i) (h0:¬AF s 0=true) (h1:¬AF s (fm n)=true):i<n:=by
 rcases abO i n with k|k
 ·exact k
 ·obtain rfl:i=n:=by have:=h.le;omega
  have g:ox i s s i:=⟨h.le,λ_ _ q=>q,h.out,h.free,h.free⟩
  rcases g.end h8 with q|q
  all_goals grind
theorem Ss {c:Cb} {j:Nat} (hj:j<8) (hv:c.v &&& c.m=c.v) (hb:c.m.testBit j=false):jP c j=c:=by
 have e:lA c.m (j:Int)=c.m:=aaz λq=>by
  rw[fE hj]
  by_cases k:q=j
  ·subst k;rw[hb];rfl
  ·simp[k]
 show Cb.mk (lA c.m (j:Int)) (c.v &&& lA c.m (j:Int))=c
 rw[e,hv]
theorem E8 (h8:n≤8) {c:Cb} (hc:Rt n c) {j:Nat} (hj:j<n) (hf:∀p,p<2^n→s.testBit (p ^^^ 2^j)=s.testBit p) (h:LZ n s c):LZ n s (jP c j):=by
 intro p hp hh
 by_cases hb:c.m.testBit j=true
 ·have hh':p &&& lA c.m (j:Int)=c.v &&& lA c.m (j:Int):=hh
  rcases(BB (by omega) hb hc.v).1 hh' with k|k
  ·exact h p hp k
  ·rw[←hf p hp]
   refine h _ (CY hj hp) ?_
   unfold hold
   refine aaz λq=> ?_
   have e:=congrArg (λx=>x.testBit q) k
   simp only[aa3,sA]at e ⊢
   by_cases e2:q=j
   ·subst e2
    rw[if_pos rfl]
    rw[if_pos rfl,hb,abN]at e
    rw[hb,abN,e,Bool.not_not]
   ·rw[if_neg e2]at e ⊢
    exact e
 ·refine h p hp ?_
  have e:jP c j=c:=Ss (by omega) hc.v (by simpa using hb)
  grind
theorem tM (h8:n≤8) (h:wX n s i) {c:Cb} (hp:iL c.m c.v s (n:Int)=true) {j:Nat} (hj:j<i):c.m.testBit j=false:=by
 obtain⟨h1,h2,h3⟩:=(gV h8).1 hp
 have hle:=h.le
 have h256:=gj h8
 refine aa0.2 λhb=>h3 j (by omega) hb ?_
 exact E8 h8 h1 (by omega) (λp hp=>h.free p j (by omega) hj) h2
theorem uF (h8:n≤8) (h:wX n s i) {x:Nat} (hx:vR n s x):2^(2*i)∣x:=by
 obtain⟨c,hc,rfl⟩:=hx
 exact Gg _ _ _ (λj hj=>tM h8 h hc hj) 8
theorem DJ (h8:n≤8) {x:Nat} (hx:vR n s x):x<2^(2*n):=by
 obtain⟨c,hc,rfl⟩:=hx
 obtain⟨h1,_,_⟩:=(gV h8).1 hc
 have key:∀d,pm c.m c.v (n+d)=pm c.m c.v n:=λd=>by
  induction d with
  |zero=>rfl
  |succ d ih=>rw[←Nat.add_assoc,pm,gF.1 h1.m (n+d) (by omega),ih];simp
 unfold uG
 rw[show 8=n+(8-n)by omega,key]
 exact DN _ _ _
theorem Ym (h8:n≤8) (h:AF s 0=true) (x:Nat):¬vR n s x:=by
 rintro⟨c,hc,rfl⟩
 obtain⟨h1,h2,_⟩:=(gV h8).1 hc
 have h256:=gj h8
 have hv:c.v<2^n:=gF.2 λj hj=>by rw[eX h1.v,gF.1 h1.m j hj,abq]
 have h3:=h2 c.v hv h1.v
 grind [sO]
theorem Tz (h8:n≤8) (h:AF s (fm n)=true) (x:Nat):vR n s x↔x=0:=by
 have h256:=gj h8
 have all:∀c,LZ n s c:=λc p hp _=>by rw[sO.1 h p (by omega),fk];exact decide_eq_true hp
 constructor
 ·rintro⟨c,hc,rfl⟩
  obtain⟨h1,h2,h3⟩:=(gV h8).1 hc
  have hm:∀j,c.m.testBit j=false:=λj=>by
   rcases abO j n with k|k
   ·exact aa0.2 λhb=>h3 j k hb (all _)
   ·exact gF.1 h1.m j k
  have key:∀k,pm c.m c.v k=0:=λk=>by
   induction k with
   |zero=>rfl
   |succ k ih=>rw[pm,ih,hm];rfl
  exact key 8
 ·rintro rfl
  refine⟨⟨0,0⟩,(gV h8).2 ⟨⟨abo n,rfl⟩,all _,λi _ hb=> ?_⟩,rfl⟩
  grind
theorem yg (h8:n≤8) (hi:i<n) {c:Cb} (hc:Rt n c) (hm:c.m.testBit i=false) (b:Bool):LZ n (cS s i b) c↔LZ n s (iZ i (if b=true then 1 else 0) c):=by
 have h256:=gj h8
 have h1:(if b=true then 1 else 0:Nat)=0∨(if b=true then 1 else 0:Nat)=1:=by cases b;exact .inl rfl;exact .inr rfl
 have hb:decide ((if b=true then 1 else 0:Nat)=1)=b:=by cases b<;>rfl
 constructor
 ·intro h p hp hh
  obtain⟨k1,k2⟩:=(vj h1 hc.v hm).1 hh
  rw[hb]at k1
  have:=((fO (by omega)).1 (h p hp k2)).2
  rwa [lV k1]at this
 ·intro h p hp hh
  refine(fO (by omega)).2 ⟨by omega,h _ ((lM hi).2 hp) ((vj h1 hc.v hm).2 ⟨?_,(zx hm).2 hh⟩)⟩
  rw[nn,if_pos rfl,hb]
theorem xZ (h8:n≤8) (hi:i<n) {c:Cb} (hm:c.m.testBit i=false):LZ n (cS s i false &&& cS s i true) c↔LZ n s c:=by
 have h256:=gj h8
 constructor
 ·intro h p hp hh
  have h2:=h p hp hh
  rw[aa3,th]at h2
  cases hb:p.testBit i with
  |false=>have:=((fO (by omega)).1 h2.1).2;rwa [lV hb]at this
  |true=>have:=((fO (by omega)).1 h2.2).2;rwa [lV hb]at this
 ·intro h p hp hh
  rw[aa3,th]
  exact⟨(fO (by omega)).2 ⟨by omega,h _ ((lM hi).2 hp) ((zx hm).2 hh)⟩,(fO (by omega)).2 ⟨by omega,h _ ((lM hi).2 hp) ((zx hm).2 hh)⟩⟩
theorem rE {c:Cb} {j q:Nat} (hj:j<8):(jP c j).m.testBit q=(c.m.testBit q&&decide (q≠j)):=fE hj q
theorem Jx {c:Cb} {i j one:Nat} (hi:i<8) (hj:j<8) (hij:¬j=i) (h1:one=0∨one=1) (hv:c.v.testBit i=false):jP (iZ i one c) j=iZ i one (jP c j):=by
 have e1:(jP (iZ i one c) j).m=(iZ i one (jP c j)).m:=aaz λq=>by
  rw[rE hj,kl,kl,rE hj]
  by_cases e:q=i
  ·subst e;have:¬q=j:=λk=>hij k.symm;simp[this]
  ·simp[e]
 have vv:∀(d:Cb) (q:Nat),(jP d j).v.testBit q=(d.v.testBit q&&(d.m.testBit q&&decide (q≠j))):=λd q=>by
  show (d.v &&& lA d.m (j:Int)).testBit q=_
  rw[aa3,fE hj]
 have e2:(jP (iZ i one c) j).v=(iZ i one (jP c j)).v:=aaz λq=>by
  rw[vv,kl]
  rcases h1 with rfl|rfl
  ·rw[oR,oR,vv]
   by_cases e:q=i
   ·subst e
    rw[hv,abD,abD]
   ·simp[e]
  ·rw[oL,oL,vv]
   by_cases e:q=i
   ·subst e;have:¬q=j:=λk=>hij k.symm;simp[this]
   ·simp[e]
 grind [jP,iZ]
theorem WP {c:Cb} {one:Nat} (h1:one=0∨one=1) (hi:i<n) (hc:Rt n c):Rt n (iZ i one c):=by
 refine⟨gF.2 λj hj=> ?_,aaz λj=> ?_⟩
 ·rw[kl,gF.1 hc.m j hj,Bool.false_or,decide_eq_false (by omega)]
 ·have hb:=eX hc.v j
  rw[aa3,kl]
  rcases h1 with rfl|rfl
  ·rw[oR,hb]
   cases c.v.testBit j<;>cases c.m.testBit j<;>rfl
  ·rw[oL]
   grind
theorem OZ (hi:i<n) (h8:n≤8) {c:Cb} (hc:Rt n c) (hm:c.m.testBit i=true):c=iZ i (if c.v.testBit i=true then 1 else 0) (jP c i):=by
 have hi8:i<8:=by omega
 have vv:∀q:Nat,(jP c i).v.testBit q=(c.v.testBit q&&(c.m.testBit q&&decide (q≠i))):=λq=>by
  show (c.v &&& lA c.m (i:Int)).testBit q=_
  rw[aa3,fE hi8]
 have e1:c.m=(iZ i (if c.v.testBit i=true then 1 else 0) (jP c i)).m:=aaz λq=>by
  rw[kl,rE hi8]
  by_cases e:q=i
  ·subst e;simp[hm]
  ·simp[e]
 have e2:c.v=(iZ i (if c.v.testBit i=true then 1 else 0) (jP c i)).v:=aaz λq=>by
  have hb:=eX hc.v q
  cases hv:c.v.testBit i with
  |false=>
   rw[if_neg (by decide),oR,vv]
   by_cases e:q=i
   ·subst e;simp[hv]
   ·simp only[ne_eq,e,not_false_eq_true,decide_true,abN];exact hb
  |true=>
   rw[if_pos rfl,oL,vv]
   by_cases e:q=i
   ·subst e;simp[hv]
   ·simp only[ne_eq,e,not_false_eq_true,decide_true,abN,decide_false,acJ];exact hb
 cases h:iZ i (if c.v.testBit i=true then 1 else 0) (jP c i)
 rw[h]at e1 e2
 cases c
 grind
theorem KJ (h8:n≤8) (h:wX n s i) (hi:i<n) (x:Nat):
  vR n s x↔vR n (cS s i false &&& cS s i true) x∨(∃y,(vR n (cS s i false) y∧¬vR n (cS s i false &&& cS s i true) y)∧x=y+2^(2*i))∨(∃y,(vR n (cS s i true) y∧¬vR n (cS s i false &&& cS s i true) y)∧x=y+2^(2*i+1)):=by
 have hi8:i<8:=by omega
 have h256:=gj h8
 have hS:=λb=>h.side h8 hi b
 have hC:=(hS false).and (hS true)
 have wsub:∀b c,LZ n (cS s i false &&& cS s i true) c→LZ n (cS s i b) c:=λb c k p hp hh=>by
  have:=k p hp hh
  rw[aa3,th]at this
  cases b with
  |false=>exact this.1
  |true=>exact this.2
 have one:∀b:Bool,(if b=true then 1 else 0:Nat)=0∨(if b=true then 1 else 0:Nat)=1:=λb=>by cases b;exact .inl rfl;exact .inr rfl
 have A:∀c:Cb,c.m.testBit i=false→(iL c.m c.v s (n:Int)=true↔iL c.m c.v (cS s i false &&& cS s i true) (n:Int)=true):=λc hm=>by
  rw[gV h8,gV h8,xZ h8 hi hm]
  refine and_congr_right λhc=>and_congr_right λ_=> ?_
  refine forall_congr' λj=>forall_congr' λhj=>forall_congr' λhb=>not_congr ?_
  exact(xZ h8 hi (by rw[rE (by omega),hm,abD])).symm
 have B:∀(b:Bool) (c:Cb),Rt n c→c.m.testBit i=false→(iL (iZ i (if b=true then 1 else 0) c).m (iZ i (if b=true then 1 else 0) c).v s (n:Int)=true↔iL c.m c.v (cS s i b) (n:Int)=true∧¬iL c.m c.v (cS s i false &&& cS s i true) (n:Int)=true):=λb c hc hm=>by
  have hv:c.v.testBit i=false:=by rw[eX hc.v,hm,abq]
  have hrt:=WP (one b) hi hc
  have drop:jP (iZ i (if b=true then 1 else 0) c) i=c:=by
   have e1:(jP (iZ i (if b=true then 1 else 0) c) i).m=c.m:=aaz λq=>by
    rw[rE hi8,kl]
    by_cases e:q=i
    ·subst e;simp[hm]
    ·simp[e]
   have e2:(jP (iZ i (if b=true then 1 else 0) c) i).v=c.v:=aaz λq=>by
    show ((iZ i (if b=true then 1 else 0) c).v &&& lA (iZ i (if b=true then 1 else 0) c).m (i:Int)).testBit q=_
    have hb:=eX hc.v q
    rw[aa3,fE hi8,kl]
    by_cases e:q=i
    ·subst e;rw[hv];simp
    ·cases b with
     |false=>rw[if_neg (by decide),oR];simp only[decide_false,acJ,ne_eq,e,not_false_eq_true,decide_true,abN];exact hb.symm
     |true=>rw[if_pos rfl,oL];simp only[decide_false,acJ,ne_eq,e,not_false_eq_true,decide_true,abN];exact hb.symm
   cases k:jP (iZ i (if b=true then 1 else 0) c) i
   rw[k]at e1 e2
   cases c
   simp only[Cb.mk.injEq]
   exact⟨e1,e2⟩
  rw[gV h8,gV h8]
  constructor
  ·rintro⟨_,h2,h3⟩
   have g2:=(yg h8 hi hc hm b).2 h2
   refine⟨⟨hc,g2,λj hj hb hq=> ?_⟩,λhp=> ?_⟩
   ·have hji:¬j=i:=λe=>by rw[e,hm]at hb;cases hb
    refine h3 j hj (by rw[kl,hb,Bool.true_or]) ?_
    rw[Jx hi8 (by omega) hji (one b) hv]
    exact(yg h8 hi (JX (by omega) hc) (by rw[rE (by omega),hm,abD]) b).1 hq
   ·refine h3 i hi (by rw[kl,decide_eq_true rfl,Bool.or_true]) ?_
    rw[drop]
    exact(xZ h8 hi hm).1 ((gV h8).1 hp).2.1
  ·rintro⟨⟨_,h2,h3⟩,hn⟩
   refine⟨hrt,(yg h8 hi hc hm b).1 h2,λj hj hb hq=> ?_⟩
   by_cases hji:j=i
   ·subst hji
    rw[drop]at hq
    have g:=(xZ h8 hi hm).2 hq
    exact hn ((gV h8).2 ⟨hc,g,λq hq2 hb2 hw=>h3 q hq2 hb2 (wsub b _ hw)⟩)
   ·rw[kl,decide_eq_false hji,acJ]at hb
    rw[Jx hi8 (by omega) hji (one b) hv]at hq
    exact h3 j hj hb ((yg h8 hi (JX (by omega) hc) (by rw[rE (by omega),hm,abD]) b).2 hq)
 have inj:∀c d:Cb,Rt n c→Rt n d→uG c=uG d→c=d:=λc d hc hd e=>L6 (by have:=hc.m;omega) (by have:=hd.m;omega) hc.v hd.v e
 have nz:∀(b:Bool) (c:Cb),iL c.m c.v (cS s i b) (n:Int)=true→Rt n c∧c.m.testBit i=false:=λb c hc=>⟨((gV h8).1 hc).1,tM h8 (hS b) hc (acj i)⟩
 have mem:∀(b:Bool) (c:Cb),Rt n c→c.m.testBit i=false→uG (iZ i (if b=true then 1 else 0) c)=uG c+2^(2*i+(if b=true then 1 else 0)):=λb c hc hm=>by
  have hv:c.v.testBit i=false:=by rw[eX hc.v,hm,abq]
  have:=Bh (one b) hm hv 8
  rw[if_pos hi8]at this
  exact this
 constructor
 ·rintro⟨c,hc,rfl⟩
  have hrt:=((gV h8).1 hc).1
  cases hm:c.m.testBit i with
  |false=>exact .inl ⟨c,(A c hm).1 hc,rfl⟩
  |true=>
   have e:=OZ hi h8 hrt hm
   have hd:(jP c i).m.testBit i=false:=by rw[rE hi8];simp
   have hdr:=JX hi8 hrt
   rw[e]at hc
   obtain⟨g1,g2⟩:=(B _ _ hdr hd).1 hc
   have em:uG c=uG (jP c i)+2^(2*i+(if c.v.testBit i=true then 1 else 0)):=by
    conv=>lhs;rw[e]
    exact mem _ _ hdr hd
   have hno:¬vR n (cS s i false &&& cS s i true) (uG (jP c i)):=λ⟨d,h1,h2⟩=>by
    have:=inj _ _ hdr ((gV h8).1 h1).1 h2
    rw[this]at g2
    exact g2 h1
   cases hv:c.v.testBit i with
   |false=>
    rw[hv]at g1 em
    exact .inr (.inl ⟨_,⟨⟨_,g1,rfl⟩,hno⟩,em⟩)
   |true=>
    rw[hv]at g1 em
    exact .inr (.inr ⟨_,⟨⟨_,g1,rfl⟩,hno⟩,em⟩)
 ·have back:∀(b:Bool) (y:Nat),vR n (cS s i b) y→¬vR n (cS s i false &&& cS s i true) y→vR n s (y+2^(2*i+(if b=true then 1 else 0))):=λb y ⟨c,hc,e⟩ hn=>by
   obtain⟨h1,h2⟩:=nz b c hc
   exact⟨_,(B b c h1 h2).2 ⟨hc,λk=>hn ⟨c,k,e⟩⟩,by rw[mem b c h1 h2,e]⟩
  rintro(⟨c,hc,rfl⟩|⟨y,⟨h1,h2⟩,rfl⟩|⟨y,⟨h1,h2⟩,rfl⟩)
  ·exact⟨c,(A c (tM h8 hC hc (acj i))).2 hc,rfl⟩
  all_goals grind
end
end
end Go.Proofs.YtedeonkjellcpaaGreatDoor
