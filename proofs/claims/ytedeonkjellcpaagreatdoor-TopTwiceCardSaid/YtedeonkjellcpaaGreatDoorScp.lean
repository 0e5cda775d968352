/- Words and walks of the row. No condition. -/
import Derived.Test.YtedeonkjellcpaaGreatDoorCover4
import Derived.Scope
namespace Go.Proofs.YtedeonkjellcpaaGreatDoor
open Go Go.RowKit
set_option autoImplicit true
set_option relaxedAutoImplicit true
set_option linter.unusedVariables false
set_option linter.unusedSimpArgs false
section
def ut {α:Type} (d:α) (p:Nat→Bool) (l:List α):Nat→List α
 |0=>[]
 |k+1=>if p k then ut d p l k++[l.getD k d]else ut d p l k
theorem UA {α:Type} {d:α} {p:Nat→Bool} {l:List α} {k:Nat} (h:p k=true):ut d p l k++[l.getD k d]=ut d p l (k+1):=by rw[ut,if_pos h]
theorem UP {α:Type} {d:α} {p:Nat→Bool} {l:List α} {k:Nat} (h:p k=false):ut d p l k=ut d p l (k+1):=by rw[ut,if_neg (by rw[h];decide)]
theorem Ev (d:α) (p:Nat→Bool) (l:List α):∀k,(ut d p l k).length≤k
 |0=>am _
 |k+1=>by
  have:=Ev d p l k
  rw[ut]
  split
  ·rw[An,acf];omega
  ·omega
theorem adY {T:TypeId} {N:Nat} {w:World} {vs:List Value} {L:ML} (h:LO T N w vs L) (p:Nat→Bool):∀k,k≤L.length→LO T N w (ut undef p vs k) (ut [] p L k)
 |0,_=>LO.nil
 |k+1,hk=>by
  have ih:=adY h p k (by omega)
  rw[ut,ut]
  split
  ·exact ih.snoc (h.get k (by omega))
  ·exact ih
theorem tl {L:ML} {k:Nat} (h:k<L.length):L.take (k+1)=L.take k++[L.getD k []]:=(QD h).symm
theorem Nt {L:ML} {c:Int}:∀k,k≤L.length→ut [] (λk=> !decide (c∈L.getD k [])) L k=tZ (L.take k) c
 |0,_=>by simp[ut,tZ]
 |k+1,hk=>by
  have ih:=Nt (L:=L) (c:=c) k (by omega)
  rw[tl (by omega)]
  unfold tZ at ih ⊢
  rw[ut,adw,←ih]
  generalize ut [] (λk=> !decide (c∈L.getD k [])) L k=A
  generalize L.getD k []=r
  by_cases h:c∈r
  ·simp[h]
  ·simp[h]
theorem NI {L:ML} {i:Nat}:∀k,k≤L.length→ut [] (λk=>decide (¬(k:Int)=(i:Int))) L k=if k≤i then L.take k else Mp (L.take k) i
 |0,_=>by simp[ut]
 |k+1,hk=>by
  have ih:=NI (L:=L) (i:=i) k (by omega)
  rw[ut,ih]
  by_cases h1:k<i
  ·rw[if_pos (decide_eq_true (by omega)),if_pos (by omega),if_pos (by omega),tl (by omega)]
  ·by_cases h2:k=i
   ·subst h2
    rw[if_neg fF,if_pos (am _),if_neg (by omega)]
    unfold Mp
    rw[List.take_take,adm (by omega),List.drop_of_length_le IA,acw]
   ·rw[if_pos (decide_eq_true (by omega)),if_neg (by omega),if_neg (by omega),tl (by omega)]
    unfold Mp
    rw[adr IA,List.drop_append_of_le_length IA,ab7]
theorem Qo (L:ML) (c:Int):ut [] (λk=> !decide (c∈L.getD k [])) L L.length=tZ L c:=by rw[Nt _ (am _),aaY]
theorem Yw {L:ML} {i:Nat} (h:i<L.length):ut [] (λk=>decide (¬(k:Int)=(i:Int))) L L.length=Mp L i:=by rw[NI _ (am _),if_neg (by omega),aaY]
theorem Va {r:List Int} {c:Int} {k:Nat} (hk:k<r.length) (h:r.getD k 0=c):Value.bool true= .bool (decide (c∈r)):=by grind
theorem Ve {r:List Int} {c:Int} {k:Nat} (hk:k=r.length) (h:∀q,q<k→¬r.getD q 0=c):Value.bool false= .bool (decide (c∈r)):=x8 λe=>by
 obtain⟨j,hj,hjc⟩:=fh (d:=0) (of_decide_eq_true e)
 exact h j (by omega) hjc
def CY (a b:List Int):Bool:=a.all λx=>decide (x∈b)
theorem vQ:CY a b=true↔∀x,x∈a→x∈b:=by
 unfold CY
 grind
theorem Yf (hk:k<a.length) (h:(!decide (a.getD k 0∈b))=true):Value.bool false= .bool (CY a b):=by grind [x8,vQ,dF,decide_eq_true]
theorem aax (hk:k=a.length) (h:∀q,q<k→(!decide (a.getD q 0∈b))=false):Value.bool true= .bool (CY a b):=Re (vQ.2 λx hx=>by
 obtain⟨j,hj,rfl⟩:=fh (d:=0) hx
 have:=h j (by omega)
 simpa using this)
theorem cH.hi {α:Type} {enc:α→List Value} {sz:Nat} {T:TypeId} {w:World} {N:Nat} {v:Value} {l:List α} (h:cH enc sz T w N v l) (he:∀a,(enc a).length=sz) {k:Nat} (hk:k≤l.length):cH enc sz T w N (fY sz v 0 k (jn v)) (l.take k):=by
 obtain⟨h1,h2⟩:=h
 have hl:(List.flatMap enc (l.take k)).length=(l.take k).length*sz:=mI he _
 refine⟨hl,?_⟩
 rcases h2 with ⟨rfl,h3⟩|⟨g,cap,cur,rfl,hg,hh,hnc,hcm,hcs,ht⟩
 ·have h0:l=[]:=ab4 h3
  subst h0
  have hk0:k=0:=by simpa using hk
  subst hk0
  exact .inl ⟨rfl,rfl⟩
 ·refine .inr ⟨g,cap,cur,?_,hg,hh,by rw[aaX];omega,hcm,hcs,?_⟩
  ·show fY sz (.slice (some ⟨g,0,none⟩) l.length cap) 0 k cap=_
   unfold fY EM
   rw[aaX,adm hk]
   by_cases hc:cap=0
   ·subst hc;simp
   ·rw[if_neg hc]
    simp only[Option.map_some,acV,Nat.sub_zero]
    rw[iw]
  ·rw[aaX,adm hk,tm he,←ht,List.take_take]
   simp_all
theorem Qg (k:At w b #[f0,f1,f2] T) (hN:N≤b):cH encV 1 T w N (.slice (some ⟨b,0,none⟩) 3 3) [f0,f1,f2]:=
 ⟨rfl, .inr ⟨b,3,#[f0,f1,f2],rfl,hN,k,am _,by decide,rfl,rfl⟩⟩
section
variable {P:Program} {f:Nat→Value} {w:World} {d:Option Nat} {ty:TypeId} {ps:String} {af:Array Edge} {g:Option (Nat×Bool)} {x y:Operand}
theorem WJ (hx:dm f x= .int .i64 a) (hy:dm f y= .int .i64 b):(execOp (dm f) ⟨d, .call ⟨.builtin .max,#[x,y],tys⟩,ty,ps,af,g⟩).run P w= .ok (.value (.int .i64 (max a b))) w:=by
 simp[execOp,resolve,invoke,builtin,hx,hy,Builtin.max_,Builtin.max2]
 split<;>omega
end
theorem UY (h:v.oneCell'=true):[v].all Value.oneCell'=true:=by grind
theorem iO (h:v.oneCell'=true):[Value.int .i64 n,v].all Value.oneCell'=true:=by simp only[acL,adj,h,acx];rfl
def MI (l:List (Int×Value)) (c:Int):Value:=(iN l c).getD (.slice none 0 0)
structure MO (T:TypeId) (N:Nat) (w:World) (l:List (Int×Value)) (g:Int→List Int):Prop where
 own:∀p,p∈l→cH dX 1 T w N p.2 (g p.1)
 ap:∀p q,p∈l→q∈l→¬p.1=q.1→fp p.2 q.2
 nd:(l.map (·.1)).Nodup
 no:∀c,c∉l.map (·.1)→g c=[]
def Il (g:Int→List Int) (c x:Int):Int→List Int:=λd=>if d=c then g d++[x]else g d
section
variable {T:TypeId} {N:Nat} {w w':World} {l:List (Int×Value)} {g:Int→List Int} {c x:Int}
theorem MO.nil:MO T N w [] (λ_=>[]):=⟨λp h=>(by cases h),λp q h=>(by cases h),List.nodup_nil,λ_ _=>rfl⟩
theorem MO.get (h:MO T N w l g) (c:Int):cH dX 1 T w N (MI l c) (g c):=by
 unfold MI
 cases e:iN l c with
 |none=>
  rw[h.no c (pV.1 e)]
  exact cH.nil
 |some v=>exact h.own (c,v) ((nP h.nd).1 e)
theorem MO.ext (h:dA w w') (k:MO T N w l g):MO T N w' l g:=⟨λp hp=>h.ow (k.own p hp),k.ap,k.nd,k.no⟩
theorem MO.grownMap {α β:Type} {enc:α→Value} {encV:β→Value} {b:Nat} {m:List (α×β)} (k:MO T N w l g) (hm:dy enc encV w b m) (hG:w.grownBy w' (some b)):MO T N w' l g:=⟨λp hp=>(k.own p hp).grownMap hm hG,k.ap,k.nd,k.no⟩
theorem uR (hn:(l.map (·.1)).Nodup) (h:p∈iM l c v):(p=(c,v))∨(p∈l∧¬p.1=c):=by
 grind [iM,List.mem_map_of_mem,List.mem_singleton]
theorem MO.app (k:MO T N w l g) (hG:w.grownBy w' (MI l c).ownBlock) (hob:v.ownBlock=(MI l c).ownBlock∨v.ownBlock=some w.heap.size) (hO:cH dX 1 T w' N v (g c++[x])):MO T N w' (iM l c v) (Il g c x):=by
 have hgo:∀p,p∈l→¬p.1=c→fp (MI l c) p.2:=λp hp hne=>by
  unfold MI
  cases e:iN l c with
  |none=>exact ad0
  |some u=>exact k.ap (c,u) p ((nP k.nd).1 e) hp (λq=>hne q.symm)
 have hap:∀p,p∈l→¬p.1=c→fp v p.2:=λp hp hne=>fp.app (hgo p hp hne) hob (k.own p hp)
 refine⟨λp hp=> ?_,λp q hp hq hne=> ?_,?_,λd hd=> ?_⟩
 ·rcases uR k.nd hp with rfl|⟨h1,h2⟩
  ·unfold Il;rw[if_pos rfl];exact hO
  ·unfold Il;rw[if_neg h2];exact(k.own p h1).grownAp (hgo p h1 h2) hG
 ·rcases uR k.nd hp with rfl|⟨h1,h2⟩
  ·rcases uR k.nd hq with rfl|⟨h3,h4⟩
   ·exact absurd rfl hne
   ·exact hap q h3 h4
  ·rcases uR k.nd hq with rfl|⟨h3,h4⟩
   ·exact(hap p h1 h2).symm
   ·exact k.ap p q h1 h3 hne
 ·rw[lh];exact ka k.nd c
 ·rw[lh]at hd
  have h1:¬d=c:=λe=>hd (gy.2 (.inr e))
  unfold Il
  rw[if_neg h1]
  exact k.no d λe=>hd (gy.2 (.inl e))
end
def UG (r:List Int) (i:Nat) (g:Int→List Int):Nat→Int→List Int
 |0=>g
 |j+1=>Il (UG r i g j) (r.getD j 0) (i:Int)
def pP (L:ML):Nat→Int→List Int
 |0=>λ_=>[]
 |i+1=>UG (L.getD i []) i (pP L i) (L.getD i []).length
theorem KU:∀j,j≤r.length→(x∈UG r i g j c↔x∈g c∨(c∈r.take j∧x=i))
 |0,_=>by simp[UG]
 |j+1,hj=>by
  have ih:=KU (r:=r) (i:=i) (g:=g) (c:=c) (x:=x) j (by omega)
  rw[UG,acg,aaQ,th (show j<r.length by omega)]
  have e:r.getD j 0=r[j]:=by rw[Do,th (show j<r.length by omega)];rfl
  unfold Il
  rw[e]
  by_cases h:c=r[j]
  ·rw[if_pos h,aaQ,ih,aaG]
   simp[h]
   constructor
   ·rintro((h1|h1)|h1)
    ·exact .inl h1
    ·exact .inr h1.2
    ·exact .inr h1
   ·rintro(h1|h1)
    ·exact .inl (.inl h1)
    ·exact .inr h1
  ·rw[if_neg h,ih]
   simp[h]
theorem yB:∀k,x∈pP L k c↔∃i,i<k∧c∈L.getD i []∧x=(i:Int)
 |0=>by simp[pP]
 |k+1=>by
  rw[pP,KU _ (am _),aaY,yB k]
  constructor
  ·rintro(⟨i,h1,h2,h3⟩|⟨h2,h3⟩)
   ·exact⟨i,by omega,h2,h3⟩
   ·exact⟨k,by omega,h2,h3⟩
  ·rintro⟨i,h1,h2,h3⟩
   by_cases e:i=k
   ·subst e;exact .inr ⟨h2,h3⟩
   ·exact .inl ⟨i,by omega,h2,h3⟩
theorem JD (h:q<(pP L L.length c).length):0≤(pP L L.length c).getD q 0∧(pP L L.length c).getD q 0<L.length∧c∈L.getD ((pP L L.length c).getD q 0).toNat []:=by
 grind [yB,dF,Int.toNat_natCast]
theorem Da:∀j,(UG r i g j c).length≤(g c).length+j
 |0=>am _
 |j+1=>by
  have ih:=Da (r:=r) (i:=i) (g:=g) (c:=c) j
  rw[UG]
  unfold Il
  split
  ·rw[An,acf];omega
  ·omega
theorem yT (h:∀i,(L.getD i []).length≤4000):∀k,(pP L k c).length≤4000*k
 |0=>am _
 |k+1=>by
  have ih:=yT (c:=c) h k
  have h1:=Da (r:=L.getD k []) (i:=k) (g:=pP L k) (c:=c) (L.getD k []).length
  have h2:=h k
  rw[pP];omega
theorem W2 (h:CY (pP L L.length c) (pP L L.length d)=true):∀r,r∈L→c∈r→d∈r:=λr hr hc=>by
 obtain⟨i,hi,rfl⟩:=fh (d:=[]) hr
 obtain⟨j,_,h2,h3⟩:=(yB _).1 (vQ.1 h _ ((yB _).2 ⟨i,hi,hc,rfl⟩))
 have e:j=i:=by omega
 rw[e]at h2
 exact h2
theorem EN {r:List Int} {c:Int} {k:Nat} (hk:k<r.length):Cn (r.take (k+1)) c=if r.getD k 0=c then Cn (r.take k) c else Cn (r.take k) c++[r.getD k 0]:=by
 grind [Cn,List.take_add_one,List.getElem?_eq_getElem]
theorem Vk {r:List Int} {c:Int} {k:Nat} (hk:k<r.length) (h:¬r.getD k 0=c):Cn (r.take k) c++[r.getD k 0]=Cn (r.take (k+1)) c:=by rw[EN hk,if_neg h]
theorem Vb {r:List Int} {c:Int} {k:Nat} (hk:k<r.length) (h:r.getD k 0=c):Cn (r.take k) c=Cn (r.take (k+1)) c:=by rw[EN hk,if_pos h]
theorem GX {L:ML} {c:Int} {k:Nat} (hk:k<L.length):qE (L.take k) c++[Cn (L.getD k []) c]=qE (L.take (k+1)) c:=by
 grind [tl,qE]
theorem Ks (hk:k=L.length):qE (L.take k) c=qE L c:=by grind
theorem KH (L:ML) (c:Int) (k:Nat):(qE (L.take k) c).length≤k:=by grind [qE,List.length_map,List.length_take]
theorem Kq (r:List Int) (c:Int) (k:Nat):(Cn (r.take k) c).length≤k:=by
 grind [CW,List.length_take]
def Zz (L L':ML) (c:Int) (b:Bool):Prop:=(b=true∧(∃r,r∈L∧r=[c])∧L'=tZ L c)∨(b=false∧L'=L)
theorem abw {k:Nat} (hk:k<L.length) (h1:((L.getD k []).length:Int)=1) (hC:C=(L.getD k []).getD 0 0):Zz L (ut [] (λk=> !decide (C∈L.getD k [])) L L.length) C true:=by
 refine .inl ⟨rfl,⟨L.getD k [],dF (d:=[]) hk,?_⟩,Qo L C⟩
 generalize L.getD k []=r at*
 match r,h1 with
 |[a],_=>rw[hC];rfl
theorem abC (L:ML):Zz L L 0 false:= .inr ⟨rfl,rfl⟩
def XV (L L':ML) (b:Bool):Prop:=(b=true∧((∃i k,i<L.length∧k<L.length∧¬k=i∧(∀x,x∈L.getD k []→x∈L.getD i [])∧L'=Mp L i)∨∃c d,sQ L c∧¬d=c∧(∀r,r∈L→c∈r→d∈r)∧L'=qE L c))∨(b=false∧L'=L)
theorem Ys (L:ML):XV L L false:= .inr ⟨rfl,rfl⟩
theorem JM {i k:Nat} (hi:i<L.length) (hk:k<L.length) (hne:¬(k:Int)=(i:Int)) (hw:CY (L.getD k []) (L.getD i [])=true):XV L (ut [] (λk=>decide (¬(k:Int)=(i:Int))) L L.length) true:=
 .inl ⟨rfl, .inl ⟨i,k,hi,hk,λe=>hne DG,λx hx=>vQ.1 hw x hx,Yw hi⟩⟩
theorem Sf {i:Nat} (h0:(pP L L.length c).length≠0) (hne:¬d=c) (hw:CY (pP L L.length c) (pP L L.length d)=true):XV L (qE L c) true:=by
 refine .inl ⟨rfl, .inr ⟨c,d,?_,hne,W2 hw,rfl⟩⟩
 obtain⟨h1,h2,h3⟩:=JD (q:=0) (Nat.pos_of_ne_zero h0)
 exact⟨_,dF (by omega),h3⟩
structure UT (L0 L' L:ML) (ks':List Int) (n:Int) (b:Bool):Prop where
 rd:m5 L0 L' ks'
 r:dR n L'=true
 sz:tY L'≤tY L
 szt:b=true→tY L'<tY L
 len:L'.length≤L.length
theorem FE (h:m5 L0 L ks) (hr:dR n L=true):UT L0 L L ks n false:=⟨h,hr,am _,λe=>Bool.noConfusion e,am _⟩
theorem NZ (h:m5 L0 L ks) (hr:dR n L=true) (k:Zz L L' c true):UT L0 L' L (jm ks c) n true:=by
 obtain⟨_,⟨r,h1,h2⟩,rfl⟩|⟨h1,_⟩:=k
 ·have hin:sQ L c:=⟨r,h1,by rw[h2];exact aaG.2 rfl⟩
  exact⟨h.take h1 h2,Ac hr c,IB c L,λ_=>Cp hin,Nx L c⟩
 ·cases h1
theorem ME (h:m5 L0 L ks) (hr:dR n L=true) (k:Zz L L' c false):UT L0 L' L ks n false:=by
 obtain⟨h1,_⟩|⟨_,rfl⟩:=k
 ·cases h1
 ·exact FE h hr
theorem NC (h:m5 L0 L ks) (hr:dR n L=true) (k:XV L L' b):UT L0 L' L ks n b:=by
 obtain⟨rfl,⟨i,j,h1,h2,h3,h4,rfl⟩|⟨c,d,h1,h2,h3,rfl⟩⟩|⟨rfl,rfl⟩:=k
 ·refine⟨h.rows (λr=>P7) (λX hX=>VR h1 h2 h3 h4 hX),MW hr i,Nat.le_of_lt (MK h1),λ_=>MK h1,?_⟩
  unfold Mp
  rw[An,aaX,aci];omega
 ·exact⟨h.cols h2 h3,GS hr c,Ih c L,λ_=>Cg h1,aaR (len_le L c)⟩
 ·exact FE h hr
end
section
section
structure Nd where
  l:Nat
  lo:Nat
  hi:Nat
  deriving DecidableEq,Repr
def oH:Nd:=⟨0,0,0⟩
def WH (n:Nd):List Value:=[.int .i64 (n.l:Int), .int .i64 (n.lo:Int), .int .i64 (n.hi:Int)]
theorem px (n:Nd):(WH n).length=3:=rfl
def yb (n:Nd):Value:= .agg #[.int .i64 (n.l:Int), .int .i64 (n.lo:Int), .int .i64 (n.hi:Int)]
theorem F3 (a b:Nd) (h:yb a=yb b):a=b:=by
  cases a;cases b
  simp only[yb,Value.agg.injEq,Array.mk.injEq,List.cons.injEq,Value.int.injEq,true_and,and_true]at h
  grind
def BP (t:List (List Nat)) (n:Nd):List (List Nat):=t++[t.getD n.lo []++(t.getD n.hi []).map λx=>x+2^n.l]
def XY (ns:List Nd):List (List Nat):=ns.foldl BP [[],[0]]
def dz (ns:List Nd) (id:Nat):List Nat:=(XY ns).getD id []
theorem E4 (ns:List Nd) (n:Nd):XY (ns++[n])=BP (XY ns) n:=by
  grind [XY]
theorem BS:∀(ns:List Nd) (t:List (List Nat)),(ns.foldl BP t).length=t.length+ns.length
  |[],t=>rfl
  |n::ns,t=>by
    rw[adn,BS ns,BP,An,acf,aaW];omega
theorem Ew (ns:List Nd):(XY ns).length=ns.length+2:=by
  grind [XY,BS]
theorem Be {id:Nat} (h:id<ns.length+2):dz (ns++[n]) id=dz ns id:=by
  grind [dz,E4,BP,List.getElem?_append_left,Ew]
theorem t7 (ns:List Nd) (n:Nd):dz (ns++[n]) (ns.length+2)=dz ns n.lo++(dz ns n.hi).map λx=>x+2^n.l:=by
  unfold dz
  rw[E4,BP,Do,acE (by rw[Ew];exact am _),Ew,Nat.sub_self]
  rfl
theorem wi {id:Nat}:∀(r ns:List Nd),id<ns.length+2→dz (ns++r) id=dz ns id
  |[],ns,_=>by rw[acw]
  |n::r,ns,h=>by
    rw[show ns++n::r=(ns++[n])++r by simp,wi r (ns++[n]) ix,Be h]
theorem jA {id:Nat} (hp:ns<+:ns') (h:id<ns.length+2):dz ns' id=dz ns id:=by
  obtain⟨r,rfl⟩:=hp
  exact wi r ns h
theorem oe (ns:List Nd):dz ns 0=[]:=wi ns [] (by decide)
theorem qK (ns:List Nd):dz ns 1=[0]:=wi ns [] (by decide)
def d6 (ns:List Nd) (id:Nat):Nat:=if id<2 then 24 else (ns.getD (id-2) oH).l
theorem mn {id:Nat} (h:id<2):d6 ns id=24:=if_pos h
theorem ku (i:Nat):d6 ns (i+2)=(ns.getD i oH).l:=if_neg (by omega)
theorem vF {α:Type} {a b:List α} {d:α} {i:Nat} (hp:a<+:b) (h:i<a.length):b.getD i d=a.getD i d:=by
  obtain⟨r,rfl⟩:=hp
  grind
theorem iF {id:Nat} (hp:ns<+:ns') (h:id<ns.length+2):d6 ns' id=d6 ns id:=by
  unfold d6
  by_cases h2:id<2
  · rw[if_pos h2,if_pos h2]
  · rw[if_neg h2,if_neg h2,vF hp (by omega)]
def abh (ns:List Nd) (i:Nat) (n:Nd):Prop:=n.lo<i+2∧n.hi<i+2∧n.hi≠0∧n.l<d6 ns n.lo∧n.l<d6 ns n.hi∧n.l<24
structure Wf (ns:List Nd):Prop where
  nd:ns.Nodup
  ok:∀i,i<ns.length→abh ns i (ns.getD i oH)
theorem Wf.nil:Wf []:=⟨List.nodup_nil,λi h=>by cases h⟩
theorem Wf.snoc (h:Wf ns) (hn:n∉ns) (hlo:n.lo<ns.length+2) (hhi:n.hi<ns.length+2) (h0:n.hi≠0) (l1:n.l<d6 ns n.lo) (l2:n.l<d6 ns n.hi) (h24:n.l<24):Wf (ns++[n]):=by
  have hp:ns<+:ns++[n]:=List.prefix_append _ _
  refine⟨?_,λi hi=> ?_⟩
  · rw[List.nodup_append]
    exact⟨h.nd,by simp,λa ha b hb=>by simp at hb;subst hb;exact λe=>hn (e▸ha)⟩
  · rw[An,acf]at hi
    by_cases e:i<ns.length
    · obtain⟨a1,a2,a3,a4,a5,a6⟩:=h.ok i e
      rw[vF hp e]
      exact⟨a1,a2,a3,by rw[iF hp (by omega)];exact a4,by rw[iF hp (by omega)];exact a5,a6⟩
    · obtain rfl:i=ns.length:=by omega
      have e2:(ns++[n]).getD ns.length oH=n:=by
        rw[Do,acE (am _),Nat.sub_self];rfl
      rw[e2]
      exact⟨hlo,hhi,h0,by rw[iF hp hlo];exact l1,by rw[iF hp hhi];exact l2,h24⟩
section
variable {ns:List Nd}
theorem jk (h:Wf ns) (hi:i<ns.length):dz ns (i+2)=dz ns (ns.getD i oH).lo++(dz ns (ns.getD i oH).hi).map λx=>x+2^(ns.getD i oH).l:=by
  obtain⟨a1,a2,_⟩:=h.ok i hi
  have e:ns.take (i+1)=ns.take i++[ns.getD i oH]:=by
    rw[acg,Do,th hi];rfl
  have hl:(ns.take i).length=i:=by rw[aaX];omega
  have hp:ns.take i<+:ns:=List.take_prefix _ _
  have hp1:ns.take (i+1)<+:ns:=List.take_prefix _ _
  rw[jA hp1 IA,e]
  grind [t7,oH,jA]
theorem gp (h:2^(l+1)∣x):x.testBit l=false:=by
  obtain⟨k,rfl⟩:=h
  grind
theorem kF (h:2^(l+1)∣x):(x+2^l).testBit l=true:=by
  obtain⟨k,rfl⟩:=h
  rw[acD,show 2^(l+1)*k+2^l=2^l*(2*k+1)by rw[acF,Nat.mul_add,acQ,Nat.mul_assoc],Nat.mul_div_cancel_left _ (ace l)]
  simp
theorem iq (h:a<b) (hx:2^b∣x):2^(a+1)∣x:=by grind [Nat.dvd_trans,Nat.pow_dvd_pow]
theorem Ie (h:2^(l+1)∣x):2^l∣x+2^l:=Nat.dvd_add (Nat.dvd_trans (adk 2 (Nat.le_succ l)) h) (Nat.dvd_refl _)
theorem YQ (hl:l<24) (h:2^(l+1)∣x) (hx:x<2^24):x+2^l<2^24:=by
  obtain⟨k,rfl⟩:=h
  have e:2^24=2^(l+1)*2^(23-l):=by rw[←Nat.pow_add];congr 1;omega
  rw[e]at hx ⊢
  have hk:k<2^(23-l):=Nat.lt_of_mul_lt_mul_left hx
  have h1:2^(l+1)*(k+1)≤2^(l+1)*2^(23-l):=Nat.mul_le_mul_left _ hk
  grind
theorem fl (h:Wf ns):∀id,id<ns.length+2→∀x,x∈dz ns id→2^d6 ns id∣x∧x<2^24:=by
  intro id
  induction id using Nat.strongRecOn with
  |_ id ih=>
    intro hid x hx
    match id,ih,hid,hx with
    |0,_,_,hx=>rw[oe]at hx;cases hx
    |1,_,_,hx=>
      rw[qK]at hx
      obtain rfl:x=0:=by simpa using hx
      exact⟨Nat.dvd_zero _,by decide⟩
    |i+2,ih,hid,hx=>
      have hi:i<ns.length:=by omega
      obtain⟨a1,a2,a3,a4,a5,a6⟩:=h.ok i hi
      grind [jk,ku,Nat.dvd_trans,Nat.pow_dvd_pow,Nat.le_of_lt,Ie,iq,YQ]
theorem jc (h:Wf ns):∀id,id<ns.length+2→id≠0→∃x,x∈dz ns id:=by
  intro id
  induction id using Nat.strongRecOn with
  |_ id ih=>
    intro hid h0
    match id,ih,hid,h0 with
    |0,_,_,h0=>exact absurd rfl h0
    |1,_,_,_=>exact⟨0,by rw[qK];exact aaZ ..⟩
    |i+2,ih,hid,_=>
      have hi:i<ns.length:=by omega
      obtain⟨a1,a2,a3,_⟩:=h.ok i hi
      obtain⟨y,hy⟩:=ih _ a2 (by omega) a3
      exact⟨_,by rw[jk h hi];exact List.mem_append_right _ (abS.2 ⟨y,hy,rfl⟩)⟩
theorem kU (h:Wf ns):∀id,id<ns.length+2→(dz ns id).Nodup:=by
  intro id
  induction id using Nat.strongRecOn with
  |_ id ih=>
    intro hid
    match id,ih,hid with
    |0,_,_=>rw[oe];exact List.nodup_nil
    |1,_,_=>rw[qK];simp
    |i+2,ih,hid=>
      have hi:i<ns.length:=by omega
      obtain⟨a1,a2,a3,a4,a5,a6⟩:=h.ok i hi
      rw[jk h hi,List.nodup_append]
      refine⟨ih _ a1 (by omega),?_,λx hx y hy e=> ?_⟩
      · exact List.pairwise_map.2 ((ih _ a2 (by omega)).imp (λhab e=>hab (by omega)))
      · obtain⟨z,hz,rfl⟩:=abS.1 hy
        have b1:=gp (iq a4 (fl h _ (by omega) x hx).1)
        have b2:=kF (iq a5 (fl h _ (by omega) z hz).1)
        rw[e,b2]at b1
        cases b1
theorem og (h:Wf ns) {id:Nat} (hid:id<ns.length+2):d6 ns id≤24:=by
  match id,hid with
  |0,_=>exact am _
  |1,_=>exact am _
  |i+2,hid=>rw[ku];exact Nat.le_of_lt (h.ok i (by omega)).2.2.2.2.2
theorem pc (h:Wf ns) {id:Nat} (hid:id<ns.length+2) (h2:2≤id):d6 ns id<24:=by
  obtain⟨i,rfl⟩:∃i,id=i+2:=⟨id-2,by omega⟩
  rw[ku];exact(h.ok i (by omega)).2.2.2.2.2
theorem XL (h:Wf ns):∀a,a<ns.length+2→∀b,b<ns.length+2→(∀x,x∈dz ns a↔x∈dz ns b)→a=b:=by
  have hne0:∀b,b<ns.length+2→(∀x,x∈dz ns 0↔x∈dz ns b)→0=b:=λb hb hs=>by
    by_cases e:b=0
    · exact e.symm
    · obtain⟨x,hx⟩:=jc h b hb e
      have:=(hs x).2 hx
      rw[oe]at this;cases this
  have hhi:∀i,i<ns.length→∃y,y∈dz ns (ns.getD i oH).hi∧y+2^(ns.getD i oH).l∈dz ns (i+2):=λi hi=>by
    obtain⟨a1,a2,a3,_⟩:=h.ok i hi
    obtain⟨y,hy⟩:=jc h _ (by omega) a3
    exact⟨y,hy,by rw[jk h hi];exact List.mem_append_right _ (abS.2 ⟨y,hy,rfl⟩)⟩
  have hne1:∀i,i<ns.length→¬∀x,x∈dz ns 1↔x∈dz ns (i+2):=λi hi hs=>by
    obtain⟨y,_,hy⟩:=hhi i hi
    have:=(hs _).2 hy
    rw[qK]at this
    have h2:=ace (ns.getD i oH).l
    have h3:=aaG.1 this
    omega
  have hlev:∀i j,i<ns.length→j<ns.length→(ns.getD i oH).l<(ns.getD j oH).l→¬∀x,x∈dz ns (i+2)↔x∈dz ns (j+2):=λi j hi hj hl hs=>by
    obtain⟨y,hy,hm⟩:=hhi i hi
    have g1:=(fl h _ (by omega) _ ((hs _).1 hm)).1
    rw[ku]at g1
    obtain⟨a1,a2,a3,a4,a5,a6⟩:=h.ok i hi
    have b1:=gp (iq hl g1)
    rw[kF (iq a5 (fl h _ (by omega) y hy).1)]at b1
    cases b1
  intro a
  induction a using Nat.strongRecOn with
  |_ a ih=>
    intro ha b hb hs
    match a,b,ih,ha,hb,hs with
    |0,b,_,_,hb,hs=>exact hne0 b hb hs
    |a+1,0,_,ha,_,hs=>exact(hne0 (a+1) ha (λx=>(hs x).symm)).symm
    |1,1,_,_,_,_=>rfl
    |1,j+2,_,_,hb,hs=>exact absurd hs (hne1 j (by omega))
    |i+2,1,_,ha,_,hs=>exact absurd (λx=>(hs x).symm) (hne1 i (by omega))
    |i+2,j+2,ih,ha,hb,hs=>
      have hi:i<ns.length:=by omega
      have hj:j<ns.length:=by omega
      have hl:(ns.getD i oH).l=(ns.getD j oH).l:=by
        rcases Nat.lt_trichotomy (ns.getD i oH).l (ns.getD j oH).l with k|k|k
        · exact absurd hs (hlev i j hi hj k)
        · exact k
        · exact absurd (λx=>(hs x).symm) (hlev j i hj hi k)
      obtain⟨a1,a2,a3,a4,a5,a6⟩:=h.ok i hi
      obtain⟨c1,c2,c3,c4,c5,c6⟩:=h.ok j hj
      have hlo:(ns.getD i oH).lo=(ns.getD j oH).lo:=ih _ a1 (by omega) _ (by omega) λx=>by
        have hx:=hs x
        rw[jk h hi,jk h hj,aaQ,aaQ,abS,abS]at hx
        constructor
        · intro k
          have b1:=gp (iq a4 (fl h _ (by omega) x k).1)
          rcases hx.1 (.inl k)with q|⟨y,hy,rfl⟩
          · exact q
          · rw[hl,kF (iq c5 (fl h _ (by omega) y hy).1)]at b1;cases b1
        · intro k
          have b1:=gp (iq c4 (fl h _ (by omega) x k).1)
          rcases hx.2 (.inl k)with q|⟨y,hy,rfl⟩
          · exact q
          · rw[←hl,kF (iq a5 (fl h _ (by omega) y hy).1)]at b1;cases b1
      have hhi2:(ns.getD i oH).hi=(ns.getD j oH).hi:=ih _ a2 (by omega) _ (by omega) λx=>by
        have hx:=hs (x+2^(ns.getD i oH).l)
        rw[jk h hi,jk h hj,aaQ,aaQ,abS,abS]at hx
        constructor
        · intro k
          have b1:=kF (iq a5 (fl h _ (by omega) x k).1)
          rcases hx.1 (.inr ⟨x,k,rfl⟩)with q|⟨y,hy,e⟩
          · have b2:=gp (iq c4 (fl h _ (by omega) _ q).1)
            rw[←hl,b1]at b2;cases b2
          · rw[hl]at e
            obtain rfl:y=x:=by omega
            exact hy
        · intro k
          have b1:=kF (iq c5 (fl h _ (by omega) x k).1)
          rw[←hl]at b1
          rcases hx.2 (.inr ⟨x,k,by rw[hl]⟩)with q|⟨y,hy,e⟩
          · rw[gp (iq a4 (fl h _ (by omega) _ q).1)]at b1;cases b1
          · obtain rfl:y=x:=by omega
            exact hy
      have hn:ns.getD i oH=ns.getD j oH:=by
        generalize ns.getD i oH=p at*
        generalize ns.getD j oH=q at*
        cases p;cases q
        simp only[Nd.mk.injEq]
        exact⟨hl,hlo,hhi2⟩
      rw[Do,Do,th hi,th hj]at hn
      have:=(List.getElem_inj h.nd).1 (show ns[i]=ns[j] from hn)
      omega
end
end
section
def ri (ns:List Nd):List (Nd×Int):=ns.zipIdx.map λp=>(p.1,((p.2+2:Nat):Int))
theorem ws (ns:List Nd):(ri ns).map (·.1)=ns:=by
  unfold ri
  rw[List.map_map]
  exact List.zipIdx_map_fst 0 ns
theorem Pl (ns:List Nd):(ri ns).length=ns.length:=by unfold ri;simp
theorem L7 (ns:List Nd) (n:Nd):ri (ns++[n])=ri ns++[(n,((ns.length+2:Nat):Int))]:=by
  grind [ri]
theorem MM (h:n∉ns):iM (ri ns) n ((ns.length+2:Nat):Int)=ri (ns++[n]):=by
  unfold iM
  rw[ws,if_neg h,L7]
theorem Mg (hn:ns.Nodup) (h:iN (ri ns) n=some v):∃i,i<ns.length∧ns.getD i oH=n∧v=((i+2:Nat):Int):=by
  have hm:=(nP (by rw[ws];exact hn)).1 h
  unfold ri at hm
  grind
theorem LN (h:iN (ri ns) n=none):n∉ns:=by
  grind [pV,ws]
structure fM (Ta Tn:TypeId) (N ba bm R:Nat) (w:World) (ns:List Nd):Prop where
  out:∃nv,At w ba #[.int .i64 (R:Int),nv, .map (some bm)] Ta∧cH WH 3 Tn w N nv ns
  hm:dy yb eQ w bm (ri ns)
  la:N≤ba
  lm:N≤bm
  wf:Wf ns
  room:ns.length≤R
  top:R≤20000
section
variable {Ta Tn T T':TypeId} {N N' ba bm R b sz:Nat} {xs:List Nat} {w w' W:World} {ns:List Nd} {c:Array Value} {v:Value}
theorem fM.ext (h:dA w w') (k:fM Ta Tn N ba bm R w ns):fM Ta Tn N ba bm R w' ns:=by
  obtain⟨nv,h1,h2⟩:=k.out
  exact⟨⟨nv,h.at h1,h.ow h2⟩,h.mapT k.hm,k.la,k.lm,k.wf,k.room,k.top⟩
theorem fM.mono (k:fM Ta Tn N ba bm R w ns) (h:N'≤N):fM Ta Tn N' ba bm R w ns:=by
  obtain⟨nv,h1,h2⟩:=k.out
  exact⟨⟨nv,h1,h2.mono h⟩,k.hm,go h k.la,go h k.lm,k.wf,k.room,k.top⟩
theorem fM.below (h:Go.RowKit.Below w.heap.size w W) (k:fM Ta Tn N ba bm R w ns):fM Ta Tn N ba bm R W ns:=by
  obtain⟨nv,h1,h2⟩:=k.out
  exact⟨⟨nv,On h h1,Below.ow h h2⟩,ac1 h k.hm,k.la,k.lm,k.wf,k.room,k.top⟩
theorem fM.grownAt (k:fM Ta Tn N ba bm R w ns) (hm:At w b c T) (hG:w.grownBy w' (some b)) (hTa:T≠Ta) (hTn:T≠Tn):fM Ta Tn N ba bm R w' ns:=by
  obtain⟨nv,h1,h2⟩:=k.out
  exact⟨⟨nv,h1.grownAt hm hG hTa.symm,h2.grownAt hm hG hTn⟩,k.hm.grownAt hm hG,k.la,k.lm,k.wf,k.room,k.top⟩
theorem fM.grownMap {α β:Type} {enc:α→Value} {encV:β→Value} {l:List (α×β)} (k:fM Ta Tn N ba bm R w ns) (hm:dy enc encV w b l) (hne:b≠bm) (hG:w.grownBy w' (some b)):fM Ta Tn N ba bm R w' ns:=by
  obtain⟨nv,h1,h2⟩:=k.out
  exact⟨⟨nv,h1.grownMap hm hG,h2.grownMap hm hG⟩,k.hm.grownNe hne.symm hG,k.la,k.lm,k.wf,k.room,k.top⟩
theorem fM.ne (k:fM Ta Tn N ba bm R w ns) (hm:At w b c T) (hTa:T≠Ta):b≠ba∧b≠bm:=by
  obtain⟨nv,h1,h2⟩:=k.out
  exact⟨λe=>by subst e;exact adT hm h1 hTa rfl,λe=>by subst e;exact adH hm k.hm rfl⟩
theorem At.dx (k:fM Ta Tn N ba bm R w ns) (hx:Dx Tn N [ba,bm] w w') (hm:At w b c T) (hTa:T≠Ta) (hTn:T≠Tn):At w' b c T:=by
  obtain⟨n1,n2⟩:=k.ne hm hTa
  unfold At at*
  rw[hx.block b (gX hm) (.inr ⟨by simp[n1,n2],λc' fr e=>by rw[hm]at e;simp at e;exact hTn e.2.1⟩)]
  exact hm
theorem At.dx3 (k:fM Ta Tn N ba bm R w ns) (hx:Dx Tn N [bx,ba,bm] w w') (hm:At w b c T) (hTa:T≠Ta) (hTn:T≠Tn) (hne:b≠bx):At w' b c T:=by
  obtain⟨n1,n2⟩:=k.ne hm hTa
  unfold At at*
  rw[hx.block b (gX hm) (.inr ⟨by simp[n1,n2,hne],λc' fr e=>by rw[hm]at e;simp at e;exact hTn e.2.1⟩)]
  exact hm
theorem cH.dx {α:Type} {enc:α→List Value} {l:List α} (k:fM Ta Tn N ba bm R w ns) (hx:Dx Tn N [ba,bm] w w') (ho:cH enc sz T w N' v l) (hTa:T≠Ta) (hTn:T≠Tn):cH enc sz T w' N' v l:=by
  obtain⟨h1,h2|⟨g,cap,cur,h3,hg,hh,r⟩⟩:=ho
  · exact⟨h1, .inl h2⟩
  · refine⟨h1, .inr ⟨g,cap,cur,h3,hg,?_,r⟩⟩
    exact At.dx (c:=cur) k hx hh hTa hTn
theorem dy.dx {α β:Type} {enc:α→Value} {encV:β→Value} {l:List (α×β)} (k:fM Ta Tn N ba bm R w ns) (hx:Dx Tn N [ba,bm] w w') (hm:dy enc encV w b l) (hne:b≠bm):dy enc encV w' b l:=by
  obtain⟨nv,h1,h2⟩:=k.out
  obtain⟨f,ck,hf⟩:=hm
  refine⟨f,ck,hf.moved (hx.block b hf.lt (.inr ⟨?_,λc' fr e=> ?_⟩))⟩
  · have:b≠ba:=λe=>by subst e;exact adH h1 ⟨f,ck,hf⟩ rfl
    simp[this,hne]
  · rw[hf.heap]at e;cases e
end
structure kc (ns ns':List Nd) (R c l:Nat) (S:Nat→Prop) (id:Nat) (er:Int):Prop where
  pre:ns<+:ns'
  cost:ns'.length≤ns.length+c
  res:(er=0∧id<ns'.length+2∧l≤d6 ns' id∧∀x,x∈dz ns' id↔S x)∨(er=5∧id=0∧R≤ns'.length)
def PO (Ta Tn:TypeId) (N ba bm R:Nat) (w:World) (ns:List Nd) (c l:Nat) (S:Nat→Prop) (v:Value) (w':World):Prop:=
  ∃(ns':List Nd) (id:Nat) (er:Int),v= .tuple #[.int .i64 (id:Int), .int .i64 er]∧Dx Tn N [ba,bm] w w'∧fM Ta Tn N ba bm R w' ns'∧kc ns ns' R c l S id er
section
variable {ns ns' ns1 ns2 ns3:List Nd} {R c c1 c2 l:Nat} {S S1 S2:Nat→Prop} {id f:Nat} {er:Int}
theorem gt (h:ns<+:ns'):ns.length≤ns'.length:=h.length_le
theorem kc.same (hid:id<ns.length+2) (hl:l≤d6 ns id) (h:∀x,x∈dz ns id↔S x):kc ns ns R c l S id 0:=⟨acO _,by omega, .inl ⟨rfl,hid,hl,h⟩⟩
theorem kc.fail (g:kc ns ns1 R c1 l S1 id er) (he:¬er=0) (hc:c1≤c):kc ns ns1 R c l2 S 0 er:=by
  refine⟨g.pre,by have:=g.cost;omega, .inr ?_⟩
  rcases g.res with h|h
  all_goals omega
theorem kc.fail2 (g:kc ns ns1 R c1 l S1 id er) (g2:kc ns1 ns2 R c2 l1 S2 id1 er1) (he:¬er1=0) (hc:c1+c2≤c):kc ns ns2 R c l2 S 0 er1:=by
  have h:=kc.fail (S:=S) (l2:=l2) g2 he (am _)
  refine⟨g.pre.trans h.pre,by have:=g.cost;have:=h.cost;omega,h.res⟩
theorem kc.ok (g:kc ns ns1 R c1 l S1 id er) (he:er=0):id<ns1.length+2∧l≤d6 ns1 id∧∀x,x∈dz ns1 id↔S1 x:=by
  rcases g.res with h|h
  · exact h.2
  · rw[h.1]at he;cases he
theorem kc.weak (g:kc ns ns1 R c1 l S1 id er) (hc:c1≤c) (h:∀x,S1 x↔S x):kc ns ns1 R c l S id er:=
  ⟨g.pre,by have:=g.cost;omega,g.res.imp (λ⟨a,b,d,e⟩=>⟨a,b,d,λx=>(e x).trans (h x)⟩) _root_.id⟩
theorem kc.then' (g:kc ns ns1 R c1 l S1 id er) (g2:kc ns1 ns2 R c2 l2 S id2 er2) (hc:c1+c2≤c):kc ns ns2 R c l2 S id2 er2:=
  ⟨g.pre.trans g2.pre,by have:=g.cost;have:=g2.cost;omega,g2.res⟩
theorem kc.old (g:kc ns ns1 R c1 l S1 id er) (h:f<ns.length+2):f<ns1.length+2∧dz ns1 f=dz ns f∧d6 ns1 f=d6 ns f:=
  ⟨by have:=gt g.pre;omega,jA g.pre h,iF g.pre h⟩
end
def up (l:Nat) (P Q:Nat→Prop) (x:Nat):Prop:=P x∨∃y,Q y∧x=y+2^l
def dK (ns:List Nd) (f l:Nat):Nat:=if 2≤f∧d6 ns f=l then (ns.getD (f-2) oH).lo else f
def ef (ns:List Nd) (f l:Nat):Nat:=if 2≤f∧d6 ns f=l then (ns.getD (f-2) oH).hi else 0
structure NJ (ns:List Nd) (f l a b:Nat):Prop where
  va:a<ns.length+2
  vb:b<ns.length+2
  la:l<d6 ns a
  lb:l<d6 ns b
  mem:∀x,x∈dz ns f↔up l (·∈dz ns a) (·∈dz ns b) x
  cnt:(dz ns f).length=(dz ns a).length+(dz ns b).length
theorem iE (h:Wf ns) (hf:f<ns.length+2) (hl:l≤d6 ns f) (h24:l<24):NJ ns f l (dK ns f l) (ef ns f l):=by
  unfold dK ef
  by_cases hc:2≤f∧d6 ns f=l
  · rw[if_pos hc,if_pos hc]
    obtain⟨i,rfl⟩:∃i,f=i+2:=⟨f-2,by omega⟩
    have hi:i<ns.length:=by omega
    obtain⟨a1,a2,a3,a4,a5,a6⟩:=h.ok i hi
    have hl2:=hc.2
    rw[ku]at hl2
    rw[acN]
    refine⟨by omega,by omega,by omega,by omega,λx=> ?_,?_⟩
    · rw[jk h hi,aaQ,abS,hl2]
      exact or_congr Iff.rfl ⟨λ⟨y,h1,h2⟩=>⟨y,h1,h2.symm⟩,λ⟨y,h1,h2⟩=>⟨y,h1,h2.symm⟩⟩
    · rw[jk h hi,An,acj]
  · rw[if_neg hc,if_neg hc]
    have hlt:l<d6 ns f:=by
      rcases acy l (d6 ns f)with k|k
      · exact k
      · exfalso
        have e:d6 ns f=l:=by omega
        have:¬2≤f:=λq=>hc ⟨q,e⟩
        rw[mn (by omega)]at e
        omega
    refine⟨hf,by omega,hlt,by rw[mn (by decide)];exact h24,λx=> ?_,by rw[oe];rfl⟩
    grind [up,oe]
end
section
abbrev M (ns:List Nd) (f:Nat):Nat→Prop:=λx=>x∈dz ns f
theorem jj (hp:ns<+:ns') (h:f<ns.length+2):M ns' f=M ns f:=by
  unfold M;rw[jA hp h]
def T6 (l:Nat) (P:Nat→Prop):Prop:=∀x,P x→2^(l+1)∣x
theorem KD (h:Wf ns) (hf:f<ns.length+2) (hl:l<d6 ns f):T6 l (M ns f):=λx hx=>iq hl (fl h f hf x hx).1
theorem fK {P Q:Nat→Prop} (h:∀x,P x↔Q x):P=Q:=by grind
theorem ui (ha:2^(l+1)∣a) (hb:2^(l+1)∣b):(a+2^l) ||| b=(a ||| b)+2^l∧a ||| (b+2^l)=(a ||| b)+2^l∧(a+2^l) ||| (b+2^l)=(a ||| b)+2^l∧2^(l+1)∣a ||| b:=by
  obtain⟨p,rfl⟩:=ha
  obtain⟨q,rfl⟩:=hb
  have sh:∀u v:Nat,2^l*u ||| 2^l*v=2^l*(u ||| v):=λu v=>by
    rw[acW,acW (2^l) v,acW (2^l) (u ||| v),←Nat.shiftLeft_eq,←Nat.shiftLeft_eq,←Nat.shiftLeft_eq,Nat.shiftLeft_or_distrib]
  have e0:∀u:Nat,2^(l+1)*u=2^l*(2*u):=λu=>by rw[acF,Nat.mul_assoc]
  have e1:∀u:Nat,2^l*(2*u)+2^l=2^l*(2*u+1):=λu=>by rw[Nat.mul_add,acQ]
  have b0:∀u v:Nat,2*u ||| 2*v=2*(u ||| v):=λu v=>by
    have:=λu v=>(Nat.shiftLeft_or_distrib (a:=u) (b:=v) (i:=1))
    simp only[Nat.shiftLeft_eq,Nat.pow_one]at this
    rw[acW 2 u,acW 2 v,acW 2 (u ||| v),this]
  have odd:∀u v:Nat,(u%2=1∨v%2=1)→u ||| v=2*(u/2 ||| v/2)+1:=λu v h=>by
    refine aaF λi=> ?_
    cases i with
    |zero=>
      rw[acq,Nat.testBit_zero,Nat.testBit_zero,Nat.testBit_zero]
      rcases h with h|h<;>simp[h]<;>omega
    |succ i=>
      rw[acq,Nat.testBit_succ,Nat.testBit_succ,Nat.testBit_succ,←acq]
      congr 1
      omega
  have o1:(2*p+1) ||| (2*q)=2*(p ||| q)+1:=by
    rw[odd _ _ (.inl (by omega)),show (2*p+1)/2=p by omega,show 2*q/2=q by omega]
  have o2:(2*p) ||| (2*q+1)=2*(p ||| q)+1:=by
    rw[odd _ _ (.inr (by omega)),show (2*q+1)/2=q by omega,show 2*p/2=p by omega]
  have o3:(2*p+1) ||| (2*q+1)=2*(p ||| q)+1:=by
    rw[odd _ _ (.inl (by omega)),show (2*p+1)/2=p by omega,show (2*q+1)/2=q by omega]
  rw[e0,e0,e1,e1]
  refine⟨?_,?_,?_,?_⟩
  · rw[sh,sh,o1,b0,e1]
  · rw[sh,sh,o2,b0,e1]
  · rw[sh,sh,o3,b0,e1]
  · exact⟨p ||| q,by rw[sh,b0,e0]⟩
def HA (x y:Nat):Prop:=x ||| y=x
theorem UR (hP:T6 l P) (hQ:T6 l Q):(x.testBit l=false→(up l P Q x↔P x))∧∀y,2^(l+1)∣y→(up l P Q (y+2^l)↔Q y):=by
  refine⟨λhb=>⟨λh=> ?_, .inl⟩,λy hy=>⟨λh=> ?_,λh=> .inr ⟨y,h,rfl⟩⟩⟩
  · rcases h with h|⟨y,hy,rfl⟩
    · exact h
    · rw[kF (hQ y hy)]at hb;cases hb
  · rcases h with h|⟨z,hz,e⟩
    · have:=gp (hP _ h)
      rw[kF hy]at this;cases this
    all_goals grind
def bl (x:Nat):Nat:=if x=0 then 0 else Nat.log2 x+1
theorem X5:bl x≤T↔x<2^T:=by
  unfold bl
  by_cases h:x=0
  · rw[if_pos h,h]
    exact⟨λ_=>ace T,λ_=>me _⟩
  · rw[if_neg h,←Nat.log2_lt h];omega
def tpL (l:List Nat):Nat:=l.foldr (λx t=>max (bl x) t) 0
theorem Pd:∀{l:List Nat},tpL l≤T↔∀x,x∈l→x<2^T
  |[]=>⟨λ_ x h=>by (cases h),λ_=>me _⟩
  |y::l=>by
    have ih:=Pd (T:=T) (l:=l)
    have e:tpL (y::l)=max (bl y) (tpL l):=rfl
    rw[e,Nat.max_le,X5,ih]
    exact⟨λ⟨h1,h2⟩ x hx=>by
      (rcases ab9.1 hx with rfl|hx
       · exact h1
       · exact h2 x hx),λh=>⟨h y (aaZ ..),λx hx=>h x (abe _ hx)⟩⟩
def tp (ns:List Nd) (f:Nat):Nat:=tpL (dz ns f)
theorem mO:tp ns f≤T↔∀x,x∈dz ns f→x<2^T:=Pd
theorem P3 (hp:ns<+:ns') (h:f<ns.length+2):tp ns' f=tp ns f:=by grind [tp,jA]
theorem NJ.tpa (H:NJ ns f l a b):tp ns a≤tp ns f:=mO.2 λx hx=>mO.1 (am _) x ((H.mem x).2 (.inl hx))
theorem NJ.tpb (H:NJ ns f l a b):tp ns b≤tp ns f:=mO.2 λx hx=>by
  have:=mO.1 (am (tp ns f)) (x+2^l) ((H.mem _).2 (.inr ⟨x,hx,rfl⟩))
  exact ab8 (Nat.le_add_right _ _) this
theorem wj (h:Wf ns) (hf:f<ns.length+2) (h2:2≤f):d6 ns f<tp ns f:=by
  have h24:=pc h hf h2
  have H:=iE h hf (am _) h24
  have e:ef ns f (d6 ns f)=(ns.getD (f-2) oH).hi:=if_pos ⟨h2,rfl⟩
  obtain⟨i,rfl⟩:∃i,f=i+2:=⟨f-2,by omega⟩
  rw[acN]at e
  have hne:ef ns (i+2) (d6 ns (i+2))≠0:=by rw[e];exact(h.ok i (by omega)).2.2.1
  obtain⟨y,hy⟩:=jc h _ H.vb hne
  have hm:y+2^d6 ns (i+2)∈dz ns (i+2):=(H.mem _).2 (.inr ⟨y,hy,rfl⟩)
  have:=mO.1 (am (tp ns (i+2))) _ hm
  exact(Nat.pow_lt_pow_iff_right (a:=2) (by decide)).1 (ab8 (Nat.le_add_left _ _) this)
theorem lg (hp:ns<+:ns') (h:f<ns.length+2):dK ns' f l=dK ns f l∧ef ns' f l=ef ns f l:=by
  unfold dK ef
  rw[iF hp h]
  by_cases hc:2≤f∧d6 ns f=l
  · rw[if_pos hc,if_pos hc,if_pos hc,if_pos hc,vF hp (by omega)]
    exact⟨rfl,rfl⟩
  all_goals grind
structure Op where
  res:(Nat→Prop)→(Nat→Prop)→Nat→Prop
  resH:(Nat→Prop)→(Nat→Prop)→(Nat→Prop)→(Nat→Prop)→Nat→Prop
  ends:Nat→Nat→Nat×Bool
  cst:List Nd→Nat→Nat→Nat
  hcst:List Nd→Nat→Nat→Nat→Nat→Nat→Nat
structure Mw (o:Op):Prop where
  dec:∀l A0 A1 B0 B1,T6 l A0→T6 l A1→T6 l B0→T6 l B1→∀x,o.res (up l A0 A1) (up l B0 B1) x↔up l (o.res A0 B0) (o.resH A0 A1 B0 B1) x
  endT:∀ns f g,Wf ns→f<ns.length+2→g<ns.length+2→(o.ends f g).2=true→(o.ends f g).1<ns.length+2∧min (d6 ns f) (d6 ns g)≤d6 ns (o.ends f g).1∧∀x,x∈dz ns (o.ends f g).1↔o.res (M ns f) (M ns g) x
  endF:∀f g,(o.ends f g).2=false→f≠0∧g≠0∧¬(f<2∧g<2)
  cost:∀ns f g l,Wf ns→f<ns.length+2→g<ns.length+2→(o.ends f g).2=false→l=min (d6 ns f) (d6 ns g)→l<24→o.cst ns (dK ns f l) (dK ns g l)+o.hcst ns l (dK ns f l) (ef ns f l) (dK ns g l) (ef ns g l)+1≤o.cst ns f g
  hpre:∀ns ns' l f0 f1 g0 g1,ns<+:ns'→Wf ns→f0<ns.length+2→f1<ns.length+2→g0<ns.length+2→g1<ns.length+2→o.hcst ns' l f0 f1 g0 g1=o.hcst ns l f0 f1 g0 g1
theorem Z1:∀k k1 a0 a1 b0 b1,k1<k→1≤a0+a1→1≤b0+b1→k1*min a0 b0+(k-1)*min a1 b1+1≤k*min (a0+a1) (b0+b1):=by
  intro k k1 a0 a1 b0 b1 hk h1 h2
  obtain⟨m,rfl⟩:∃m,k=m+1:=⟨k-1,by omega⟩
  rw[acN]
  have e1:k1*min a0 b0≤m*min a0 b0:=ab6 _ (by omega)
  have e2:m*min a0 b0+m*min a1 b1≤m*min (a0+a1) (b0+b1):=by
    rw[←Nat.mul_add]
    exact Nat.mul_le_mul_left _ (by omega)
  grind
def cP (en:Nat→Nat→Nat×Bool):Nat→List Nd→Nat→Nat→Nat
  |0,_,_,_=>0
  |n+1,ns,f,g=>if (en f g).2=true then 0 else cP en n ns (dK ns f (min (d6 ns f) (d6 ns g))) (dK ns g (min (d6 ns f) (d6 ns g)))+cP en n ns (ef ns f (min (d6 ns f) (d6 ns g))) (ef ns g (min (d6 ns f) (d6 ns g)))+1
def cE (en:Nat→Nat→Nat×Bool) (ns:List Nd) (f g:Nat):Nat:=cP en (25-min (d6 ns f) (d6 ns g)) ns f g
def hE (en:Nat→Nat→Nat×Bool) (ns:List Nd) (_ _ f1 _ g1:Nat):Nat:=cE en ns f1 g1
section
variable {en:Nat→Nat→Nat×Bool} {ns ns':List Nd}
theorem EC:∀(n f g:Nat),cP en n ns f g≤cP en (n+1) ns f g
  |0,_,_=>me _
  |n+1,f,g=>by
    rw[cP,cP]
    by_cases h:(en f g).2=true
    · rw[if_pos h,if_pos h];exact am _
    · rw[if_neg h,if_neg h]
      have h1:=EC n (dK ns f (min (d6 ns f) (d6 ns g))) (dK ns g (min (d6 ns f) (d6 ns g)))
      have h2:=EC n (ef ns f (min (d6 ns f) (d6 ns g))) (ef ns g (min (d6 ns f) (d6 ns g)))
      omega
theorem DH (h:n≤m) (f g:Nat):cP en n ns f g≤cP en m ns f g:=by
  obtain⟨d,rfl⟩:∃d,m=n+d:=⟨m-n,by omega⟩
  clear h
  induction d with
  |zero=>exact am _
  |succ d ih=>exact go ih (EC _ _ _)
theorem Di (h:Wf ns) (hf:f<ns.length+2) (hl:l≤d6 ns f):dK ns f l<ns.length+2∧ef ns f l<ns.length+2:=by
  by_cases h24:l<24
  · have H:=iE h hf hl h24
    exact⟨H.va,H.vb⟩
  · have:¬2≤f:=λq=>by have:=pc h hf q;omega
    unfold dK ef
    grind
theorem HY (hp:ns<+:ns') (h:Wf ns):∀(n f g:Nat),f<ns.length+2→g<ns.length+2→cP en n ns' f g=cP en n ns f g
  |0,_,_,_,_=>rfl
  |n+1,f,g,hf,hg=>by
    rw[cP,cP,iF hp hf,iF hp hg,(lg hp hf).1,(lg hp hf).2,(lg hp hg).1,(lg hp hg).2]
    obtain⟨v1,v2⟩:=Di h hf (Nat.min_le_left (d6 ns f) (d6 ns g))
    obtain⟨v3,v4⟩:=Di h hg (adv (d6 ns f) (d6 ns g))
    rw[HY hp h n _ _ v1 v3,HY hp h n _ _ v2 v4]
theorem Ps (hp:ns<+:ns') (h:Wf ns) (hf:f<ns.length+2) (hg:g<ns.length+2):cE en ns' f g=cE en ns f g:=by
  grind [cE,iF,HY]
theorem JC (h:Wf ns) (hf:f<ns.length+2) (hg:g<ns.length+2) (he:(en f g).2=false) (hl:l=min (d6 ns f) (d6 ns g)) (h24:l<24):
    cE en ns (dK ns f l) (dK ns g l)+hE en ns l (dK ns f l) (ef ns f l) (dK ns g l) (ef ns g l)+1≤cE en ns f g:=by
  have H1:=iE h hf (l:=l) (by omega) h24
  have H2:=iE h hg (l:=l) (by omega) h24
  have k1:=H1.la
  have k2:=H1.lb
  have k3:=H2.la
  have k4:=H2.lb
  unfold hE
  rw[show cE en ns f g=cP en (24-l+1) ns f g by unfold cE;rw[←hl];congr 1;omega,cP,if_neg (by rw[he];decide),←hl]
  have h1:=DH (en:=en) (ns:=ns) (show 25-min (d6 ns (dK ns f l)) (d6 ns (dK ns g l))≤24-l by omega) (dK ns f l) (dK ns g l)
  have h2:=DH (en:=en) (ns:=ns) (show 25-min (d6 ns (ef ns f l)) (d6 ns (ef ns g l))≤24-l by omega) (ef ns f l) (ef ns g l)
  unfold cE
  omega
theorem Wd (h:Wf ns) (hen:∀f g,(en f g).2=false→f≠0∧g≠0∧¬(f<2∧g<2)) (T:Nat):∀(n f g:Nat),f<ns.length+2→g<ns.length+2→tp ns f≤T→tp ns g≤T→cP en n ns f g≤(T-min (d6 ns f) (d6 ns g))*min (dz ns f).length (dz ns g).length
  |0,_,_,_,_,_,_=>me _
  |n+1,f,g,hf,hg,tf,tg=>by
    rw[cP]
    by_cases he:(en f g).2=true
    · rw[if_pos he];exact me _
    · rw[if_neg he]
      obtain⟨f0,g0,fg⟩:=hen f g (by simpa using he)
      have h1f:=og h hf
      have h1g:=og h hg
      have hlt:min (d6 ns f) (d6 ns g)<24∧min (d6 ns f) (d6 ns g)<T:=by
        by_cases q:2≤f
        · have:=pc h hf q
          have:=wj h hf q
          omega
        · have q2:2≤g:=by omega
          have:=pc h hg q2
          have:=wj h hg q2
          omega
      generalize hl:min (d6 ns f) (d6 ns g)=l at hlt ⊢
      have H1:=iE h hf (l:=l) (by omega) hlt.1
      have H2:=iE h hg (l:=l) (by omega) hlt.1
      have k1:=H1.la
      have k2:=H1.lb
      have k3:=H2.la
      have k4:=H2.lb
      have n1:=acl (jc h f hf f0).choose_spec
      have n2:=acl (jc h g hg g0).choose_spec
      have r1:=Wd h hen T n _ _ H1.va H2.va (go H1.tpa tf) (go H2.tpa tg)
      have r2:=Wd h hen T n _ _ H1.vb H2.vb (go H1.tpb tf) (go H2.tpb tg)
      have r3:=Z1 (T-l) (T-l-1) (dz ns (dK ns f l)).length (dz ns (ef ns f l)).length (dz ns (dK ns g l)).length (dz ns (ef ns g l)).length (by omega) (by have:=H1.cnt;omega) (by have:=H2.cnt;omega)
      rw[←H1.cnt,←H2.cnt]at r3
      have r4:(T-min (d6 ns (dK ns f l)) (d6 ns (dK ns g l)))*min (dz ns (dK ns f l)).length (dz ns (dK ns g l)).length≤(T-l-1)*min (dz ns (dK ns f l)).length (dz ns (dK ns g l)).length:=ab6 _ (by omega)
      have r5:(T-min (d6 ns (ef ns f l)) (d6 ns (ef ns g l)))*min (dz ns (ef ns f l)).length (dz ns (ef ns g l)).length≤(T-l-1)*min (dz ns (ef ns f l)).length (dz ns (ef ns g l)).length:=ab6 _ (by omega)
      omega
theorem RI (h:Wf ns) (hen:∀f g,(en f g).2=false→f≠0∧g≠0∧¬(f<2∧g<2)) {T f g:Nat} (hf:f<ns.length+2) (hg:g<ns.length+2) (tf:tp ns f≤T) (tg:tp ns g≤T):cE en ns f g≤(T-min (d6 ns f) (d6 ns g))*min (dz ns f).length (dz ns g).length:=Wd h hen T _ f g hf hg tf tg
end
def Tz (f g:Nat):Nat×Bool:=if f=0∨f=g then (g,true)else (f,decide (g=0))
def Zk (f g:Nat):Nat×Bool:=if f=0∨f=g then (0,true)else (f,decide (g=0))
def pW:Op:=⟨λF G x=>F x∨G x,λ_ A1 _ B1 x=>A1 x∨B1 x,Tz,cE Tz,hE Tz⟩
def xy:Op:=⟨λF G x=>F x∧¬G x,λ_ A1 _ B1 x=>A1 x∧¬B1 x,Zk,cE Zk,hE Zk⟩
theorem Na (ns:List Nd) (x:Nat):¬M ns 0 x:=by unfold M;rw[oe];exact λh=>by cases h
theorem R3 (ns:List Nd):d6 ns 0=24:=mn (by decide)
theorem Iw:Mw pW:=by
  refine⟨λl A0 A1 B0 B1 _ _ _ _ x=> ?_,λns f g h hf hg ht=> ?_,λf g hf=> ?_,λns f g l h hf hg he hl h24=>JC h hf hg he hl h24,λns ns' l f0 f1 g0 g1 hp h v0 v1 v2 v3=>Ps hp h v1 v3⟩
  · simp only[pW,up]
    constructor
    · rintro((h|⟨y,h,e⟩)|(h|⟨y,h,e⟩))
      · exact .inl (.inl h)
      · exact .inr ⟨y, .inl h,e⟩
      · exact .inl (.inr h)
      · exact .inr ⟨y, .inr h,e⟩
    · rintro((h|h)|⟨y,h|h,e⟩)
      · exact .inl (.inl h)
      · exact .inr (.inl h)
      · exact .inl (.inr ⟨y,h,e⟩)
      · exact .inr (.inr ⟨y,h,e⟩)
  · simp only[pW,Tz]at ht ⊢
    by_cases hc:f=0∨f=g
    · rw[if_pos hc]
      refine⟨hg,adv _ _,λx=>⟨.inr,λh=> ?_⟩⟩
      rcases h with h|h
      · rcases hc with rfl|rfl
        · exact absurd h (Na ns x)
        · exact h
      · exact h
    · rw[if_neg hc]at ht ⊢
      obtain rfl:g=0:=of_decide_eq_true ht
      exact⟨hf,Nat.min_le_left _ _,λx=>⟨.inl,λh=>h.elim id (λh=>absurd h (Na ns x))⟩⟩
  · simp only[pW,Tz]at hf
    grind
theorem HW:Mw xy:=by
  refine⟨λl A0 A1 B0 B1 hA0 hA1 hB0 hB1 x=> ?_,λns f g h hf hg ht=> ?_,λf g hf=> ?_,λns f g l h hf hg he hl h24=>JC h hf hg he hl h24,λns ns' l f0 f1 g0 g1 hp h v0 v1 v2 v3=>Ps hp h v1 v3⟩
  · simp only[xy]
    constructor
    · rintro⟨h,k⟩
      rcases h with h|⟨y,h,rfl⟩
      · exact .inl ⟨h,λq=>k (.inl q)⟩
      · exact .inr ⟨y,⟨h,λq=>k (.inr ⟨y,q,rfl⟩)⟩,rfl⟩
    · rintro(⟨h,k⟩|⟨y,⟨h,k⟩,rfl⟩)
      · exact⟨.inl h,λq=>k (((UR hB0 hB1).1 (gp (hA0 x h))).1 q)⟩
      · exact⟨.inr ⟨y,h,rfl⟩,λq=>k (((UR (x:=0) hB0 hB1).2 y (hA1 y h)).1 q)⟩
  · simp only[xy,Zk]at ht ⊢
    have:=og h hf
    by_cases hc:f=0∨f=g
    · rw[if_pos hc]
      refine⟨by omega,by rw[R3];omega,λx=>⟨λk=>absurd k (Na ns x),λ⟨h1,h2⟩=> ?_⟩⟩
      rcases hc with rfl|rfl
      · exact absurd h1 (Na ns x)
      · exact absurd h1 h2
    · rw[if_neg hc]at ht ⊢
      obtain rfl:g=0:=of_decide_eq_true ht
      exact⟨hf,Nat.min_le_left _ _,λx=>⟨λk=>⟨k,Na ns x⟩,λk=>k.1⟩⟩
  · simp only[xy,Zk]at hf
    grind
def ur:Nat→Nat
  |0=>0
  |k+1=>ur k+(k+1)
theorem rQ:∀{a b:Nat},a≤b→ur a≤ur b:=λ{a b} h=>by
  obtain⟨d,rfl⟩:∃d,b=a+d:=⟨b-a,by omega⟩
  clear h
  induction d with
  |zero=>exact am _
  |succ d ih=>show ur a≤ur (a+d)+_;omega
def oA (F G:Nat→Prop) (x:Nat):Prop:=∃a b,F a∧G b∧x=a ||| b
def Hi (f g:Nat):Nat×Bool:=if f=0∨g=0 then (0,true)else if f=1 then (g,true)else (f,decide (g=1))
def kJ (ns:List Nd) (f0 f1 g0 g1:Nat):Nat:=max (max (tp ns f0) (tp ns f1)) (max (tp ns g0) (tp ns g1))
def uJ (k a0 a1 b0 b1:Nat):Nat:=k*min (a1*b0) (a0*b1)+k*min (a1*b0+a0*b1) (a1*b1)
def QN (ns:List Nd) (l f0 f1 g0 g1:Nat):Nat:=uJ (kJ ns f0 f1 g0 g1-(l+1)) (dz ns f0).length (dz ns f1).length (dz ns g0).length (dz ns g1).length
def Ba:Nat→List Nd→Nat→Nat→Nat
  |0,_,_,_=>0
  |n+1,ns,f,g=>if (Hi f g).2=true then 0 else Ba n ns (dK ns f (min (d6 ns f) (d6 ns g))) (dK ns g (min (d6 ns f) (d6 ns g)))+(Ba n ns (ef ns f (min (d6 ns f) (d6 ns g))) (dK ns g (min (d6 ns f) (d6 ns g)))+Ba n ns (dK ns f (min (d6 ns f) (d6 ns g))) (ef ns g (min (d6 ns f) (d6 ns g)))+Ba n ns (ef ns f (min (d6 ns f) (d6 ns g))) (ef ns g (min (d6 ns f) (d6 ns g)))+QN ns (min (d6 ns f) (d6 ns g)) (dK ns f (min (d6 ns f) (d6 ns g))) (ef ns f (min (d6 ns f) (d6 ns g))) (dK ns g (min (d6 ns f) (d6 ns g))) (ef ns g (min (d6 ns f) (d6 ns g))))+1
def ro (ns:List Nd) (f g:Nat):Nat:=Ba (25-min (d6 ns f) (d6 ns g)) ns f g
def XW (ns:List Nd) (l f0 f1 g0 g1:Nat):Nat:=ro ns f1 g0+ro ns f0 g1+ro ns f1 g1+QN ns l f0 f1 g0 g1
def rG:Op:=⟨oA,λA0 A1 B0 B1 x=>oA A1 B0 x∨oA A0 B1 x∨oA A1 B1 x,Hi,ro,XW⟩
theorem UX (hf:(Hi f g).2=false):f≠0∧g≠0∧¬(f<2∧g<2):=by
  simp only[Hi]at hf
  grind
section
variable {ns ns':List Nd}
theorem se:∀(n f g:Nat),Ba n ns f g≤Ba (n+1) ns f g
  |0,_,_=>me _
  |n+1,f,g=>by
    rw[Ba,Ba]
    by_cases h:(Hi f g).2=true
    · rw[if_pos h,if_pos h];exact am _
    · rw[if_neg h,if_neg h]
      generalize min (d6 ns f) (d6 ns g)=l
      have h1:=se n (dK ns f l) (dK ns g l)
      have h2:=se n (ef ns f l) (dK ns g l)
      have h3:=se n (dK ns f l) (ef ns g l)
      have h4:=se n (ef ns f l) (ef ns g l)
      omega
theorem uO (h:n≤m) (f g:Nat):Ba n ns f g≤Ba m ns f g:=by
  obtain⟨d,rfl⟩:∃d,m=n+d:=⟨m-n,by omega⟩
  clear h
  induction d with
  |zero=>exact am _
  |succ d ih=>exact go ih (se _ _ _)
theorem Jc (hp:ns<+:ns') (v0:f0<ns.length+2) (v1:f1<ns.length+2) (v2:g0<ns.length+2) (v3:g1<ns.length+2):QN ns' l f0 f1 g0 g1=QN ns l f0 f1 g0 g1:=by
  grind [QN,kJ,P3,jA]
theorem vh (hp:ns<+:ns') (h:Wf ns):∀(n f g:Nat),f<ns.length+2→g<ns.length+2→Ba n ns' f g=Ba n ns f g
  |0,_,_,_,_=>rfl
  |n+1,f,g,hf,hg=>by
    rw[Ba,Ba,iF hp hf,iF hp hg,(lg hp hf).1,(lg hp hf).2,(lg hp hg).1,(lg hp hg).2]
    obtain⟨v1,v2⟩:=Di h hf (Nat.min_le_left (d6 ns f) (d6 ns g))
    obtain⟨v3,v4⟩:=Di h hg (adv (d6 ns f) (d6 ns g))
    rw[vh hp h n _ _ v1 v3,vh hp h n _ _ v2 v3,vh hp h n _ _ v1 v4,vh hp h n _ _ v2 v4,Jc hp v1 v2 v3 v4]
theorem DR (hp:ns<+:ns') (h:Wf ns) (hf:f<ns.length+2) (hg:g<ns.length+2):ro ns' f g=ro ns f g:=by
  grind [ro,iF,vh]
theorem Pa (h:Wf ns) (hf:f<ns.length+2) (hg:g<ns.length+2) (he:(Hi f g).2=false) (hl:l=min (d6 ns f) (d6 ns g)) (h24:l<24):
    ro ns (dK ns f l) (dK ns g l)+XW ns l (dK ns f l) (ef ns f l) (dK ns g l) (ef ns g l)+1≤ro ns f g:=by
  have H1:=iE h hf (l:=l) (by omega) h24
  have H2:=iE h hg (l:=l) (by omega) h24
  have k1:=H1.la
  have k2:=H1.lb
  have k3:=H2.la
  have k4:=H2.lb
  unfold XW
  rw[show ro ns f g=Ba (24-l+1) ns f g by unfold ro;rw[←hl];congr 1;omega,Ba,if_neg (by rw[he];decide),←hl]
  have h1:=uO (ns:=ns) (show 25-min (d6 ns (dK ns f l)) (d6 ns (dK ns g l))≤24-l by omega) (dK ns f l) (dK ns g l)
  have h2:=uO (ns:=ns) (show 25-min (d6 ns (ef ns f l)) (d6 ns (dK ns g l))≤24-l by omega) (ef ns f l) (dK ns g l)
  have h3:=uO (ns:=ns) (show 25-min (d6 ns (dK ns f l)) (d6 ns (ef ns g l))≤24-l by omega) (dK ns f l) (ef ns g l)
  have h4:=uO (ns:=ns) (show 25-min (d6 ns (ef ns f l)) (d6 ns (ef ns g l))≤24-l by omega) (ef ns f l) (ef ns g l)
  unfold ro
  omega
theorem X1 (m k1 a0 a1 b0 b1 u x y z q:Nat) (hk:k1≤m) (h1:1≤a0+a1) (h2:1≤b0+b1) (hq:q≤ur k1*(a0*b0)) (hx:x≤ur m*(a1*b0)) (hy:y≤ur m*(a0*b1)) (hz:z≤ur m*(a1*b1)) (hu:u≤m*(a1*b0+a0*b1+a1*b1)):
    q+(x+y+z+u)+1≤ur (m+1)*((a0+a1)*(b0+b1)):=by
  have e1:ur k1*(a0*b0)≤(ur m+m)*(a0*b0):=ab6 _ (by have:=rQ hk;omega)
  have e2:(a0+a1)*(b0+b1)=a0*b0+(a1*b0+a0*b1+a1*b1):=by
    rw[act,Nat.mul_add,Nat.mul_add];omega
  have e3:1≤(a0+a1)*(b0+b1):=Nat.mul_pos h1 h2
  have e4:ur (m+1)=(ur m+m)+1:=by show ur m+(m+1)=_;omega
  have e5:(ur m+m)*((a0+a1)*(b0+b1))=(ur m+m)*(a0*b0)+(ur m+m)*(a1*b0+a0*b1+a1*b1):=by rw[e2,Nat.mul_add]
  have e6:(ur m+m)*(a1*b0+a0*b1+a1*b1)=ur m*(a1*b0)+ur m*(a0*b1)+ur m*(a1*b1)+m*(a1*b0+a0*b1+a1*b1):=by
    rw[act (ur m) m,Nat.mul_add (ur m),Nat.mul_add (ur m)]
  rw[e4,act (ur m+m) 1,abJ]
  omega
theorem aaf (h:k≤m):uJ k a0 a1 b0 b1≤m*(a1*b0+a0*b1+a1*b1):=by
  unfold uJ
  rw[←Nat.mul_add]
  exact adf h (by omega)
theorem FV (h:Wf ns) (T:Nat):∀(n f g:Nat),f<ns.length+2→g<ns.length+2→tp ns f≤T→tp ns g≤T→Ba n ns f g≤ur (T-min (d6 ns f) (d6 ns g))*((dz ns f).length*(dz ns g).length)
  |0,_,_,_,_,_,_=>me _
  |n+1,f,g,hf,hg,tf,tg=>by
    rw[Ba]
    by_cases he:(Hi f g).2=true
    · rw[if_pos he];exact me _
    · rw[if_neg he]
      obtain⟨f0,g0,fg⟩:=UX (f:=f) (g:=g) (by simpa using he)
      have h1f:=og h hf
      have h1g:=og h hg
      have hlt:min (d6 ns f) (d6 ns g)<24∧min (d6 ns f) (d6 ns g)<T:=by
        by_cases q:2≤f
        · have:=pc h hf q
          have:=wj h hf q
          omega
        · have q2:2≤g:=by omega
          have:=pc h hg q2
          have:=wj h hg q2
          omega
      generalize hl:min (d6 ns f) (d6 ns g)=l at hlt ⊢
      have H1:=iE h hf (l:=l) (by omega) hlt.1
      have H2:=iE h hg (l:=l) (by omega) hlt.1
      have k1:=H1.la
      have k2:=H1.lb
      have k3:=H2.la
      have k4:=H2.lb
      have ta:=go H1.tpa tf
      have tb:=go H1.tpb tf
      have tc:=go H2.tpa tg
      have td:=go H2.tpb tg
      have n1:=acl (jc h f hf f0).choose_spec
      have n2:=acl (jc h g hg g0).choose_spec
      have r1:=FV h T n _ _ H1.va H2.va ta tc
      have r2:=go (FV h T n _ _ H1.vb H2.va tb tc) (ab6 _ (rQ (show T-min (d6 ns (ef ns f l)) (d6 ns (dK ns g l))≤T-l-1 by omega)))
      have r3:=go (FV h T n _ _ H1.va H2.vb ta td) (ab6 _ (rQ (show T-min (d6 ns (dK ns f l)) (d6 ns (ef ns g l))≤T-l-1 by omega)))
      have r4:=go (FV h T n _ _ H1.vb H2.vb tb td) (ab6 _ (rQ (show T-min (d6 ns (ef ns f l)) (d6 ns (ef ns g l))≤T-l-1 by omega)))
      have r5:QN ns l (dK ns f l) (ef ns f l) (dK ns g l) (ef ns g l)≤(T-l-1)*_:=aaf (show kJ ns (dK ns f l) (ef ns f l) (dK ns g l) (ef ns g l)-(l+1)≤T-l-1 by unfold kJ;omega)
      have r6:=X1 (T-l-1) (T-min (d6 ns (dK ns f l)) (d6 ns (dK ns g l))) _ _ _ _ _ _ _ _ _ (by omega) (by have:=H1.cnt;omega) (by have:=H2.cnt;omega) r1 r2 r3 r4 r5
      rw[←H1.cnt,←H2.cnt,show T-l-1+1=T-l by omega]at r6
      exact r6
theorem Yh (h:Wf ns) (hf:f<ns.length+2) (hg:g<ns.length+2) (tf:tp ns f≤T) (tg:tp ns g≤T):ro ns f g≤ur (T-min (d6 ns f) (d6 ns g))*((dz ns f).length*(dz ns g).length):=FV h T _ f g hf hg tf tg
end
theorem Xm:Mw rG:=by
  refine⟨λl A0 A1 B0 B1 hA0 hA1 hB0 hB1 x=> ?_,λns f g h hf hg ht=> ?_,λf g hf=>UX hf,λns f g l h hf hg he hl h24=>Pa h hf hg he hl h24,λns ns' l f0 f1 g0 g1 hp h v0 v1 v2 v3=> ?_⟩
  · simp only[rG,oA]
    constructor
    · rintro⟨a,b,ha|⟨p,ha,rfl⟩,hb|⟨q,hb,rfl⟩,rfl⟩
      · exact .inl ⟨a,b,ha,hb,rfl⟩
      · exact .inr ⟨a ||| q, .inr (.inl ⟨a,q,ha,hb,rfl⟩),(ui (hA0 a ha) (hB1 q hb)).2.1⟩
      · exact .inr ⟨p ||| b, .inl ⟨p,b,ha,hb,rfl⟩,(ui (hA1 p ha) (hB0 b hb)).1⟩
      · exact .inr ⟨p ||| q, .inr (.inr ⟨p,q,ha,hb,rfl⟩),(ui (hA1 p ha) (hB1 q hb)).2.2.1⟩
    · rintro(⟨a,b,ha,hb,rfl⟩|⟨y,⟨a,b,ha,hb,rfl⟩|⟨a,b,ha,hb,rfl⟩|⟨a,b,ha,hb,rfl⟩,rfl⟩)
      · exact⟨a,b, .inl ha, .inl hb,rfl⟩
      · exact⟨a+2^l,b, .inr ⟨a,ha,rfl⟩, .inl hb,(ui (hA1 a ha) (hB0 b hb)).1.symm⟩
      · exact⟨a,b+2^l, .inl ha, .inr ⟨b,hb,rfl⟩,(ui (hA0 a ha) (hB1 b hb)).2.1.symm⟩
      · exact⟨a+2^l,b+2^l, .inr ⟨a,ha,rfl⟩, .inr ⟨b,hb,rfl⟩,(ui (hA1 a ha) (hB1 b hb)).2.2.1.symm⟩
  · have hm1:∀x,M ns 1 x↔x=0:=λx=>by unfold M;rw[qK];exact aaG
    simp only[rG,Hi]at ht ⊢
    have:=og h hf
    by_cases hc:f=0∨g=0
    · rw[if_pos hc]
      refine⟨by omega,by rw[R3];omega,λx=>⟨λk=>absurd k (Na ns x),λ⟨a,b,h1,h2,_⟩=> ?_⟩⟩
      rcases hc with rfl|rfl
      · exact absurd h1 (Na ns a)
      · exact absurd h2 (Na ns b)
    · rw[if_neg hc]at ht ⊢
      by_cases h1:f=1
      · subst h1
        rw[if_pos rfl]
        refine⟨hg,adv _ _,λx=>⟨λk=>⟨0,x,(hm1 0).2 rfl,k,by simp⟩,?_⟩⟩
        rintro⟨a,b,ha,hb,rfl⟩
        rw[(hm1 a).1 ha,Nat.zero_or]
        exact hb
      · rw[if_neg h1]at ht ⊢
        obtain rfl:g=1:=of_decide_eq_true ht
        refine⟨hf,Nat.min_le_left _ _,λx=>⟨λk=>⟨x,0,k,(hm1 0).2 rfl,by simp⟩,?_⟩⟩
        rintro⟨a,b,ha,hb,rfl⟩
        rw[(hm1 b).1 hb,Nat.or_zero]
        exact ha
  · show XW ns' l f0 f1 g0 g1=XW ns l f0 f1 g0 g1
    grind [XW,DR,Jc]
def qB (p:Nat×Nat):Value:= .agg #[.int .i64 (p.1:Int), .int .i64 (p.2:Int)]
theorem zf (a b:Nat×Nat) (h:qB a=qB b):a=b:=by
  obtain⟨a1,a2⟩:=a
  obtain⟨b1,b2⟩:=b
  simp only[qB,Value.agg.injEq,Array.mk.injEq,List.cons.injEq,Value.int.injEq,true_and,and_true]at h
  grind
structure KF (res:(Nat→Prop)→(Nat→Prop)→Nat→Prop) (ns:List Nd) (p:(Nat×Nat)×Int):Prop where
  v1:p.1.1<ns.length+2
  v2:p.1.2<ns.length+2
  id:∃id:Nat,p.2=(id:Int)∧id<ns.length+2∧min (d6 ns p.1.1) (d6 ns p.1.2)≤d6 ns id∧∀x,x∈dz ns id↔res (M ns p.1.1) (M ns p.1.2) x
def tF (res:(Nat→Prop)→(Nat→Prop)→Nat→Prop) (ns:List Nd) (dl:List ((Nat×Nat)×Int)):Prop:=∀p,p∈dl→KF res ns p
theorem KF.pre (hp:ns<+:ns') (h:KF res ns p):KF res ns' p:=by
  have hl:=gt hp
  obtain⟨id,h1,h2,h3,h4⟩:=h.id
  refine⟨by have:=h.v1;omega,by have:=h.v2;omega,id,h1,by omega,?_,?_⟩
  · rw[iF hp h.v1,iF hp h.v2,iF hp h2];exact h3
  · rw[jj hp h.v1,jj hp h.v2,jA hp h2];exact h4
theorem tF.pre {dl:List ((Nat×Nat)×Int)} (hp:ns<+:ns') (h:tF res ns dl):tF res ns' dl:=λp q=>(h p q).pre hp
theorem Nj {α β:Type} [DecidableEq α] {l:List (α×β)} {k:α} {v:β} {p:α×β} (h:p∈iM l k v):p∈l∨p=(k,v):=by
  grind [iM]
theorem Fo {α β:Type} [DecidableEq α]:∀{l:List (α×β)} {k:α} {v:β},iN l k=some v→(k,v)∈l
  |[],_,_,h=>by cases h
  |(a,b)::r,k,v,h=>by
    simp only[iN]at h
    by_cases e:a=k
    · rw[if_pos e]at h
      cases h;subst e
      exact aaZ ..
    · rw[if_neg e]at h
      exact abe _ (Fo h)
section
variable {o:Op} {ns ns1 ns2 ns3:List Nd} {R f g l l1 l2 c1 c2 c low high id:Nat} {er:Int}
theorem Xu (ho:Mw o) (h:Wf ns) (hf:f<ns.length+2) (hg:g<ns.length+2) (hl:l=min (d6 ns f) (d6 ns g)) (h24:l<24)
    (g1:kc ns ns1 R c1 l1 (o.res (M ns (dK ns f l)) (M ns (dK ns g l))) low 0)
    (g2:kc ns1 ns2 R c2 l2 (o.resH (M ns1 (dK ns f l)) (M ns1 (ef ns f l)) (M ns1 (dK ns g l)) (M ns1 (ef ns g l))) high 0)
    (g3:kc ns2 ns3 R 1 l (up l (M ns2 low) (M ns2 high)) id er) (hc:c1+c2+1≤c):kc ns ns3 R c l (o.res (M ns f) (M ns g)) id er:=by
  have H1:=iE h hf (l:=l) (by omega) h24
  have H2:=iE h hg (l:=l) (by omega) h24
  refine(((kc.then' g1 g2 (am _)).then' g3 (am _)).weak (c:=c) (by omega) λx=> ?_)
  obtain⟨v1,_,m1⟩:=g1.ok rfl
  obtain⟨v2,_,m2⟩:=g2.ok rfl
  have eF:M ns f=up l (M ns (dK ns f l)) (M ns (ef ns f l)):=fK H1.mem
  have eG:M ns g=up l (M ns (dK ns g l)) (M ns (ef ns g l)):=fK H2.mem
  rw[eF,eG,ho.dec l _ _ _ _ (KD h H1.va H1.la) (KD h H1.vb H1.lb) (KD h H2.va H2.la) (KD h H2.vb H2.lb)]
  have e1:M ns2 low=o.res (M ns (dK ns f l)) (M ns (dK ns g l)):=by
    rw[jj g2.pre v1];exact fK m1
  have e2:M ns2 high=o.resH (M ns (dK ns f l)) (M ns (ef ns f l)) (M ns (dK ns g l)) (M ns (ef ns g l)):=by
    rw[←jj g1.pre H1.va,←jj g1.pre H1.vb,←jj g1.pre H2.va,←jj g1.pre H2.vb];exact fK m2
  rw[e1,e2]
end
end
section
section
variable {P:Program} {f:Nat→Value} {w:World} {d:Option Nat} {ty:TypeId} {ps:String} {af:Array Edge} {g:Option (Nat×Bool)} {x y:Operand} {t t2 e:TypeId}
theorem I5 (hu:P.underlying t=some (.pointer e)):P.underlying t=some (.pointer (P.pointee t)):=by
  rw[hu]
  simp[Program.pointee,hu]
theorem rA (hx:dm f x= .pointer (some a)) (hy:dm f y= .pointer none) (hu:P.underlying t=some (.pointer e)):(execOp (dm f) ⟨d, .binOp .eql t x y t2,ty,ps,af,g⟩).run P w= .ok (.value (.bool false)) w:=by
  have h:=run_eql_pointer_nil w t (some a) (I5 hu)
  simp[execOp,hx,hy,eqGuard,h]
theorem WS {m n:Nat} {k:IntKind} {tys:Array TypeId} (hx:dm f x= .int k (m:Int)) (hy:dm f y= .int k (n:Int)):(execOp (dm f) ⟨d, .call ⟨.builtin .min,#[x,y],tys⟩,ty,ps,af,g⟩).run P w= .ok (.value (.int k ((min m n:Nat):Int))) w:=by
  simp[execOp,resolve,invoke,builtin,hx,hy,Builtin.min_,Builtin.min2]
  split<;>omega
theorem E3 {q:Nat} {a:Operand} {v:Value} (h:dm f a=v):
    (execOp (dm f) ⟨d, .makeFunc (.func q) #[a] #[],ty,ps,af,g⟩).run P w= .ok (.value (.func (.func q) #[v] #[])) w:=by
  simp[execOp,Instr.makeFunc,h]
theorem EU {cs:Array Value} {n sz:Nat} {v:Value} {k:IntKind} {i:Nat} (hx:dm f x= .agg cs) (hy:dm f y= .int k (i:Int)) (hu:P.underlying t=some (.array n e)) (hi:i<n) (hs:(sizeOf e).run P w= .ok sz w) (hp:(part e cs (i*sz)).run P w= .ok v w):
    (execOp (dm f) ⟨d, .index t x y,ty,ps,af,g⟩).run P w= .ok (.value v) w:=by
  simp[execOp,hx,hy,Instr.index,asIntOf,run_underlying hu,hi,hs,hp]
end
section
variable {P:Program} {fr:Nat→Value} {w:World} {d:Option Nat} {ty:TypeId} {ps:String} {af:Array Edge} {g:Option (Nat×Bool)} {x y:Operand} {t kt et:TypeId} {b:Nat}
variable {α β:Type} [DecidableEq α] {enc:α→Value} {encV:β→Value} {l:List (α×β)} {k:α} {S:Value→Prop}
theorem CE (hx:dm fr x= .map (some b)) (hy:dm fr y=enc k) (hT:na P t=some (kt,et)) (KO:qV P kt S) (hS:∀a,S (enc a)) (hi:∀a a',enc a=enc a'→a=a')
    (hz:d4 P et=some z0) (hz0:z0=encV v0) (hm:dy enc encV w b l):
    (execOp (dm fr) ⟨d, .lookup t x y true,ty,ps,af,g⟩).run P w= .ok (.value (.tuple #[encV ((iN l k).getD v0), .bool (iN l k).isSome])) w:=by
  subst hz0
  obtain⟨f,clock,hm⟩:=hm
  unfold d4 at hz
  obtain⟨i,hi2,hzz⟩:=we.1 hz
  rcases vL (P:=P) (kt:=kt) (encV:=encV) KO hS hi (f:=f) hm.nodup w k with ⟨h1,h2⟩|⟨j,v,h1,h2,h3⟩
  · rw[pV.2 h2]
    simp[execOp,hx,hy,Instr.lookup,run_underlying (iY hT),getObj,Sem.run,hm.heap,Result.andThen,KO.check w _ (hS k),h1,zeroValue,typeInfo,hi2,hzz]
  · rw[h3]
    simp[execOp,hx,hy,Instr.lookup,run_underlying (iY hT),getObj,Sem.run,hm.heap,Result.andThen,KO.check w _ (hS k),h1]
end
def PD (Ta Tn:TypeId) (N ba bm R bx:Nat) (res:(Nat→Prop)→(Nat→Prop)→Nat→Prop) (w:World) (ns:List Nd) (c l:Nat) (S:Nat→Prop) (v:Value) (w':World):Prop:=
  ∃(ns':List Nd) (id:Nat) (er:Int) (dl:List ((Nat×Nat)×Int)),v= .tuple #[.int .i64 (id:Int), .int .i64 er]∧Dx Tn N [bx,ba,bm] w w'∧fM Ta Tn N ba bm R w' ns'∧kc ns ns' R c l S id er∧dy qB eQ w' bx dl∧tF res ns' dl
theorem PD.dx (h:PD Ta Tn N ba bm R bx res w ns c l S v w'):Dx Tn N [bx,ba,bm] w w':=by
  obtain⟨_,_,_,_,_,h,_⟩:=h;exact h
section
variable {Ta Tn T:TypeId} {N N' ba bm R b bx sz:Nat} {w w':World} {ns:List Nd} {c:Array Value} {dl:List ((Nat×Nat)×Int)}
theorem adD (k:fM Ta Tn N ba bm R w ns) (hq:dy qB eQ w bx dl) (hx:Dx Tn N [bx,ba,bm] w w') (hm:At w b c T) (hTa:T≠Ta) (hTn:T≠Tn):At w' b c T:=by grind [At.dx3,adH]
theorem aea (k:Dx Tn N [ba,bm] w w'):Dx Tn N [bx,ba,bm] w w':=k.mono (λx hx=>abe _ hx)
end
end
section
def je (ns:List Nd) (id:Int):Bool:=decide (2≤id∧id<(ns.length:Int)+2)
theorem Z5 {id:Int} (h:¬2≤id):Value.bool false= .bool (je ns id):=congrArg Value.bool (decide_eq_false (λk=>h k.1)).symm
theorem YE {id:Int} (h:¬id-2<(ns.length:Int)):Value.bool false= .bool (je ns id):=congrArg Value.bool (decide_eq_false (λk=>h (by omega))).symm
theorem aa4 {id:Int} (h:2≤id) (h2:id-2<(ns.length:Int)):Value.bool (decide (¬((x:Nat):Int)= -1))= .bool (je ns id):=congrArg Value.bool (by
  rw[decide_eq_true (show ¬((x:Nat):Int)= -1 by omega)]
  exact(decide_eq_true ⟨h,by omega⟩).symm)
theorem aaC {id:Nat} (h:(id:Int)=0∨(id:Int)=1):Value.int .i64 24= .int .i64 ((d6 ns id:Nat):Int):=by
  grind [mn]
theorem abx {id:Nat} (h:¬(id:Int)=0) (h2:¬(id:Int)=1):Value.int .i64 (((ns.getD ((id:Int)-2).toNat oH).l:Nat):Int)= .int .i64 ((d6 ns id:Nat):Int):=by
  obtain⟨i,rfl⟩:∃i,id=i+2:=⟨id-2,by omega⟩
  grind [ku]
theorem VP {id:Nat} (hid:id<ns.length+2) (h:¬(id:Int)=0) (h2:¬(id:Int)=1) (h3:je ns (id:Int)=false):False:=by
  have:=of_decide_eq_false h3
  omega
def nc (ns:List Nd) (id:Int):Nd:=if je ns id=true then ns.getD (id-2).toNat oH else oH
theorem Ub {id:Int} (h:(!je ns id)=true):je ns id=false∧nc ns id=oH:=by
  grind [je,nc]
theorem Ri {id:Int} (h:(!je ns id)=false):je ns id=true∧nc ns id=ns.getD (id-2).toNat oH:=by
  grind [je,nc]
theorem pT {id:Int}:je ns id=true↔2≤id∧id<(ns.length:Int)+2:=decide_eq_true_iff
def vi (ns:List Nd) (id:Int):Int:=if 0≤id∧id<(ns.length:Int)+2 then ((d6 ns id.toNat:Nat):Int)else-1
theorem aab {id:Int} (h:id=0∨id=1):Value.int .i64 24= .int .i64 (vi ns id):=by
  unfold vi
  rw[if_pos ⟨by omega,by omega⟩,mn (by omega)];rfl
theorem abZ {id:Int} (h3:je ns id=true):Value.int .i64 (((nc ns id).l:Nat):Int)= .int .i64 (vi ns id):=by
  have h4:=pT.1 h3
  unfold nc vi
  rw[h3,if_pos rfl,if_pos ⟨by omega,by omega⟩]
  obtain⟨i,rfl⟩:∃i:Nat,id=((i+2:Nat):Int):=⟨(id-2).toNat,by omega⟩
  rw[my,ku,show (((i+2:Nat):Int)-2).toNat=i by omega]
theorem abO {id:Int} (h:¬id=0) (h2:¬id=1) (h3:je ns id=false):Value.int .i64 (-1)= .int .i64 (vi ns id):=by
  have:=of_decide_eq_false h3
  unfold vi
  grind
theorem FG {id:Nat} (h:id<ns.length+2):vi ns (id:Int)=((d6 ns id:Nat):Int):=by
  unfold vi
  grind
def pk (ns:List Nd) (id:Int):Bool:=decide (0≤id∧id<(ns.length:Int)+2)
theorem Nk {id:Int}:pk ns id=true↔0≤id∧id<(ns.length:Int)+2:=decide_eq_true_iff
theorem Y6 {id:Int} (h:vi ns id<0):¬pk ns id=true:=λk=>by
  have:=Nk.1 k
  unfold vi at h
  rw[if_pos this]at h
  omega
theorem VK {id:Int} (h:¬vi ns id<0):pk ns id=true:=by grind [Nk,vi]
theorem Rc {ns:List Nd} {li:List Int} {k:Nat} (hk:k<li.length) (h:vi ns (li.getD k 0)<0):Value.bool false= .bool (li.all (pk ns)):=congrArg Value.bool (Eq.symm (aaT.2 λq=>Y6 h (aa1.1 q _ (dF hk))))
theorem Rm {ns:List Nd} {li:List Int} {k:Nat} (hk:k=li.length) (h:∀q,q<k→pk ns (li.getD q 0)=true):Value.bool true= .bool (li.all (pk ns)):=by grind [List.all_eq_true,List.getElem_of_mem,List.getElem?_eq_getElem]
theorem We (h:Wf ns) (hs:(iN (ri ns) n).isSome=true):∃i,i<ns.length∧ns.getD i oH=n∧(iN (ri ns) n).getD 0=((i+2:Nat):Int):=by
  cases k:iN (ri ns) n with
  |none=>rw[k]at hs;cases hs
  |some v=>
    obtain⟨i,h1,h2,h3⟩:=Mg h.nd k
    exact⟨i,h1,h2,h3⟩
theorem XD (hs:(iN (ri ns) n).isSome=false):n∉ns:=by
  cases k:iN (ri ns) n with
  |none=>exact LN k
  |some v=>rw[k]at hs;cases hs
theorem Xv (h:Wf ns) {i l lo hi R c:Nat} (hi':i<ns.length) (hn:ns.getD i oH=⟨l,lo,hi⟩):kc ns ns R c l (up l (M ns lo) (M ns hi)) (i+2) 0:=by
  refine kc.same (by omega) (by rw[ku,hn];exact am _) λx=> ?_
  rw[jk h hi',hn,aaQ,abS]
  exact or_congr Iff.rfl ⟨λ⟨y,a,b⟩=>⟨y,a,b.symm⟩,λ⟨y,a,b⟩=>⟨y,a,b.symm⟩⟩
theorem V3 {l lo hi R:Nat} (hlo:lo<ns.length+2) (hhi:hi<ns.length+2):kc ns (ns++[⟨l,lo,hi⟩]) R 1 l (up l (M ns lo) (M ns hi)) (ns.length+2) 0:=by
  refine⟨List.prefix_append _ _,by simp, .inl ⟨rfl,by simp,?_,λx=> ?_⟩⟩
  · rw[ku,Do,acE (am _),Nat.sub_self]
    exact am _
  · rw[t7,aaQ,abS]
    exact or_congr Iff.rfl ⟨λ⟨y,a,b⟩=>⟨y,a,b.symm⟩,λ⟨y,a,b⟩=>⟨y,a,b.symm⟩⟩
theorem TS (h:R≤ns.length):kc ns ns R c l S 0 5:=⟨acO _,by omega, .inr ⟨rfl,rfl,h⟩⟩
theorem Lj {l lo hi:Nat} (h:(hi:Int)=0):∀x,x∈dz ns lo↔up l (M ns lo) (M ns hi) x:=λx=>by
  obtain rfl:hi=0:=by omega
  unfold up
  exact⟨.inl,λk=>k.elim _root_.id λ⟨y,hy,_⟩=>absurd hy (Na ns y)⟩
theorem BN {ns:List Nd} {f:Nat} (h:je ns (f:Int)=true):2≤f∧nc ns (f:Int)=ns.getD (f-2) oH∧d6 ns f=(nc ns (f:Int)).l:=by
  have h4:=pT.1 h
  unfold nc
  rw[h,if_pos rfl]
  obtain⟨i,rfl⟩:∃i,f=i+2:=⟨f-2,by omega⟩
  grind [ku]
theorem abf {ns:List Nd} {f l:Nat} (h:je ns (f:Int)=true) (hl:((nc ns (f:Int)).l:Int)=(l:Int)):Value.tuple #[.int .i64 ((nc ns (f:Int)).lo:Int), .int .i64 ((nc ns (f:Int)).hi:Int)]= .tuple #[.int .i64 ((dK ns f l:Nat):Int), .int .i64 ((ef ns f l:Nat):Int)]:=by
  obtain⟨h1,h2,h3⟩:=BN h
  unfold dK ef
  grind
theorem aat {ns:List Nd} {f l:Nat} (hf:f<ns.length+2) (h:¬(je ns (f:Int)=true∧((nc ns (f:Int)).l:Int)=(l:Int))):Value.tuple #[.int .i64 (f:Int), .int .i64 0]= .tuple #[.int .i64 ((dK ns f l:Nat):Int), .int .i64 ((ef ns f l:Nat):Int)]:=by
  unfold dK ef
  have hc:¬(2≤f∧d6 ns f=l):=λ⟨a,b⟩=>h (by
    have ht:je ns (f:Int)=true:=pT.2 (by omega)
    obtain⟨_,_,h3⟩:=BN ht
    exact⟨ht,by omega⟩)
  grind
end
section
theorem NX (h:(!b)=true):b=false:=by grind
theorem Th {a b:Nat}:decide ((a:Int)=(b:Int))=decide (a=b):=by
  grind
theorem ZP {f g:Nat} (h:(f:Int)=0∨(f:Int)=(g:Int)):Value.tuple #[.int .i64 (g:Int), .bool true]= .tuple #[.int .i64 ((pW.ends f g).1:Int), .bool (pW.ends f g).2]:=by
  have e:pW.ends f g=(g,true):=if_pos (by omega)
  rw[e]
theorem abV {f g:Nat} (h:¬(f:Int)=0) (h2:¬(f:Int)=(g:Int)):Value.tuple #[.int .i64 (f:Int), .bool (decide ((g:Int)=0))]= .tuple #[.int .i64 ((pW.ends f g).1:Int), .bool (pW.ends f g).2]:=by
  have e:pW.ends f g=(f,decide (g=0)):=if_neg (by omega)
  simp_all
theorem YP {f g:Nat} (h:(f:Int)=0∨(f:Int)=(g:Int)):Value.tuple #[.int .i64 0, .bool true]= .tuple #[.int .i64 ((xy.ends f g).1:Int), .bool (xy.ends f g).2]:=by
  have e:xy.ends f g=(0,true):=if_pos (by omega)
  rw[e];rfl
theorem abQ {f g:Nat} (h:¬(f:Int)=0) (h2:¬(f:Int)=(g:Int)):Value.tuple #[.int .i64 (f:Int), .bool (decide ((g:Int)=0))]= .tuple #[.int .i64 ((xy.ends f g).1:Int), .bool (xy.ends f g).2]:=by
  have e:xy.ends f g=(f,decide (g=0)):=if_neg (by omega)
  simp_all
theorem Z0 {f g:Nat} (h:(f:Int)=0∨(g:Int)=0):Value.tuple #[.int .i64 0, .bool true]= .tuple #[.int .i64 ((rG.ends f g).1:Int), .bool (rG.ends f g).2]:=by
  have e:rG.ends f g=(0,true):=if_pos (by omega)
  rw[e];rfl
theorem abz {f g:Nat} (h:¬(f:Int)=0) (h2:¬(g:Int)=0) (h3:(f:Int)=1):Value.tuple #[.int .i64 (g:Int), .bool true]= .tuple #[.int .i64 ((rG.ends f g).1:Int), .bool (rG.ends f g).2]:=by
  have e:rG.ends f g=(g,true):=(if_neg (by omega)).trans (if_pos (by omega))
  rw[e]
theorem abs {f g:Nat} (h:¬(f:Int)=0) (h2:¬(g:Int)=0) (h3:¬(f:Int)=1):Value.tuple #[.int .i64 (f:Int), .bool (decide ((g:Int)=1))]= .tuple #[.int .i64 ((rG.ends f g).1:Int), .bool (rG.ends f g).2]:=by
  have e:rG.ends f g=(f,decide (g=1)):=(if_neg (by omega)).trans (if_neg (by omega))
  grind [Th]
theorem kc.low {id:Nat} (g:kc ns ns' R c l S id er) (h:l2≤l):kc ns ns' R c l2 S id er:=
  ⟨g.pre,g.cost,g.res.imp (λ⟨a,b,d,e⟩=>⟨a,b,by omega,e⟩) _root_.id⟩
theorem kc.cheap {id:Nat} (g:kc ns ns' R c l S id er) (h:c≤c2):kc ns ns' R c2 l S id er:=g.weak h (λ_=>Iff.rfl)
theorem QB {dl:List ((Nat×Nat)×Int)} (h:tF res ns dl) (hs:(iN dl (f,g)).isSome=true):
    ∃id:Nat,(iN dl (f,g)).getD 0=(id:Int)∧id<ns.length+2∧min (d6 ns f) (d6 ns g)≤d6 ns id∧∀x,x∈dz ns id↔res (M ns f) (M ns g) x:=by
  cases k:iN dl (f,g)with
  |none=>rw[k]at hs;cases hs
  |some v=>
    obtain⟨id,h1,h2,h3,h4⟩:=(h _ (Fo k)).id
    exact⟨id,h1,h2,h3,h4⟩
theorem PK {res:(Nat→Prop)→(Nat→Prop)→Nat→Prop} {ns ns':List Nd} {dl:List ((Nat×Nat)×Int)} {f g id l R c:Nat} {er:Int} (h:tF res ns' dl) (hf:f<ns.length+2) (hg:g<ns.length+2) (hl:min (d6 ns f) (d6 ns g)=l) (hgot:kc ns ns' R c l (res (M ns f) (M ns g)) id er) (he:er=0):tF res ns' (iM dl (f,g) (id:Int)):=λp hp=>by
  rcases Nj hp with hp|rfl
  · exact h p hp
  · obtain⟨v1,v2,v3⟩:=hgot.ok he
    obtain⟨a1,a2,a3⟩:=hgot.old hf
    obtain⟨b1,b2,b3⟩:=hgot.old hg
    refine⟨a1,b1,id,rfl,v1,by rw[a3,b3,hl];exact v2,?_⟩
    rw[jj hgot.pre hf,jj hgot.pre hg]
    exact v3
theorem tF.nil:tF res ns []:=λp h=>by cases h
theorem jB:∀{l1 l2:List Nat},l1.Nodup→(∀x,x∈l1→x∈l2)→l1.length≤l2.length
  |[],_,_,_=>me _
  |x::xs,l2,hn,hs=>by
    obtain⟨h1,h2⟩:=List.nodup_cons.1 hn
    have hx:=hs x (aaZ ..)
    have:=jB (l2:=l2.erase x) h2 (λy hy=>(List.mem_erase_of_ne (λ(e:y=x)=>h1 (e▸hy))).2 (hs y (abe _ hy)))
    rw[ado hx]at this
    have hp:=acl hx
    rw[aaW];omega
theorem Ml (h:Wf ns') {id a b:Nat} (hid:id<ns'.length+2) (hs:∀x,x∈dz ns' id→oA (M ns a) (M ns b) x):(dz ns' id).length≤(dz ns a).length*(dz ns b).length:=by
  have h1:=jB (l2:=(dz ns a).flatMap λx=>(dz ns b).map λy=>x ||| y) (kU h id hid) (λx hx=>by
    obtain⟨p,q,hp,hq,rfl⟩:=hs x hx
    exact List.mem_flatMap.2 ⟨p,hp,abS.2 ⟨q,hq,rfl⟩⟩)
  have h2:∀(l:List Nat),(l.flatMap λx=>(dz ns b).map λy=>x ||| y).length=l.length*(dz ns b).length:=λl=>by
    induction l with
    |nil=>simp
    |cons x l ih=>rw[ach,An,acj,ih,aaW,act];omega
  grind
def EK (f0 f1 i:Nat):Nat:=[f1,f0,f1].getD i 0
def EL (g0 g1 i:Nat):Nat:=[g0,g1,g1].getD i 0
def JU (A0 A1 B0 B1:Nat→Prop) (i:Nat) (x:Nat):Prop:=(1≤i∧oA A1 B0 x)∨(2≤i∧oA A0 B1 x)∨(3≤i∧oA A1 B1 x)
def jsz (a0 a1 b0 b1:Nat):Nat→Nat
  |0=>0
  |1=>a1*b0
  |2=>a1*b0+a0*b1
  |_=>a1*b0+a0*b1+a1*b1
def QK (ns:List Nd) (l f0 f1 g0 g1:Nat):Nat→Nat
  |0=>0
  |1=>ro ns f1 g0
  |2=>ro ns f1 g0+ro ns f0 g1+(kJ ns f0 f1 g0 g1-(l+1))*min ((dz ns f1).length*(dz ns g0).length) ((dz ns f0).length*(dz ns g1).length)
  |_=>ro ns f1 g0+ro ns f0 g1+ro ns f1 g1+QN ns l f0 f1 g0 g1
theorem aa5 (A0 A1 B0 B1:Nat→Prop) (ns:List Nd) (x:Nat):x∈dz ns 0↔JU A0 A1 B0 B1 0 x:=by
  grind [oe,JU]
theorem abc (A0 A1 B0 B1:Nat→Prop) (x:Nat):JU A0 A1 B0 B1 3 x↔rG.resH A0 A1 B0 B1 x:=by
  unfold JU rG
  simp
theorem abF (hi:i<3) (hP:P=[A1,A0,A1].getD i A0) (hQ:Q=[B0,B1,B1].getD i B0) (x:Nat):(JU A0 A1 B0 B1 i x∨oA P Q x)↔JU A0 A1 B0 B1 (i+1) x:=by
  grind [JU]
theorem Ph (hi:i<3):QK ns l f0 f1 g0 g1 i+(ro ns (EK f0 f1 i) (EL g0 g1 i)+(kJ ns f0 f1 g0 g1-(l+1))*min (jsz (dz ns f0).length (dz ns f1).length (dz ns g0).length (dz ns g1).length i) ((dz ns (EK f0 f1 i)).length*(dz ns (EL g0 g1 i)).length))=QK ns l f0 f1 g0 g1 (i+1):=by
  have:i=0∨i=1∨i=2:=by omega
  rcases this with rfl|rfl|rfl
  · show 0+(ro ns f1 g0+_*min 0 _)=ro ns f1 g0
    rw[Nat.zero_min,Nat.mul_zero];omega
  · show ro ns f1 g0+(ro ns f0 g1+_*min _ _)=ro ns f1 g0+ro ns f0 g1+_*min _ _
    exact(Nat.add_assoc _ _ _).symm
  · show ro ns f1 g0+ro ns f0 g1+(kJ ns f0 f1 g0 g1-(l+1))*min ((dz ns f1).length*(dz ns g0).length) ((dz ns f0).length*(dz ns g1).length)+(ro ns f1 g1+(kJ ns f0 f1 g0 g1-(l+1))*min ((dz ns f1).length*(dz ns g0).length+(dz ns f0).length*(dz ns g1).length) ((dz ns f1).length*(dz ns g1).length))=ro ns f1 g0+ro ns f0 g1+ro ns f1 g1+QN ns l f0 f1 g0 g1
    unfold QN uJ
    omega
theorem U6 (ns:List Nd) (l f0 f1 g0 g1:Nat) (h:i≤3):QK ns l f0 f1 g0 g1 i≤QK ns l f0 f1 g0 g1 3:=by
  have s0:=Ph (ns:=ns) (l:=l) (f0:=f0) (f1:=f1) (g0:=g0) (g1:=g1) (show 0<3 by decide)
  have s1:=Ph (ns:=ns) (l:=l) (f0:=f0) (f1:=f1) (g0:=g0) (g1:=g1) (show 1<3 by decide)
  have s2:=Ph (ns:=ns) (l:=l) (f0:=f0) (f1:=f1) (g0:=g0) (g1:=g1) (show 2<3 by decide)
  simp only[acA,Nat.reduceAdd]at s0 s1 s2
  have:i=0∨i=1∨i=2∨i=3:=by omega
  grind
theorem Yk (hi:i<3):QK ns l f0 f1 g0 g1 i+ro ns (EK f0 f1 i) (EL g0 g1 i)≤QK ns l f0 f1 g0 g1 3:=by
  grind [Nat.le_trans,U6,Ph]
theorem Aj (F G:List Nat):(F.flatMap λx=>G.map λy=>x ||| y).length=F.length*G.length:=by
  induction F with
  |nil=>simp
  |cons x F ih=>rw[ach,An,acj,ih,aaW,act,abJ];omega
theorem Al {F G:List Nat} {x:Nat} (h:oA (·∈F) (·∈G) x):x∈F.flatMap λx=>G.map λy=>x ||| y:=by
  obtain⟨p,q,hp,hq,rfl⟩:=h
  grind
theorem RU {ns nsc:List Nd} (h:Wf nsc) {f0 f1 g0 g1 i out:Nat} (ho:out<nsc.length+2) (hi:i<3) (hs:∀x,x∈dz nsc out→JU (M ns f0) (M ns f1) (M ns g0) (M ns g1) i x):(dz nsc out).length≤jsz (dz ns f0).length (dz ns f1).length (dz ns g0).length (dz ns g1).length i:=by
  have hn:=kU h out ho
  have:i=0∨i=1∨i=2:=by omega
  rcases this with rfl|rfl|rfl
  · have:=jB (l2:=[]) hn (λx hx=>by
      have:=hs x hx
      unfold JU at this
      omega)
    exact this
  · have:=jB (l2:=(dz ns f1).flatMap λx=>(dz ns g0).map λy=>x ||| y) hn (λx hx=>by
      rcases hs x hx with h|h|h
      · exact Al h.2
      · omega
      · omega)
    rwa [Aj]at this
  · have:=jB (l2:=((dz ns f1).flatMap λx=>(dz ns g0).map λy=>x ||| y)++((dz ns f0).flatMap λx=>(dz ns g1).map λy=>x ||| y)) hn (λx hx=>by
      rcases hs x hx with h|h|h
      · exact aaQ.2 (.inl (Al h.2))
      · exact aaQ.2 (.inr (Al h.2))
      · omega)
    rwa [An,Aj,Aj]at this
theorem ym (hf:tp ns f≤K) (hg:tp ns g≤K) (h:oA (M ns f) (M ns g) x):x<2^K:=by
  obtain⟨a,b,ha,hb,rfl⟩:=h
  exact Nat.or_lt_two_pow (mO.1 hf a ha) (mO.1 hg b hb)
theorem X6 {f0 f1 g0 g1 i out:Nat} (hs:∀x,x∈dz nsc out→JU (M ns f0) (M ns f1) (M ns g0) (M ns g1) i x):tp nsc out≤kJ ns f0 f1 g0 g1:=mO.2 λx hx=>by
  have k:tp ns f0≤kJ ns f0 f1 g0 g1∧tp ns f1≤kJ ns f0 f1 g0 g1∧tp ns g0≤kJ ns f0 f1 g0 g1∧tp ns g1≤kJ ns f0 f1 g0 g1:=by unfold kJ;omega
  rcases hs x hx with h|h|h
  · exact ym k.2.1 k.2.2.1 h.2
  · exact ym k.1 k.2.2.2 h.2
  · exact ym k.2.1 k.2.2.2 h.2
theorem sr (hi:i<3) (f0 f1:Nat):EK f0 f1 i=f0∨EK f0 f1 i=f1:=by
  have:i=0∨i=1∨i=2:=by omega
  rcases this with rfl|rfl|rfl
  · exact .inr rfl
  · exact .inl rfl
  · exact .inr rfl
theorem rL (hi:i<3) (g0 g1:Nat):EL g0 g1 i=g0∨EL g0 g1 i=g1:=by
  have:i=0∨i=1∨i=2:=by omega
  rcases this with rfl|rfl|rfl
  · exact .inl rfl
  · exact .inr rfl
  · exact .inr rfl
theorem Ww {R l i f0 f1 g0 g1 out id id2:Nat} (hw:Wf ns) (hcw:Wf nsc) (h1w:Wf ns1) (hi:i<3) (hl:l<24)
    (v0:f0<ns.length+2) (v1:f1<ns.length+2) (v2:g0<ns.length+2) (v3:g1<ns.length+2) (k0:l<d6 ns f0) (k1:l<d6 ns f1) (k2:l<d6 ns g0) (k3:l<d6 ns g1)
    (g:kc ns nsc R (QK ns l f0 f1 g0 g1 i) (l+1) (JU (M ns f0) (M ns f1) (M ns g0) (M ns g1) i) out 0)
    (gd:kc nsc ns1 R (rG.cst nsc (EK f0 f1 i) (EL g0 g1 i)) (min (d6 nsc (EK f0 f1 i)) (d6 nsc (EL g0 g1 i))) (rG.res (M nsc (EK f0 f1 i)) (M nsc (EL g0 g1 i))) id 0)
    (gu:kc ns1 ns2 R (pW.cst ns1 out id) (min (d6 ns1 out) (d6 ns1 id)) (pW.res (M ns1 out) (M ns1 id)) id2 er2):
    kc ns ns2 R (QK ns l f0 f1 g0 g1 (i+1)) (l+1) (JU (M ns f0) (M ns f1) (M ns g0) (M ns g1) (i+1)) id2 er2:=by
  obtain⟨o1,o2,o3⟩:=g.ok rfl
  obtain⟨d1,d2,d3⟩:=gd.ok rfl
  obtain⟨q1,q2,q3⟩:=gd.old o1
  have hpx:EK f0 f1 i<ns.length+2:=by rcases sr hi f0 f1 with e|e<;>rw[e]<;>assumption
  have hpy:EL g0 g1 i<ns.length+2:=by rcases rL hi g0 g1 with e|e<;>rw[e]<;>assumption
  have hlx:l<d6 ns (EK f0 f1 i):=by rcases sr hi f0 f1 with e|e<;>rw[e]<;>assumption
  have hly:l<d6 ns (EL g0 g1 i):=by rcases rL hi g0 g1 with e|e<;>rw[e]<;>assumption
  obtain⟨x1,x2,x3⟩:=g.old hpx
  obtain⟨y1,y2,y3⟩:=g.old hpy
  have hc:=Ml (ns:=nsc) h1w d1 (λx hx=>(d3 x).1 hx)
  rw[x2,y2]at hc
  have hco:=RU hcw o1 hi (λx hx=>(o3 x).1 hx)
  have hto:tp ns1 out≤kJ ns f0 f1 g0 g1:=by rw[P3 gd.pre o1];exact X6 (λx hx=>(o3 x).1 hx)
  have htd:tp ns1 id≤kJ ns f0 f1 g0 g1:=mO.2 λx hx=>by
    have h:=(d3 x).1 hx
    rw[jj g.pre hpx,jj g.pre hpy]at h
    refine ym ?_ ?_ h
    · unfold kJ;rcases sr hi f0 f1 with e|e<;>rw[e]<;>omega
    · unfold kJ;rcases rL hi g0 g1 with e|e<;>rw[e]<;>omega
  have eu:pW.cst ns1 out id≤(kJ ns f0 f1 g0 g1-(l+1))*min (jsz (dz ns f0).length (dz ns f1).length (dz ns g0).length (dz ns g1).length i) ((dz ns (EK f0 f1 i)).length*(dz ns (EL g0 g1 i)).length):=by
    refine go (RI h1w Iw.endF q1 d1 hto htd) ?_
    rw[x3,y3]at d2
    rw[q3,q2]
    exact adf (by omega) (by omega)
  have ed:rG.cst nsc (EK f0 f1 i) (EL g0 g1 i)=ro ns (EK f0 f1 i) (EL g0 g1 i):=DR g.pre hw hpx hpy
  rw[ed]at gd
  refine(((g.then' gd (am _)).then' gu (am _)).weak (c:=QK ns l f0 f1 g0 g1 (i+1)) ?_ λx=> ?_).low (by rw[x3,y3]at d2;omega)
  · rw[←Ph hi]
    omega
  · have ePx:([M ns f1,M ns f0,M ns f1].getD i (M ns f0))=M ns (EK f0 f1 i):=by
      have:i=0∨i=1∨i=2:=by omega
      rcases this with rfl|rfl|rfl<;>rfl
    have ePy:([M ns g0,M ns g1,M ns g1].getD i (M ns g0))=M ns (EL g0 g1 i):=by
      have:i=0∨i=1∨i=2:=by omega
      rcases this with rfl|rfl|rfl<;>rfl
    rw[←abF hi rfl rfl,ePx,ePy]
    refine or_congr ?_ ?_
    · show x∈dz ns1 out↔_
      rw[q2];exact o3 x
    · rw[←jj g.pre hpx,←jj g.pre hpy]
      exact d3 x
end
section
theorem E6:((n/2^l &&& 1:Nat):Int)=1↔n.testBit l=true:=by
  grind
section
variable {P:Program} {f:Nat→Value} {w:World} {d:Option Nat} {ty:TypeId} {ps:String} {af:Array Edge} {g:Option (Nat×Bool)} {x y:Operand} {t t2:TypeId}
theorem Xx (hx:dm f x= .int .i64 a) (hy:dm f y= .int yk b) (h0:0≤a) (hb:0≤b) (hl:b≤64):(execOp (dm f) ⟨d, .binOp .shr t x y t2,ty,ps,af,g⟩).run P w= .ok (.value (.int .i64 ((a.toNat/2^b.toNat:Nat):Int))) w:=by
  obtain⟨m,rfl⟩:=ab2 h0
  rw[ra hx hy hb (by simpa [IntKind.bits] using hl),my]
end
def Vi (n l:Nat):Nat:=n/2^l*2^l
theorem Yg (n l:Nat):Vi n l=Vi n (l+1)+(if n.testBit l then 2^l else 0):=by
  unfold Vi
  have e:n/2^(l+1)=n/2^l/2:=by rw[Nat.div_div_eq_div_mul,acF]
  have hb:n.testBit l=decide (n/2^l%2=1):=acD
  rw[e,hb,acF]
  have h2:=Nat.div_add_mod (n/2^l) 2
  generalize n/2^l=q at*
  generalize 2^l=p at*
  by_cases h:q%2=1
  · rw[if_pos (decide_eq_true h)]
    rw[h]at h2
    conv=>lhs;rw[←h2]
    rw[act,abJ]
    congr 1
    rw[acW 2,Nat.mul_assoc,acW 2 p]
  · have h0:q%2=0:=by omega
    grind
theorem M3 (h:n<2^24):Vi n 24=0:=by
  unfold Vi;rw[Nat.div_eq_of_lt h,acV]
theorem KX (n:Nat):Vi n 0=n:=by unfold Vi;simp
def bS (l:List Int) (lv:Nat) (x:Nat):Prop:=∃m,m∈l∧x=Vi m.toNat lv
def Cc (l:List Int) (lv k:Nat):List Int:=(l.take k).filter λm=> !m.toNat.testBit lv
def BT (l:List Int) (lv k:Nat):List Int:=(l.take k).filter λm=>m.toNat.testBit lv
theorem P5 {l:List Int} {k:Nat} (h:k<l.length):l.take (k+1)=l.take k++[l.getD k 0]:=by
  simp_all
theorem aah {l:List Int} {lv k:Nat} (h:k<l.length) (hb:(l.getD k 0).toNat.testBit lv=true):BT l lv k++[l.getD k 0]=BT l lv (k+1)∧Cc l lv k=Cc l lv (k+1):=by
  unfold BT Cc
  rw[P5 h,adw,adw]
  grind
theorem aav {l:List Int} {lv k:Nat} (h:k<l.length) (hb:¬(l.getD k 0).toNat.testBit lv=true):Cc l lv k++[l.getD k 0]=Cc l lv (k+1)∧BT l lv k=BT l lv (k+1):=by
  have hb2:(l.getD k 0).toNat.testBit lv=false:=aaT.2 hb
  unfold BT Cc
  rw[P5 h,adw,adw]
  grind
theorem PF (l:List Int) (lv:Nat):∀k,(Cc l lv k).length+(BT l lv k).length=(l.take k).length:=λk=>by
  unfold Cc BT
  generalize l.take k=q
  induction q with
  |nil=>rfl
  |cons a q ih=>
    simp only[List.filter_cons]
    cases a.toNat.testBit lv<;>simp<;>omega
theorem Vo (h:m∈Cc l lv k):m∈l:=List.mem_of_mem_take (ac4.1 h).1
theorem Vu (h:m∈BT l lv k):m∈l:=List.mem_of_mem_take (ac4.1 h).1
theorem M5 (l:List Int) (lv x:Nat):up lv (bS (Cc l lv l.length) (lv+1)) (bS (BT l lv l.length) (lv+1)) x↔bS l lv x:=by
  unfold up bS Cc BT
  grind [List.take_length,Yg]
def QM:Nat→Nat→Nat→Nat
  |0,_,_=>0
  |n+1,lv,m=>(if m.testBit lv=true then 1 else 0)+QM n (lv+1) m
def yA (lv:Nat):List Int→Nat
  |[]=>0
  |m::l=>QM (24-lv) lv m.toNat+yA lv l
theorem Fl (h24:lv<24) (l:List Int):yA lv l=yA (lv+1) (l.filter λm=> !m.toNat.testBit lv)+yA (lv+1) (l.filter λm=>m.toNat.testBit lv)+(l.filter λm=>m.toNat.testBit lv).length:=by
  induction l with
  |nil=>rfl
  |cons m l ih=>
    obtain⟨n,hn⟩:∃n,24-lv=n+1:=⟨24-lv-1,by omega⟩
    have e:24-(lv+1)=n:=by omega
    have h1:yA lv (m::l)=(if m.toNat.testBit lv=true then 1 else 0)+QM n (lv+1) m.toNat+yA lv l:=by rw[yA,hn,QM]
    rw[h1,ih]
    cases hb:m.toNat.testBit lv
    · simp only[List.filter_cons,hb,Bool.not_false,if_true,acZ,if_false,yA,e];omega
    · simp only[List.filter_cons,hb,Bool.not_true,if_true,acZ,if_false,yA,e,aaW];omega
theorem OP:∀(l:List Int),yA 0 l≤24*l.length
  |[]=>me _
  |m::l=>by
    have ih:=OP l
    have h1:∀n lv,QM n lv m.toNat≤n:=λn=>by
      induction n with
      |zero=>intro lv;exact me _
      |succ n ih=>intro lv;have:=ih (lv+1);rw[QM];split<;>omega
    have h2:=h1 (24-0) 0
    rw[yA,aaW,Nat.mul_add,acQ]
    omega
theorem Mu {ns ns1 ns2 ns3:List Nd} {l:List Int} {R lv low high id:Nat} {er:Int} (h2w:Wf ns2) (h24:lv<24) (hl:1≤l.length)
    (g1:kc ns ns1 R (yA (lv+1) (Cc l lv l.length)) (lv+1) (bS (Cc l lv l.length) (lv+1)) low 0) (g2:kc ns1 ns2 R (yA (lv+1) (BT l lv l.length)) (lv+1) (bS (BT l lv l.length) (lv+1)) high 0)
    (g3:kc ns2 ns3 R (min high 1) lv (up lv (M ns2 low) (M ns2 high)) id er):kc ns ns3 R (yA lv l) lv (bS l lv) id er:=by
  obtain⟨v1,_,m1⟩:=g1.ok rfl
  obtain⟨v2,_,m2⟩:=g2.ok rfl
  refine((g1.then' g2 (am _)).then' g3 (am _)).weak ?_ λx=> ?_
  · have hs:=Fl h24 l
    have ew:Cc l lv l.length=l.filter λm=> !m.toNat.testBit lv:=by unfold Cc;rw[aaY]
    have ei:BT l lv l.length=l.filter λm=>m.toNat.testBit lv:=by unfold BT;rw[aaY]
    rw[←ew,←ei]at hs
    by_cases h0:high=0
    · subst h0;omega
    · obtain⟨y,hy⟩:=jc h2w high v2 h0
      obtain⟨m,hm,_⟩:=(m2 y).1 hy
      have:=acl hm
      omega
  · rw[←M5 l lv x,show M ns2 low=bS (Cc l lv l.length) (lv+1)by rw[jj g2.pre v1];exact fK m1,show M ns2 high=bS (BT l lv l.length) (lv+1) from fK m2]
theorem Qf (h24:lv<24):yA (lv+1) (Cc l lv l.length)+yA (lv+1) (BT l lv l.length)≤yA lv l:=by
  grind [Cc,BT,List.take_length,Fl]
theorem TK (h:¬(1≤l.length)) (x:Nat):x∈dz ns 0↔bS l lv x:=by
  rw[oe]
  have:l=[]:=ab4 (by omega)
  subst this
  exact⟨λh=>(by cases h),λ⟨m,h,_⟩=>(by cases h)⟩
theorem T7 (h:1≤l.length) (hm:∀m,m∈l→0≤m∧m<16777216) (x:Nat):x∈dz ns 1↔bS l 24 x:=by
  rw[qK,aaG]
  constructor
  · rintro rfl
    obtain⟨m,hm2⟩:=List.exists_mem_of_length_pos (show 0<l.length by omega)
    exact⟨m,hm2,(M3 (by have:=hm m hm2;omega)).symm⟩
  · rintro⟨m,h2,rfl⟩
    grind [M3]
theorem Nf (h:Wf ns') {id a:Nat} (hid:id<ns'.length+2) (hs:∀x,x∈dz ns' id→x∈dz ns a):(dz ns' id).length≤(dz ns a).length:=jB (kU h id hid) hs
def lsS (F:Nat→Prop) (x:Nat):Prop:=F x∧∀y,F y→HA x y→y=x
def acd (ns:List Nd) (id:Int):Int:=if pk ns id=true then (((dz ns id.toNat).length:Nat):Int)else 0
def I9 (l:List Int):Bool:=l.all λm=>decide (0≤m∧m<16777216)
theorem vJ:I9 l=true↔∀m,m∈l→0≤m∧m<16777216:=by
  unfold I9
  grind
theorem UE (hk:k<l.length) (h:l.getD k 0<0∨16777216≤l.getD k 0):I9 l=false:=aaT.2 λq=>by
  have:=vJ.1 q _ (dF (d:=0) hk)
  omega
theorem RD (hk:k=l.length) (h:∀q,q<k→0≤l.getD q 0∧l.getD q 0<16777216):I9 l=true:=by grind [vJ,List.getElem_of_mem,List.getElem?_eq_getElem]
def PE (Ta Tn:TypeId) (N ba bm R:Nat) (w:World) (ns:List Nd) (ok:Bool) (c l:Nat) (S:Nat→Prop) (v:Value) (w':World):Prop:=
  ∃(ns':List Nd) (id:Nat) (er:Int),v= .tuple #[.int .i64 (id:Int), .int .i64 er]∧Dx Tn N [ba,bm] w w'∧fM Ta Tn N ba bm R w' ns'∧((ok=true∧kc ns ns' R c l S id er)∨(ok=false∧ns'=ns∧id=0∧er=1))
end
end
section
section
theorem vbf (h:¬b=true):Value.bool false= .bool b:=by grind
def Inc (l:List Int):Prop:=l.Pairwise λa b=>a<b
def U0:List Int→Int→List Int
 |[],m=>[m]
 |x::xs,m=>if x<m then x::U0 xs m else if x=m then x::xs else m::x::xs
def YG (l:List Int):Nat→List Int
 |0=>[]
 |k+1=>U0 (YG l k) (l.getD k 0)
def ofI (l:List Int):List Int:=YG l l.length
def Yc (ns:List Nd) (f:Nat):List Int:=ofI ((dz ns f).map λx:Nat=>(x:Int))
end
section
structure aca (ns ns':List Nd) (c:Nat) (S:Nat→Prop) (id:Nat):Prop where
 v:id<ns'.length+2
 mem:∀x,x∈dz ns' id↔S x
 pre:ns<+:ns'
 cost:ns'.length≤ns.length+c
theorem kc.valid {id:Nat} (g:kc ns ns' R c l S id er):id<ns'.length+2:=by
 rcases g.res with ⟨_,h2,_⟩|⟨_,h2,_⟩<;>omega
theorem Oc (h:Wf ns') {id a b:Nat} (hid:id<ns'.length+2) (hs:∀x,x∈dz ns' id→x∈dz ns a∨x∈dz ns b):(dz ns' id).length≤(dz ns a).length+(dz ns b).length:=by
 have:=jB (l2:=dz ns a++dz ns b) (kU h id hid) (λx hx=>aaQ.2 (hs x hx))
 grind
def TyS (T:TypeId) (w:World) (v:Value) (l:List Int):Prop:=l≠[]→∃c fr,w.heap[Bx v]? =some (.cells c T fr)
def ab1 (F G:List Int) (b:Bool):List Int:=F.filter λx=>decide (x∈G)==b
def leB (l:List Int) (i k:Nat):Bool:=(List.range k).all λq=>decide (q=i)|| !decide (((l.getD i 0).toNat ||| (l.getD q 0).toNat:Nat)=(l.getD i 0).toNat)
def aa0 (l:List Int) (k:Nat):List Int:=((List.range k).filter λi=>leB l i l.length).map λi=>l.getD i 0
end
section
structure Is (ns:List Nd) (a:Nat) (F:List Int):Prop where
 v:a<ns.length+2
 s:Yc ns a=F
section
variable {ns ns':List Nd} {a b id R c l:Nat} {A B f g:List Int} {er:Int}
theorem Is.pre (h:Is ns a A) (p:ns<+:ns'):Is ns' a A:=by
 have e:=h.s
 refine⟨by have:=gt p;have:=h.v;omega,?_⟩
 unfold Yc at e ⊢
 rw[jA p h.v]
 exact e
end
section
variable {ns ns':List Nd} {a b id R c l n:Nat} {A B f g:List Int} {er:Int}
theorem UH {ok:Bool} (q:(ok=true∧kc ns ns' R c l S id er)∨(ok=false∧ns'=ns∧id=0∧er=1)) (h:ok=true):kc ns ns' R c l S id er:=by
 grind
theorem V9 (hj:j<24):I9 [((2^j:Nat):Int)]=true:=vJ.2 λm hm=>by
 rw[aaG.1 hm]
 have h1:2^j≤8388608:=by have:=aaV (show 0<2 by decide) (show j≤23 by omega);simpa using this
 have h2:=ace j
 omega
end
theorem IH (u0 u1 u2:Value) (z:Array Value) (h0:u0.cells= #[u0]) (h1:u1.cells= #[u1]) (h2:u2.cells= #[u2]) (hz:z.size=3):Instr.fill (λi=>some (i*1,1)) z [(0,u0),(1,u1),(2,u2)]=some #[u0,u1,u2]:=by
 rw[fU 1 0 u0 _ z (by rw[h0];rfl) (by omega),fU 1 1 u1 _ _ (by rw[h1];rfl) (by simp[h0];omega),fU 1 2 u2 _ _ (by rw[h2];rfl) (by simp[h0,h1];omega),Instr.fill,h0,h1,h2]
 simp_all
section
variable {P:Program} {f:Nat→Value} {w w':World} {d:Option Nat} {ty:TypeId} {ps:String} {af:Array Edge} {g:Option (Nat×Bool)} {t e T:TypeId} {by_ N sz b:Nat} {K:Value→World→Prop}
theorem VY (hx0:dm f x0=u0) (hx1:dm f x1=u1) (hx2:dm f x2=u2) (hT:fj P t=some (e,1,by_)) (hz:(d4 P e).map (λz=>z.cells.size)=some 1) (h0:u0.cells= #[u0]) (h1:u1.cells= #[u1]) (h2:u2.cells= #[u2])
  (hK:∀b w',b=w.heap.size→dA w w'→At w' b #[u0,u1,u2] e→K (.slice (some ⟨b,0,none⟩) 3 3) w'):Yd P ⟨d, .buildSlice t 3 #[(0,x0),(1,x1),(2,x2)],ty,ps,af,g⟩ f w K:=by
 obtain⟨z,hz,hzs⟩:=an.1 hz
 unfold d4 at hz
 obtain⟨i,hi,hzz⟩:=we.1 hz
 unfold fj at hT
 cases hun:P.underlying t with
 |none=>simp[hun]at hT
 |some desc=>
  cases desc<;>simp[hun]at hT
  rename_i e'
  obtain⟨i',hi',rfl,q1,rfl⟩:=hT
  obtain rfl:i'=i:=by rw[hi]at hi';exact(aaK hi').symm
  refine .val (w':=w.alloc (.cells #[u0,u1,u2] e')) ?_ (hK w.heap.size _ rfl (dA.alloc w _) (lZ w _ _))
  have hf:=IH u0 u1 u2 ((Array.range (3*1)).map (z.cells[·%z.cells.size]!)) h0 h1 h2 fF
  simp only[acQ]at hf
  simp[execOp,hx0,hx1,hx2,Instr.buildSlice,run_underlying hun,sizeOf,typeInfo,hi,q1,zeroValue,hzz,newRow,hf]
end
end
end
section
def P2 (Q:Exit→(Nat→Value)→World→Prop):Exit→(Nat→Value)→World→Prop
 | .goto _=>λ_ _=>False
 |e=>Q e
section
variable {P:Program} {n:Nat} {Q Q':Exit→(Nat→Value)→World→Prop} {f:Nat→Value} {w:World}
theorem Fx (h:WC P n c (P2 Q) f w):WC P n (.scope c) Q f w:=by
 refine⟨λa ha=>wp_scope_straight (Code.wp_mono (λe a' w' hq=> ?_) (h.out a ha))⟩
 obtain⟨f',hr,hq⟩:=hq
 cases e with
 |goto l=>exact hq.elim
 |_=>exact⟨f',hr,hq⟩
theorem EQ (h:Q .normal f w):WC P n (.label l) Q f w:=⟨λ_ ha=>wp_label ⟨f,ha,h⟩⟩
instance retQ_scope [h:E7 Q Q']:E7 (P2 Q) Q':=⟨λf w q=>h.out f w q⟩
end
theorem Uj (h:f t=v) (h1:f u= .pointer (some ⟨b,0,none⟩)) (hT:kn P T=some k) (hm:At w b c T') (hk:k=c.size) (h2:f s=v2) (hp:Post (.tuple #[v, .agg c,v2]) w):mV P #[.tmp t, .cell u T, .tmp s] Post .ret f w:=by
 refine⟨_,λtmps fn ht hr=> ?_,hp⟩
 have e:=ht t
 have e1:=ht u
 have e2:=ht s
 rw[h]at e
 rw[h1]at e1
 rw[h2]at e2
 have hl:=nr (hk▸hT) hm
 simp only[acv]at e e1 e2
 simp[results,hr,e,e1,e2,asAddr,hl]
def XZ (bm bt q1 q2 q3:Nat):List Value:=[.func (.func q1) #[] #[.pointer (some ⟨bm,0,none⟩), .pointer (some ⟨bt,0,none⟩)], .func (.func q2) #[] #[.pointer (some ⟨bm,0,none⟩)], .func (.func q3) #[] #[.pointer (some ⟨bm,0,none⟩)]]
def clQ (q1 q2 q3:Nat):Nat→Nat
 |0=>q1
 |1=>q2
 |_=>q3
def clC (bm bt:Nat):Nat→Array Value
 |0=> #[.pointer (some ⟨bm,0,none⟩), .pointer (some ⟨bt,0,none⟩)]
 |_=> #[.pointer (some ⟨bm,0,none⟩)]
theorem Ra {bm bt q1 q2 q3 i:Nat} (hi:i<3):(XZ bm bt q1 q2 q3).getD i undef= .func (.func (clQ q1 q2 q3 i)) #[] (clC bm bt i):=by
 match i,hi with
 |0,_=>rfl
 |1,_=>rfl
 |2,_=>rfl
theorem clB (h1:cY P q1=true) (h2:cY P q2=true) (h3:cY P q3=true):cY P (clQ q1 q2 q3 i)=true:=by
 match i with
 |0=>exact h1
 |1=>exact h2
 |_+2=>exact h3
end
end Go.Proofs.YtedeonkjellcpaaGreatDoor
