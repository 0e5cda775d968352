/- Coverings as values: rows of rows, what making them smaller and the search hold in memory. No program in it. Families as diagrams: nodes, the members of an id, what is right, and that a family has one id. No program in it. The memory of an arena, and what a deed with it leaves as it was; outcomes of -/
import Derived.Test.YtedeonkjellcpaaGreatDoorCover4
namespace Go.Proofs.YtedeonkjellcpaaGreatDoor
set_option linter.unusedVariables false
set_option linter.unusedSimpArgs false
section
open Go Go.RowKit
def tS {α:Type} (d:α) (p:Nat→Bool) (l:List α):Nat→List α
 |0=>[]
 |k+1=>if p k then tS d p l k++[l.getD k d]else tS d p l k
theorem TJ {α:Type} {d:α} {p:Nat→Bool} {l:List α} {k:Nat} (h:p k=true):tS d p l k++[l.getD k d]=tS d p l (k+1):=by rw[tS,if_pos h]
theorem Ul {α:Type} {d:α} {p:Nat→Bool} {l:List α} {k:Nat} (h:p k=false):tS d p l k=tS d p l (k+1):=by rw[tS,if_neg (by rw[h];decide)]
theorem Du {α:Type} (d:α) (p:Nat→Bool) (l:List α):∀k,(tS d p l k).length≤k
 |0=>am _
 |k+1=>by
  have:=Du d p l k
  rw[tS]
  split
  ·rw[An,abp];omega
  ·omega
theorem adg {T:TypeId} {N:Nat} {w:World} {vs:List Value} {L:ML} (h:LO T N w vs L) (p:Nat→Bool):∀k,k≤L.length→LO T N w (tS undef p vs k) (tS [] p L k)
 |0,_=>LO.nil
 |k+1,hk=>by
  have ih:=adg h p k (by omega)
  rw[tS,tS]
  split
  ·exact ih.snoc (h.get k (by omega))
  ·exact ih
theorem sy {L:ML} {k:Nat} (h:k<L.length):L.take (k+1)=L.take k++[L.getD k []]:=(M0 h).symm
theorem NR {L:ML} {c:Int}:∀k,k≤L.length→tS [] (λk=> !decide (c∈L.getD k [])) L k=tD (L.take k) c
 |0,_=>by simp[tS,tD]
 |k+1,hk=>by
  have ih:=NR (L:=L) (c:=c) k (by omega)
  rw[sy (by omega)]
  unfold tD at ih ⊢
  rw[tS,acz,←ih]
  generalize tS [] (λk=> !decide (c∈L.getD k [])) L k=A
  generalize L.getD k []=r
  by_cases h:c∈r
  ·simp[h]
  ·simp[h]
theorem Oo {L:ML} {i:Nat}:∀k,k≤L.length→tS [] (λk=>decide (¬(k:Int)=(i:Int))) L k=if k≤i then L.take k else Lu (L.take k) i
 |0,_=>by simp[tS]
 |k+1,hk=>by
  have ih:=Oo (L:=L) (i:=i) k (by omega)
  rw[tS,ih]
  by_cases h1:k<i
  ·rw[if_pos (decide_eq_true (by omega)),if_pos (by omega),if_pos (by omega),sy (by omega)]
  ·by_cases h2:k=i
   ·subst h2
    rw[if_neg fD,if_pos (am _),if_neg (by omega)]
    unfold Lu
    rw[List.take_take,acF (by omega),List.drop_of_length_le Ht,abK]
   ·rw[if_pos (decide_eq_true (by omega)),if_neg (by omega),if_neg (by omega),sy (by omega)]
    unfold Lu
    rw[acK Ht,List.drop_append_of_le_length Ht,abm]
theorem Pd (L:ML) (c:Int):tS [] (λk=> !decide (c∈L.getD k [])) L L.length=tD L c:=by rw[NR _ (am _),aa7]
theorem XD {L:ML} {i:Nat} (h:i<L.length):tS [] (λk=>decide (¬(k:Int)=(i:Int))) L L.length=Lu L i:=by rw[Oo _ (am _),if_neg (by omega),aa7]
theorem T6 {r:List Int} {c:Int} {k:Nat} (hk:k<r.length) (h:r.getD k 0=c):Value.bool true= .bool (decide (c∈r)):=by grind
theorem T1 {r:List Int} {c:Int} {k:Nat} (hk:k=r.length) (h:∀q,q<k→¬r.getD q 0=c):Value.bool false= .bool (decide (c∈r)):=xn λe=>by
 obtain⟨j,hj,hjc⟩:=fi (d:=0) (of_decide_eq_true e)
 exact h j (by omega) hjc
def Cs (a b:List Int):Bool:=a.all λx=>decide (x∈b)
theorem uK {a b:List Int}:Cs a b=true↔∀x,x∈a→x∈b:=by
 unfold Cs
 grind
theorem XW {a b:List Int} {k:Nat} (hk:k<a.length) (h:(!decide (a.getD k 0∈b))=true):Value.bool false= .bool (Cs a b):=by grind [xn,uK,dB,decide_eq_true]
theorem X2 {a b:List Int} {k:Nat} (hk:k=a.length) (h:∀q,q<k→(!decide (a.getD q 0∈b))=false):Value.bool true= .bool (Cs a b):=Ou (uK.2 λx hx=>by
 obtain⟨j,hj,rfl⟩:=fi (d:=0) hx
 have:=h j (by omega)
 simpa using this)
theorem cH.hi {α:Type} {enc:α→List Value} {sz:Nat} {T:TypeId} {w:World} {N:Nat} {v:Value} {l:List α} (h:cH enc sz T w N v l) (he:∀a,(enc a).length=sz) {k:Nat} (hk:k≤l.length):cH enc sz T w N (fV sz v 0 k (jn v)) (l.take k):=by
 obtain⟨h1,h2⟩:=h
 have hl:(List.flatMap enc (l.take k)).length=(l.take k).length*sz:=mE he _
 refine⟨hl,?_⟩
 rcases h2 with ⟨rfl,h3⟩|⟨g,cap,cur,rfl,hg,hh,hnc,hcm,hcs,ht⟩
 ·have h0:l=[]:=abk h3
  subst h0
  have hk0:k=0:=by simpa using hk
  subst hk0
  exact .inl ⟨rfl,rfl⟩
 ·refine .inr ⟨g,cap,cur,?_,hg,hh,by rw[aa4];omega,hcm,hcs,?_⟩
  ·show fV sz (.slice (some ⟨g,0,none⟩) l.length cap) 0 k cap=_
   unfold fV Eb
   rw[aa4,acF hk]
   by_cases hc:cap=0
   ·subst hc;simp
   ·rw[if_neg hc]
    simp only[Option.map_some,ach,acC]
    rw[iu]
  ·rw[aa4,acF hk,sJ he,←ht,List.take_take]
   simp_all
theorem PX {w:World} {b N:Nat} {T:TypeId} {f0 f1 f2:Value} (k:At w b #[f0,f1,f2] T) (hN:N≤b):cH encV 1 T w N (.slice (some ⟨b,0,none⟩) 3 3) [f0,f1,f2]:=
 ⟨rfl, .inr ⟨b,3,#[f0,f1,f2],rfl,hN,k,am _,by decide,rfl,rfl⟩⟩
section
variable {P:Program} {f:Nat→Value} {w:World} {d:Option Nat} {ty:TypeId} {ps:String} {af:Array Edge} {g:Option (Nat×Bool)} {x y:Operand}
theorem VE {a b:Int} {tys:Array TypeId} (hx:dk f x= .int .i64 a) (hy:dk f y= .int .i64 b):(execOp (dk f) ⟨d, .call ⟨.builtin .max,#[x,y],tys⟩,ty,ps,af,g⟩).run P w= .ok (.value (.int .i64 (max a b))) w:=by
 simp[execOp,resolve,invoke,builtin,hx,hy,Builtin.max_,Builtin.max2]
 split<;>omega
end
theorem TM {v:Value} (h:v.oneCell'=true):[v].all Value.oneCell'=true:=by grind
theorem iI {n:Int} {v:Value} (h:v.oneCell'=true):[Value.int .i64 n,v].all Value.oneCell'=true:=by simp only[ab1,acD,h,abN];rfl
def L3 (l:List (Int×Value)) (c:Int):Value:=(iH l c).getD (.slice none 0 0)
structure MO (T:TypeId) (N:Nat) (w:World) (l:List (Int×Value)) (g:Int→List Int):Prop where
 own:∀p,p∈l→cH dT 1 T w N p.2 (g p.1)
 ap:∀p q,p∈l→q∈l→¬p.1=q.1→ft p.2 q.2
 nd:(l.map (·.1)).Nodup
 no:∀c,c∉l.map (·.1)→g c=[]
def Hy (g:Int→List Int) (c x:Int):Int→List Int:=λd=>if d=c then g d++[x]else g d
section
variable {T:TypeId} {N:Nat} {w w':World} {l:List (Int×Value)} {g:Int→List Int} {c x:Int}
theorem MO.nil:MO T N w [] (λ_=>[]):=⟨λp h=>(by cases h),λp q h=>(by cases h),List.nodup_nil,λ_ _=>rfl⟩
theorem MO.get (h:MO T N w l g) (c:Int):cH dT 1 T w N (L3 l c) (g c):=by
 unfold L3
 cases e:iH l c with
 |none=>
  rw[h.no c (pK.1 e)]
  exact cH.nil
 |some v=>exact h.own (c,v) ((ny h.nd).1 e)
theorem MO.ext (h:dC w w') (k:MO T N w l g):MO T N w' l g:=⟨λp hp=>h.ow (k.own p hp),k.ap,k.nd,k.no⟩
theorem MO.grownMap {α β:Type} {enc:α→Value} {encV:β→Value} {b:Nat} {m:List (α×β)} (k:MO T N w l g) (hm:dy enc encV w b m) (hG:w.grownBy w' (some b)):MO T N w' l g:=⟨λp hp=>(k.own p hp).grownMap hm hG,k.ap,k.nd,k.no⟩
theorem vg {v:Value} {p:Int×Value} (hn:(l.map (·.1)).Nodup) (h:p∈iJ l c v):(p=(c,v))∨(p∈l∧¬p.1=c):=by
 grind [iJ,List.mem_map_of_mem,List.mem_singleton]
theorem MO.app {v:Value} (k:MO T N w l g) (hG:w.grownBy w' (L3 l c).ownBlock) (hob:v.ownBlock=(L3 l c).ownBlock∨v.ownBlock=some w.heap.size) (hO:cH dT 1 T w' N v (g c++[x])):MO T N w' (iJ l c v) (Hy g c x):=by
 have hgo:∀p,p∈l→¬p.1=c→ft (L3 l c) p.2:=λp hp hne=>by
  unfold L3
  cases e:iH l c with
  |none=>exact adh
  |some u=>exact k.ap (c,u) p ((ny k.nd).1 e) hp (λq=>hne q.symm)
 have hap:∀p,p∈l→¬p.1=c→ft v p.2:=λp hp hne=>ft.app (hgo p hp hne) hob (k.own p hp)
 refine⟨λp hp=> ?_,λp q hp hq hne=> ?_,?_,λd hd=> ?_⟩
 ·rcases vg k.nd hp with rfl|⟨h1,h2⟩
  ·unfold Hy;rw[if_pos rfl];exact hO
  ·unfold Hy;rw[if_neg h2];exact(k.own p h1).grownAp (hgo p h1 h2) hG
 ·rcases vg k.nd hp with rfl|⟨h1,h2⟩
  ·rcases vg k.nd hq with rfl|⟨h3,h4⟩
   ·exact absurd rfl hne
   ·exact hap q h3 h4
  ·rcases vg k.nd hq with rfl|⟨h3,h4⟩
   ·exact(hap p h1 h2).symm
   ·exact k.ap p q h1 h3 hne
 ·rw[lp];exact jT k.nd c
 ·rw[lp]at hd
  have h1:¬d=c:=λe=>hd (gy.2 (.inr e))
  unfold Hy
  rw[if_neg h1]
  exact k.no d λe=>hd (gy.2 (.inl e))
end
def Uo (r:List Int) (i:Nat) (g:Int→List Int):Nat→Int→List Int
 |0=>g
 |j+1=>Hy (Uo r i g j) (r.getD j 0) (i:Int)
def py (L:ML):Nat→Int→List Int
 |0=>λ_=>[]
 |i+1=>Uo (L.getD i []) i (py L i) (L.getD i []).length
theorem Jh {r:List Int} {i:Nat} {g:Int→List Int} {c x:Int}:∀j,j≤r.length→(x∈Uo r i g j c↔x∈g c∨(c∈r.take j∧x=i))
 |0,_=>by simp[Uo]
 |j+1,hj=>by
  have ih:=Jh (r:=r) (i:=i) (g:=g) (c:=c) (x:=x) j (by omega)
  rw[Uo,abt,aah,we (show j<r.length by omega)]
  have e:r.getD j 0=r[j]:=by rw[me,we (show j<r.length by omega)];rfl
  unfold Hy
  rw[e]
  by_cases h:c=r[j]
  ·rw[if_pos h,aah,ih,aaL]
   simp[h]
   constructor
   ·rintro((h1|h1)|h1)
    ·exact .inl h1
    ·exact .inr h1.2
    ·exact .inr h1
   ·rintro(h1|h1)
    ·exact .inl (.inl h1)
    ·exact .inr h1
  ·rw[if_neg h,ih]
   simp[h]
theorem xN {L:ML} {c x:Int}:∀k,x∈py L k c↔∃i,i<k∧c∈L.getD i []∧x=(i:Int)
 |0=>by simp[py]
 |k+1=>by
  rw[py,Jh _ (am _),aa7,xN k]
  constructor
  ·rintro(⟨i,h1,h2,h3⟩|⟨h2,h3⟩)
   ·exact⟨i,by omega,h2,h3⟩
   ·exact⟨k,by omega,h2,h3⟩
  ·rintro⟨i,h1,h2,h3⟩
   by_cases e:i=k
   ·subst e;exact .inr ⟨h2,h3⟩
   ·exact .inl ⟨i,by omega,h2,h3⟩
theorem IJ {L:ML} {c:Int} {q:Nat} (h:q<(py L L.length c).length):0≤(py L L.length c).getD q 0∧(py L L.length c).getD q 0<L.length∧c∈L.getD ((py L L.length c).getD q 0).toNat []:=by
 grind [xN,dB,Int.toNat_natCast]
theorem DD {r:List Int} {i:Nat} {g:Int→List Int} {c:Int}:∀j,(Uo r i g j c).length≤(g c).length+j
 |0=>am _
 |j+1=>by
  have ih:=DD (r:=r) (i:=i) (g:=g) (c:=c) j
  rw[Uo]
  unfold Hy
  split
  ·rw[An,abp];omega
  ·omega
theorem yo {L:ML} {c:Int} (h:∀i,(L.getD i []).length≤4000):∀k,(py L k c).length≤4000*k
 |0=>am _
 |k+1=>by
  have ih:=yo (c:=c) h k
  have h1:=DD (r:=L.getD k []) (i:=k) (g:=py L k) (c:=c) (L.getD k []).length
  have h2:=h k
  rw[py];omega
theorem Vi {L:ML} {c d:Int} (h:Cs (py L L.length c) (py L L.length d)=true):∀r,r∈L→c∈r→d∈r:=λr hr hc=>by
 obtain⟨i,hi,rfl⟩:=fi (d:=[]) hr
 obtain⟨j,_,h2,h3⟩:=(xN _).1 (uK.1 h _ ((xN _).2 ⟨i,hi,hc,rfl⟩))
 have e:j=i:=by omega
 rw[e]at h2
 exact h2
theorem Gc {r:List Int} {c:Int} {k:Nat} (hk:k<r.length):Br (r.take (k+1)) c=if r.getD k 0=c then Br (r.take k) c else Br (r.take k) c++[r.getD k 0]:=by
 grind [Br,List.take_add_one,List.getElem?_eq_getElem]
theorem TR {r:List Int} {c:Int} {k:Nat} (hk:k<r.length) (h:¬r.getD k 0=c):Br (r.take k) c++[r.getD k 0]=Br (r.take (k+1)) c:=by rw[Gc hk,if_neg h]
theorem Ui {r:List Int} {c:Int} {k:Nat} (hk:k<r.length) (h:r.getD k 0=c):Br (r.take k) c=Br (r.take (k+1)) c:=by rw[Gc hk,if_pos h]
theorem F9 {L:ML} {c:Int} {k:Nat} (hk:k<L.length):qD (L.take k) c++[Br (L.getD k []) c]=qD (L.take (k+1)) c:=by
 grind [sy,qD]
theorem IB {L:ML} {c:Int} {k:Nat} (hk:k=L.length):qD (L.take k) c=qD L c:=by grind
theorem IE (L:ML) (c:Int) (k:Nat):(qD (L.take k) c).length≤k:=by grind [qD,List.length_map,List.length_take]
theorem IR (r:List Int) (c:Int) (k:Nat):(Br (r.take k) c).length≤k:=by
 grind [Cz,List.length_take]
def YZ (L L':ML) (c:Int) (b:Bool):Prop:=(b=true∧(∃r,r∈L∧r=[c])∧L'=tD L c)∨(b=false∧L'=L)
theorem aaJ {L:ML} {k:Nat} {C:Int} (hk:k<L.length) (h1:((L.getD k []).length:Int)=1) (hC:C=(L.getD k []).getD 0 0):YZ L (tS [] (λk=> !decide (C∈L.getD k [])) L L.length) C true:=by
 refine .inl ⟨rfl,⟨L.getD k [],dB (d:=[]) hk,?_⟩,Pd L C⟩
 generalize L.getD k []=r at*
 match r,h1 with
 |[a],_=>rw[hC];rfl
theorem aaF (L:ML):YZ L L 0 false:= .inr ⟨rfl,rfl⟩
def WZ (L L':ML) (b:Bool):Prop:=(b=true∧((∃i k,i<L.length∧k<L.length∧¬k=i∧(∀x,x∈L.getD k []→x∈L.getD i [])∧L'=Lu L i)∨∃c d,sM L c∧¬d=c∧(∀r,r∈L→c∈r→d∈r)∧L'=qD L c))∨(b=false∧L'=L)
theorem Xy (L:ML):WZ L L false:= .inr ⟨rfl,rfl⟩
theorem JF {L:ML} {i k:Nat} (hi:i<L.length) (hk:k<L.length) (hne:¬(k:Int)=(i:Int)) (hw:Cs (L.getD k []) (L.getD i [])=true):WZ L (tS [] (λk=>decide (¬(k:Int)=(i:Int))) L L.length) true:=
 .inl ⟨rfl, .inl ⟨i,k,hi,hk,λe=>hne A3,λx hx=>uK.1 hw x hx,XD hi⟩⟩
theorem QH {L:ML} {c d:Int} {i:Nat} (h0:(py L L.length c).length≠0) (hne:¬d=c) (hw:Cs (py L L.length c) (py L L.length d)=true):WZ L (qD L c) true:=by
 refine .inl ⟨rfl, .inr ⟨c,d,?_,hne,Vi hw,rfl⟩⟩
 obtain⟨h1,h2,h3⟩:=IJ (q:=0) (Nat.pos_of_ne_zero h0)
 exact⟨_,dB (by omega),h3⟩
structure TK (L0 L' L:ML) (ks':List Int) (n:Int) (b:Bool):Prop where
 rd:mW L0 L' ks'
 r:dQ n L'=true
 sz:tu L'≤tu L
 szt:b=true→tu L'<tu L
 len:L'.length≤L.length
theorem FX {L0 L:ML} {ks:List Int} {n:Int} (h:mW L0 L ks) (hr:dQ n L=true):TK L0 L L ks n false:=⟨h,hr,am _,λe=>Bool.noConfusion e,am _⟩
theorem Mg {L0 L L':ML} {ks:List Int} {n c:Int} (h:mW L0 L ks) (hr:dQ n L=true) (k:YZ L L' c true):TK L0 L' L (ji ks c) n true:=by
 obtain⟨_,⟨r,h1,h2⟩,rfl⟩|⟨h1,_⟩:=k
 ·have hin:sM L c:=⟨r,h1,by rw[h2];exact aaL.2 rfl⟩
  exact⟨h.take h1 h2,yO hr c,Hl c L,λ_=>Cm hin,Ox L c⟩
 ·cases h1
theorem Kw {L0 L L':ML} {ks:List Int} {n c:Int} (h:mW L0 L ks) (hr:dQ n L=true) (k:YZ L L' c false):TK L0 L' L ks n false:=by
 obtain⟨h1,_⟩|⟨_,rfl⟩:=k
 ·cases h1
 ·exact FX h hr
theorem Pp {L0 L L':ML} {ks:List Int} {n:Int} {b:Bool} (h:mW L0 L ks) (hr:dQ n L=true) (k:WZ L L' b):TK L0 L' L ks n b:=by
 obtain⟨rfl,⟨i,j,h1,h2,h3,h4,rfl⟩|⟨c,d,h1,h2,h3,rfl⟩⟩|⟨rfl,rfl⟩:=k
 ·refine⟨h.rows (λr=>PC) (λX hX=>Wl h1 h2 h3 h4 hX),M6 hr i,Nat.le_of_lt (Ni h1),λ_=>Ni h1,?_⟩
  unfold Lu
  rw[An,aa4,abw];omega
 ·exact⟨h.cols h2 h3,Fh hr c,HK c L,λ_=>BH h1,aa1 (len_le L c)⟩
 ·exact FX h hr
end
section
section
open Go Go.RowKit
structure Nd where
  l:Nat
  lo:Nat
  hi:Nat
  deriving DecidableEq,Repr
def ol:Nd:=⟨0,0,0⟩
def VN (n:Nd):List Value:=[.int .i64 (n.l:Int), .int .i64 (n.lo:Int), .int .i64 (n.hi:Int)]
theorem pD (n:Nd):(VN n).length=3:=rfl
def xu (n:Nd):Value:= .agg #[.int .i64 (n.l:Int), .int .i64 (n.lo:Int), .int .i64 (n.hi:Int)]
theorem FL (a b:Nd) (h:xu a=xu b):a=b:=by
  cases a;cases b
  simp only[xu,Value.agg.injEq,Array.mk.injEq,List.cons.injEq,Value.int.injEq,true_and,and_true]at h
  obtain⟨h1,h2,h3⟩:=h
  simp only[Nd.mk.injEq]
  omega
def BX (t:List (List Nat)) (n:Nd):List (List Nat):=t++[t.getD n.lo []++(t.getD n.hi []).map λx=>x+2^n.l]
def W0 (ns:List Nd):List (List Nat):=ns.foldl BX [[],[0]]
def dA (ns:List Nd) (id:Nat):List Nat:=(W0 ns).getD id []
theorem EK (ns:List Nd) (n:Nd):W0 (ns++[n])=BX (W0 ns) n:=by
  unfold W0;rw[List.foldl_append];rfl
theorem Cn:∀(ns:List Nd) (t:List (List Nat)),(ns.foldl BX t).length=t.length+ns.length
  |[],t=>rfl
  |n::ns,t=>by
    rw[acG,Cn ns,BX,An,abp,aa5];omega
theorem CH (ns:List Nd):(W0 ns).length=ns.length+2:=by
  unfold W0;rw[Cn];simp;omega
theorem Ba {ns:List Nd} {n:Nd} {id:Nat} (h:id<ns.length+2):dA (ns++[n]) id=dA ns id:=by
  unfold dA
  rw[EK,BX,me,abL (by rw[CH];exact h),me]
theorem tt (ns:List Nd) (n:Nd):dA (ns++[n]) (ns.length+2)=dA ns n.lo++(dA ns n.hi).map λx=>x+2^n.l:=by
  unfold dA
  rw[EK,BX,me,abz (by rw[CH];exact am _),CH,Nat.sub_self]
  rfl
theorem uT {id:Nat}:∀(r ns:List Nd),id<ns.length+2→dA (ns++r) id=dA ns id
  |[],ns,_=>by rw[abK]
  |n::r,ns,h=>by
    rw[show ns++n::r=(ns++[n])++r by simp,uT r (ns++[n]) iw,Ba h]
theorem ii {ns ns':List Nd} {id:Nat} (hp:ns<+:ns') (h:id<ns.length+2):dA ns' id=dA ns id:=by
  obtain⟨r,rfl⟩:=hp
  exact uT r ns h
theorem og (ns:List Nd):dA ns 0=[]:=uT ns [] (by decide)
theorem qw (ns:List Nd):dA ns 1=[0]:=uT ns [] (by decide)
def dV (ns:List Nd) (id:Nat):Nat:=if id<2 then 24 else (ns.getD (id-2) ol).l
theorem mm {ns:List Nd} {id:Nat} (h:id<2):dV ns id=24:=if_pos h
theorem kz {ns:List Nd} (i:Nat):dV ns (i+2)=(ns.getD i ol).l:=if_neg (by omega)
theorem uD {α:Type} {a b:List α} {d:α} {i:Nat} (hp:a<+:b) (h:i<a.length):b.getD i d=a.getD i d:=by
  obtain⟨r,rfl⟩:=hp
  rw[me,abL h,me]
theorem gZ {ns ns':List Nd} {id:Nat} (hp:ns<+:ns') (h:id<ns.length+2):dV ns' id=dV ns id:=by
  unfold dV
  by_cases h2:id<2
  · rw[if_pos h2,if_pos h2]
  · rw[if_neg h2,if_neg h2,uD hp (by omega)]
def Z8 (ns:List Nd) (i:Nat) (n:Nd):Prop:=n.lo<i+2∧n.hi<i+2∧n.hi≠0∧n.l<dV ns n.lo∧n.l<dV ns n.hi∧n.l<24
structure Wf (ns:List Nd):Prop where
  nd:ns.Nodup
  ok:∀i,i<ns.length→Z8 ns i (ns.getD i ol)
theorem Wf.nil:Wf []:=⟨List.nodup_nil,λi h=>by cases h⟩
theorem Wf.snoc {ns:List Nd} {n:Nd} (h:Wf ns) (hn:n∉ns) (hlo:n.lo<ns.length+2) (hhi:n.hi<ns.length+2) (h0:n.hi≠0) (l1:n.l<dV ns n.lo) (l2:n.l<dV ns n.hi) (h24:n.l<24):Wf (ns++[n]):=by
  have hp:ns<+:ns++[n]:=List.prefix_append _ _
  refine⟨?_,λi hi=> ?_⟩
  · rw[List.nodup_append]
    exact⟨h.nd,by simp,λa ha b hb=>by simp at hb;subst hb;exact λe=>hn (e▸ha)⟩
  · rw[An,abp]at hi
    by_cases e:i<ns.length
    · obtain⟨a1,a2,a3,a4,a5,a6⟩:=h.ok i e
      rw[uD hp e]
      exact⟨a1,a2,a3,by rw[gZ hp (by omega)];exact a4,by rw[gZ hp (by omega)];exact a5,a6⟩
    · obtain rfl:i=ns.length:=by omega
      have e2:(ns++[n]).getD ns.length ol=n:=by
        rw[me,abz (am _),Nat.sub_self];rfl
      rw[e2]
      exact⟨hlo,hhi,h0,by rw[gZ hp hlo];exact l1,by rw[gZ hp hhi];exact l2,h24⟩
section
variable {ns:List Nd}
theorem je (h:Wf ns) {i:Nat} (hi:i<ns.length):dA ns (i+2)=dA ns (ns.getD i ol).lo++(dA ns (ns.getD i ol).hi).map λx=>x+2^(ns.getD i ol).l:=by
  obtain⟨a1,a2,_⟩:=h.ok i hi
  have e:ns.take (i+1)=ns.take i++[ns.getD i ol]:=by
    rw[abt,me,we hi];rfl
  have hl:(ns.take i).length=i:=by rw[aa4];omega
  have hp:ns.take i<+:ns:=List.take_prefix _ _
  have hp1:ns.take (i+1)<+:ns:=List.take_prefix _ _
  rw[ii hp1 Ht,e]
  have:=tt (ns.take i) (ns.getD i ol)
  rw[hl]at this
  rw[this,←ii hp (by rw[hl];exact a1),←ii hp (by rw[hl];exact a2)]
theorem gk {x l:Nat} (h:2^(l+1)∣x):x.testBit l=false:=by
  obtain⟨k,rfl⟩:=h
  rw[abB,show 2^(l+1)*k=2^l*(2*k)by rw[ab3,Nat.mul_assoc],Nat.mul_div_cancel_left _ (abo l)]
  simp
theorem kI {x l:Nat} (h:2^(l+1)∣x):(x+2^l).testBit l=true:=by
  obtain⟨k,rfl⟩:=h
  rw[abB,show 2^(l+1)*k+2^l=2^l*(2*k+1)by rw[ab3,Nat.mul_add,ab4,Nat.mul_assoc],Nat.mul_div_cancel_left _ (abo l)]
  simp
theorem ib {a b x:Nat} (h:a<b) (hx:2^b∣x):2^(a+1)∣x:=Nat.dvd_trans (acE 2 h) hx
theorem G8 {l x:Nat} (h:2^(l+1)∣x):2^l∣x+2^l:=Nat.dvd_add (Nat.dvd_trans (acE 2 (Nat.le_succ l)) h) (Nat.dvd_refl _)
theorem XH {l x:Nat} (hl:l<24) (h:2^(l+1)∣x) (hx:x<2^24):x+2^l<2^24:=by
  obtain⟨k,rfl⟩:=h
  have e:2^24=2^(l+1)*2^(23-l):=by rw[←Nat.pow_add];congr 1;omega
  rw[e]at hx ⊢
  have hk:k<2^(23-l):=Nat.lt_of_mul_lt_mul_left hx
  have h1:2^(l+1)*(k+1)≤2^(l+1)*2^(23-l):=Nat.mul_le_mul_left _ hk
  have h2:0<2^l:=abo l
  have h3:2^(l+1)=2^l*2:=ab3 ..
  rw[Nat.mul_add,ab4]at h1
  omega
theorem fj (h:Wf ns):∀id,id<ns.length+2→∀x,x∈dA ns id→2^dV ns id∣x∧x<2^24:=by
  intro id
  induction id using Nat.strongRecOn with
  |_ id ih=>
    intro hid x hx
    match id,ih,hid,hx with
    |0,_,_,hx=>rw[og]at hx;cases hx
    |1,_,_,hx=>
      rw[qw]at hx
      obtain rfl:x=0:=by simpa using hx
      exact⟨Nat.dvd_zero _,by decide⟩
    |i+2,ih,hid,hx=>
      have hi:i<ns.length:=by omega
      obtain⟨a1,a2,a3,a4,a5,a6⟩:=h.ok i hi
      rw[je h hi,aah,aa6]at hx
      rw[kz]
      rcases hx with hx|⟨y,hy,rfl⟩
      · obtain⟨g1,g2⟩:=ih _ a1 (by omega) x hx
        exact⟨Nat.dvd_trans (acE 2 (Nat.le_of_lt a4)) g1,g2⟩
      · obtain⟨g1,g2⟩:=ih _ a2 (by omega) y hy
        exact⟨G8 (ib a5 g1),XH a6 (ib a5 g1) g2⟩
theorem ja (h:Wf ns):∀id,id<ns.length+2→id≠0→∃x,x∈dA ns id:=by
  intro id
  induction id using Nat.strongRecOn with
  |_ id ih=>
    intro hid h0
    match id,ih,hid,h0 with
    |0,_,_,h0=>exact absurd rfl h0
    |1,_,_,_=>exact⟨0,by rw[qw];exact aa9 ..⟩
    |i+2,ih,hid,_=>
      have hi:i<ns.length:=by omega
      obtain⟨a1,a2,a3,_⟩:=h.ok i hi
      obtain⟨y,hy⟩:=ih _ a2 (by omega) a3
      exact⟨_,by rw[je h hi];exact List.mem_append_right _ (aa6.2 ⟨y,hy,rfl⟩)⟩
theorem kL (h:Wf ns):∀id,id<ns.length+2→(dA ns id).Nodup:=by
  intro id
  induction id using Nat.strongRecOn with
  |_ id ih=>
    intro hid
    match id,ih,hid with
    |0,_,_=>rw[og];exact List.nodup_nil
    |1,_,_=>rw[qw];simp
    |i+2,ih,hid=>
      have hi:i<ns.length:=by omega
      obtain⟨a1,a2,a3,a4,a5,a6⟩:=h.ok i hi
      rw[je h hi,List.nodup_append]
      refine⟨ih _ a1 (by omega),?_,λx hx y hy e=> ?_⟩
      · exact List.pairwise_map.2 ((ih _ a2 (by omega)).imp (λhab e=>hab (by omega)))
      · obtain⟨z,hz,rfl⟩:=aa6.1 hy
        have b1:=gk (ib a4 (fj h _ (by omega) x hx).1)
        have b2:=kI (ib a5 (fj h _ (by omega) z hz).1)
        rw[e,b2]at b1
        cases b1
theorem oh (h:Wf ns) {id:Nat} (hid:id<ns.length+2):dV ns id≤24:=by
  match id,hid with
  |0,_=>exact am _
  |1,_=>exact am _
  |i+2,hid=>rw[kz];exact Nat.le_of_lt (h.ok i (by omega)).2.2.2.2.2
theorem oX (h:Wf ns) {id:Nat} (hid:id<ns.length+2) (h2:2≤id):dV ns id<24:=by
  obtain⟨i,rfl⟩:∃i,id=i+2:=⟨id-2,by omega⟩
  rw[kz];exact(h.ok i (by omega)).2.2.2.2.2
theorem UU (h:Wf ns):∀a,a<ns.length+2→∀b,b<ns.length+2→(∀x,x∈dA ns a↔x∈dA ns b)→a=b:=by
  have hne0:∀b,b<ns.length+2→(∀x,x∈dA ns 0↔x∈dA ns b)→0=b:=λb hb hs=>by
    by_cases e:b=0
    · exact e.symm
    · obtain⟨x,hx⟩:=ja h b hb e
      have:=(hs x).2 hx
      rw[og]at this;cases this
  have hhi:∀i,i<ns.length→∃y,y∈dA ns (ns.getD i ol).hi∧y+2^(ns.getD i ol).l∈dA ns (i+2):=λi hi=>by
    obtain⟨a1,a2,a3,_⟩:=h.ok i hi
    obtain⟨y,hy⟩:=ja h _ (by omega) a3
    exact⟨y,hy,by rw[je h hi];exact List.mem_append_right _ (aa6.2 ⟨y,hy,rfl⟩)⟩
  have hne1:∀i,i<ns.length→¬∀x,x∈dA ns 1↔x∈dA ns (i+2):=λi hi hs=>by
    obtain⟨y,_,hy⟩:=hhi i hi
    have:=(hs _).2 hy
    rw[qw]at this
    have h2:=abo (ns.getD i ol).l
    have h3:=aaL.1 this
    omega
  have hlev:∀i j,i<ns.length→j<ns.length→(ns.getD i ol).l<(ns.getD j ol).l→¬∀x,x∈dA ns (i+2)↔x∈dA ns (j+2):=λi j hi hj hl hs=>by
    obtain⟨y,hy,hm⟩:=hhi i hi
    have g1:=(fj h _ (by omega) _ ((hs _).1 hm)).1
    rw[kz]at g1
    obtain⟨a1,a2,a3,a4,a5,a6⟩:=h.ok i hi
    have b1:=gk (ib hl g1)
    rw[kI (ib a5 (fj h _ (by omega) y hy).1)]at b1
    cases b1
  intro a
  induction a using Nat.strongRecOn with
  |_ a ih=>
    intro ha b hb hs
    match a,b,ih,ha,hb,hs with
    |0,b,_,_,hb,hs=>exact hne0 b hb hs
    |a+1,0,_,ha,_,hs=>exact(hne0 (a+1) ha (λx=>(hs x).symm)).symm
    |1,1,_,_,_,_=>rfl
    |1,j+2,_,_,hb,hs=>exact absurd hs (hne1 j (by omega))
    |i+2,1,_,ha,_,hs=>exact absurd (λx=>(hs x).symm) (hne1 i (by omega))
    |i+2,j+2,ih,ha,hb,hs=>
      have hi:i<ns.length:=by omega
      have hj:j<ns.length:=by omega
      have hl:(ns.getD i ol).l=(ns.getD j ol).l:=by
        rcases Nat.lt_trichotomy (ns.getD i ol).l (ns.getD j ol).l with k|k|k
        · exact absurd hs (hlev i j hi hj k)
        · exact k
        · exact absurd (λx=>(hs x).symm) (hlev j i hj hi k)
      obtain⟨a1,a2,a3,a4,a5,a6⟩:=h.ok i hi
      obtain⟨c1,c2,c3,c4,c5,c6⟩:=h.ok j hj
      have hlo:(ns.getD i ol).lo=(ns.getD j ol).lo:=ih _ a1 (by omega) _ (by omega) λx=>by
        have hx:=hs x
        rw[je h hi,je h hj,aah,aah,aa6,aa6]at hx
        constructor
        · intro k
          have b1:=gk (ib a4 (fj h _ (by omega) x k).1)
          rcases hx.1 (.inl k)with q|⟨y,hy,rfl⟩
          · exact q
          · rw[hl,kI (ib c5 (fj h _ (by omega) y hy).1)]at b1;cases b1
        · intro k
          have b1:=gk (ib c4 (fj h _ (by omega) x k).1)
          rcases hx.2 (.inl k)with q|⟨y,hy,rfl⟩
          · exact q
          · rw[←hl,kI (ib a5 (fj h _ (by omega) y hy).1)]at b1;cases b1
      have hhi2:(ns.getD i ol).hi=(ns.getD j ol).hi:=ih _ a2 (by omega) _ (by omega) λx=>by
        have hx:=hs (x+2^(ns.getD i ol).l)
        rw[je h hi,je h hj,aah,aah,aa6,aa6]at hx
        constructor
        · intro k
          have b1:=kI (ib a5 (fj h _ (by omega) x k).1)
          rcases hx.1 (.inr ⟨x,k,rfl⟩)with q|⟨y,hy,e⟩
          · have b2:=gk (ib c4 (fj h _ (by omega) _ q).1)
            rw[←hl,b1]at b2;cases b2
          · rw[hl]at e
            obtain rfl:y=x:=by omega
            exact hy
        · intro k
          have b1:=kI (ib c5 (fj h _ (by omega) x k).1)
          rw[←hl]at b1
          rcases hx.2 (.inr ⟨x,k,by rw[hl]⟩)with q|⟨y,hy,e⟩
          · rw[gk (ib a4 (fj h _ (by omega) _ q).1)]at b1;cases b1
          · obtain rfl:y=x:=by omega
            exact hy
      have hn:ns.getD i ol=ns.getD j ol:=by
        generalize ns.getD i ol=p at*
        generalize ns.getD j ol=q at*
        cases p;cases q
        simp only[Nd.mk.injEq]
        exact⟨hl,hlo,hhi2⟩
      rw[me,me,we hi,we hj]at hn
      have:=(List.getElem_inj h.nd).1 (show ns[i]=ns[j] from hn)
      omega
end
end
section
open Go Go.RowKit
def qV (ns:List Nd):List (Nd×Int):=ns.zipIdx.map λp=>(p.1,((p.2+2:Nat):Int))
theorem wE (ns:List Nd):(qV ns).map (·.1)=ns:=by
  unfold qV
  rw[List.map_map]
  exact List.zipIdx_map_fst 0 ns
theorem O8 (ns:List Nd):(qV ns).length=ns.length:=by unfold qV;simp
theorem KR (ns:List Nd) (n:Nd):qV (ns++[n])=qV ns++[(n,((ns.length+2:Nat):Int))]:=by
  unfold qV
  rw[List.zipIdx_append,ace]
  simp
theorem PQ {ns:List Nd} {n:Nd} (h:n∉ns):iJ (qV ns) n ((ns.length+2:Nat):Int)=qV (ns++[n]):=by
  unfold iJ
  rw[wE,if_neg h,KR]
theorem KB {ns:List Nd} (hn:ns.Nodup) {n:Nd} {v:Int} (h:iH (qV ns) n=some v):∃i,i<ns.length∧ns.getD i ol=n∧v=((i+2:Nat):Int):=by
  have hm:=(ny (by rw[wE];exact hn)).1 h
  unfold qV at hm
  obtain⟨p,hp,e⟩:=aa6.1 hm
  simp only[Prod.mk.injEq]at e
  obtain⟨e1,e2⟩:=e
  have h2:=List.mem_zipIdx hp
  refine⟨p.2,by omega,?_,e2.symm⟩
  rw[me,we (by omega),←e1]
  have:=h2.2.2
  simp only[acC]at this
  simp[this]
theorem K7 {ns:List Nd} {n:Nd} (h:iH (qV ns) n=none):n∉ns:=by
  have:=pK.1 h
  rwa [wE]at this
structure fJ (Ta Tn:TypeId) (N ba bm R:Nat) (w:World) (ns:List Nd):Prop where
  out:∃nv,At w ba #[.int .i64 (R:Int),nv, .map (some bm)] Ta∧cH VN 3 Tn w N nv ns
  hm:dy xu eM w bm (qV ns)
  la:N≤ba
  lm:N≤bm
  wf:Wf ns
  room:ns.length≤R
  top:R≤20000
section
variable {Ta Tn T T':TypeId} {N N' ba bm R b sz:Nat} {xs:List Nat} {w w' W:World} {ns:List Nd} {c:Array Value} {v:Value}
theorem fJ.ext (h:dC w w') (k:fJ Ta Tn N ba bm R w ns):fJ Ta Tn N ba bm R w' ns:=by
  obtain⟨nv,h1,h2⟩:=k.out
  exact⟨⟨nv,h.at h1,h.ow h2⟩,h.mapT k.hm,k.la,k.lm,k.wf,k.room,k.top⟩
theorem fJ.mono (k:fJ Ta Tn N ba bm R w ns) (h:N'≤N):fJ Ta Tn N' ba bm R w ns:=by
  obtain⟨nv,h1,h2⟩:=k.out
  exact⟨⟨nv,h1,h2.mono h⟩,k.hm,go h k.la,go h k.lm,k.wf,k.room,k.top⟩
theorem fJ.below (h:Go.RowKit.Below w.heap.size w W) (k:fJ Ta Tn N ba bm R w ns):fJ Ta Tn N ba bm R W ns:=by
  obtain⟨nv,h1,h2⟩:=k.out
  exact⟨⟨nv,On h h1,Below.ow h h2⟩,acl h k.hm,k.la,k.lm,k.wf,k.room,k.top⟩
theorem fJ.grownAt (k:fJ Ta Tn N ba bm R w ns) (hm:At w b c T) (hG:w.grownBy w' (some b)) (hTa:T≠Ta) (hTn:T≠Tn):fJ Ta Tn N ba bm R w' ns:=by
  obtain⟨nv,h1,h2⟩:=k.out
  exact⟨⟨nv,h1.grownAt hm hG hTa.symm,h2.grownAt hm hG hTn⟩,k.hm.grownAt hm hG,k.la,k.lm,k.wf,k.room,k.top⟩
theorem fJ.grownMap {α β:Type} {enc:α→Value} {encV:β→Value} {l:List (α×β)} (k:fJ Ta Tn N ba bm R w ns) (hm:dy enc encV w b l) (hne:b≠bm) (hG:w.grownBy w' (some b)):fJ Ta Tn N ba bm R w' ns:=by
  obtain⟨nv,h1,h2⟩:=k.out
  exact⟨⟨nv,h1.grownMap hm hG,h2.grownMap hm hG⟩,k.hm.grownNe hne.symm hG,k.la,k.lm,k.wf,k.room,k.top⟩
theorem fJ.ne (k:fJ Ta Tn N ba bm R w ns) (hm:At w b c T) (hTa:T≠Ta):b≠ba∧b≠bm:=by
  obtain⟨nv,h1,h2⟩:=k.out
  exact⟨λe=>by subst e;exact ac6 hm h1 hTa rfl,λe=>by subst e;exact acZ hm k.hm rfl⟩
theorem At.dx (k:fJ Ta Tn N ba bm R w ns) (hx:Dx Tn N [ba,bm] w w') (hm:At w b c T) (hTa:T≠Ta) (hTn:T≠Tn):At w' b c T:=by
  obtain⟨n1,n2⟩:=k.ne hm hTa
  unfold At at*
  rw[hx.block b (gQ hm) (.inr ⟨by simp[n1,n2],λc' fr e=>by rw[hm]at e;simp at e;exact hTn e.2.1⟩)]
  exact hm
theorem At.dx3 {bx:Nat} (k:fJ Ta Tn N ba bm R w ns) (hx:Dx Tn N [bx,ba,bm] w w') (hm:At w b c T) (hTa:T≠Ta) (hTn:T≠Tn) (hne:b≠bx):At w' b c T:=by
  obtain⟨n1,n2⟩:=k.ne hm hTa
  unfold At at*
  rw[hx.block b (gQ hm) (.inr ⟨by simp[n1,n2,hne],λc' fr e=>by rw[hm]at e;simp at e;exact hTn e.2.1⟩)]
  exact hm
theorem cH.dx {α:Type} {enc:α→List Value} {l:List α} (k:fJ Ta Tn N ba bm R w ns) (hx:Dx Tn N [ba,bm] w w') (ho:cH enc sz T w N' v l) (hTa:T≠Ta) (hTn:T≠Tn):cH enc sz T w' N' v l:=by
  obtain⟨h1,h2|⟨g,cap,cur,h3,hg,hh,r⟩⟩:=ho
  · exact⟨h1, .inl h2⟩
  · refine⟨h1, .inr ⟨g,cap,cur,h3,hg,?_,r⟩⟩
    exact At.dx (c:=cur) k hx hh hTa hTn
theorem dy.dx {α β:Type} {enc:α→Value} {encV:β→Value} {l:List (α×β)} (k:fJ Ta Tn N ba bm R w ns) (hx:Dx Tn N [ba,bm] w w') (hm:dy enc encV w b l) (hne:b≠bm):dy enc encV w' b l:=by
  obtain⟨nv,h1,h2⟩:=k.out
  obtain⟨f,ck,hf⟩:=hm
  refine⟨f,ck,hf.moved (hx.block b hf.lt (.inr ⟨?_,λc' fr e=> ?_⟩))⟩
  · have:b≠ba:=λe=>by subst e;exact acZ h1 ⟨f,ck,hf⟩ rfl
    simp[this,hne]
  · rw[hf.heap]at e;cases e
end
structure ke (ns ns':List Nd) (R c l:Nat) (S:Nat→Prop) (id:Nat) (er:Int):Prop where
  pre:ns<+:ns'
  cost:ns'.length≤ns.length+c
  res:(er=0∧id<ns'.length+2∧l≤dV ns' id∧∀x,x∈dA ns' id↔S x)∨(er=5∧id=0∧R≤ns'.length)
def PO (Ta Tn:TypeId) (N ba bm R:Nat) (w:World) (ns:List Nd) (c l:Nat) (S:Nat→Prop) (v:Value) (w':World):Prop:=
  ∃(ns':List Nd) (id:Nat) (er:Int),v= .tuple #[.int .i64 (id:Int), .int .i64 er]∧Dx Tn N [ba,bm] w w'∧fJ Ta Tn N ba bm R w' ns'∧ke ns ns' R c l S id er
section
variable {ns ns' ns1 ns2 ns3:List Nd} {R c c1 c2 l:Nat} {S S1 S2:Nat→Prop} {id f:Nat} {er:Int}
theorem gr (h:ns<+:ns'):ns.length≤ns'.length:=h.length_le
theorem ke.same (hid:id<ns.length+2) (hl:l≤dV ns id) (h:∀x,x∈dA ns id↔S x):ke ns ns R c l S id 0:=⟨ab6 _,by omega, .inl ⟨rfl,hid,hl,h⟩⟩
theorem ke.fail (g:ke ns ns1 R c1 l S1 id er) (he:¬er=0) (hc:c1≤c) {l2:Nat}:ke ns ns1 R c l2 S 0 er:=by
  refine⟨g.pre,by have:=g.cost;omega, .inr ?_⟩
  rcases g.res with h|h
  · exact absurd h.1 he
  · exact⟨h.1,rfl,h.2.2⟩
theorem ke.fail2 (g:ke ns ns1 R c1 l S1 id er) {l1 l2 id1:Nat} {er1:Int} (g2:ke ns1 ns2 R c2 l1 S2 id1 er1) (he:¬er1=0) (hc:c1+c2≤c):ke ns ns2 R c l2 S 0 er1:=by
  have h:=ke.fail (S:=S) (l2:=l2) g2 he (am _)
  refine⟨g.pre.trans h.pre,by have:=g.cost;have:=h.cost;omega,h.res⟩
theorem ke.ok (g:ke ns ns1 R c1 l S1 id er) (he:er=0):id<ns1.length+2∧l≤dV ns1 id∧∀x,x∈dA ns1 id↔S1 x:=by
  rcases g.res with h|h
  · exact h.2
  · rw[h.1]at he;cases he
theorem ke.weak (g:ke ns ns1 R c1 l S1 id er) (hc:c1≤c) (h:∀x,S1 x↔S x):ke ns ns1 R c l S id er:=
  ⟨g.pre,by have:=g.cost;omega,g.res.imp (λ⟨a,b,d,e⟩=>⟨a,b,d,λx=>(e x).trans (h x)⟩) _root_.id⟩
theorem ke.then' (g:ke ns ns1 R c1 l S1 id er) {l2 id2:Nat} {er2:Int} (g2:ke ns1 ns2 R c2 l2 S id2 er2) (hc:c1+c2≤c):ke ns ns2 R c l2 S id2 er2:=
  ⟨g.pre.trans g2.pre,by have:=g.cost;have:=g2.cost;omega,g2.res⟩
theorem ke.old (g:ke ns ns1 R c1 l S1 id er) (h:f<ns.length+2):f<ns1.length+2∧dA ns1 f=dA ns f∧dV ns1 f=dV ns f:=
  ⟨by have:=gr g.pre;omega,ii g.pre h,gZ g.pre h⟩
end
def up (l:Nat) (P Q:Nat→Prop) (x:Nat):Prop:=P x∨∃y,Q y∧x=y+2^l
def dI (ns:List Nd) (f l:Nat):Nat:=if 2≤f∧dV ns f=l then (ns.getD (f-2) ol).lo else f
def d8 (ns:List Nd) (f l:Nat):Nat:=if 2≤f∧dV ns f=l then (ns.getD (f-2) ol).hi else 0
structure OC (ns:List Nd) (f l a b:Nat):Prop where
  va:a<ns.length+2
  vb:b<ns.length+2
  la:l<dV ns a
  lb:l<dV ns b
  mem:∀x,x∈dA ns f↔up l (·∈dA ns a) (·∈dA ns b) x
  cnt:(dA ns f).length=(dA ns a).length+(dA ns b).length
theorem iy {ns:List Nd} (h:Wf ns) {f l:Nat} (hf:f<ns.length+2) (hl:l≤dV ns f) (h24:l<24):OC ns f l (dI ns f l) (d8 ns f l):=by
  unfold dI d8
  by_cases hc:2≤f∧dV ns f=l
  · rw[if_pos hc,if_pos hc]
    obtain⟨i,rfl⟩:∃i,f=i+2:=⟨f-2,by omega⟩
    have hi:i<ns.length:=by omega
    obtain⟨a1,a2,a3,a4,a5,a6⟩:=h.ok i hi
    have hl2:=hc.2
    rw[kz]at hl2
    rw[ab5]
    refine⟨by omega,by omega,by omega,by omega,λx=> ?_,?_⟩
    · rw[je h hi,aah,aa6,hl2]
      exact or_congr Iff.rfl ⟨λ⟨y,h1,h2⟩=>⟨y,h1,h2.symm⟩,λ⟨y,h1,h2⟩=>⟨y,h1,h2.symm⟩⟩
    · rw[je h hi,An,aby]
  · rw[if_neg hc,if_neg hc]
    have hlt:l<dV ns f:=by
      rcases abO l (dV ns f)with k|k
      · exact k
      · exfalso
        have e:dV ns f=l:=by omega
        have:¬2≤f:=λq=>hc ⟨q,e⟩
        rw[mm (by omega)]at e
        omega
    refine⟨hf,by omega,hlt,by rw[mm (by decide)];exact h24,λx=> ?_,by rw[og];rfl⟩
    unfold up
    rw[og]
    simp
end
section
open Go Go.RowKit
abbrev M (ns:List Nd) (f:Nat):Nat→Prop:=λx=>x∈dA ns f
theorem jd {ns ns':List Nd} {f:Nat} (hp:ns<+:ns') (h:f<ns.length+2):M ns' f=M ns f:=by
  unfold M;rw[ii hp h]
def Q2 (l:Nat) (P:Nat→Prop):Prop:=∀x,P x→2^(l+1)∣x
theorem Jl {ns:List Nd} (h:Wf ns) {f l:Nat} (hf:f<ns.length+2) (hl:l<dV ns f):Q2 l (M ns f):=λx hx=>ib hl (fj h f hf x hx).1
theorem fI {P Q:Nat→Prop} (h:∀x,P x↔Q x):P=Q:=funext λx=>propext (h x)
theorem uk {l a b:Nat} (ha:2^(l+1)∣a) (hb:2^(l+1)∣b):(a+2^l) ||| b=(a ||| b)+2^l∧a ||| (b+2^l)=(a ||| b)+2^l∧(a+2^l) ||| (b+2^l)=(a ||| b)+2^l∧2^(l+1)∣a ||| b:=by
  obtain⟨p,rfl⟩:=ha
  obtain⟨q,rfl⟩:=hb
  have sh:∀u v:Nat,2^l*u ||| 2^l*v=2^l*(u ||| v):=λu v=>by
    rw[ab2,ab2 (2^l) v,ab2 (2^l) (u ||| v),←Nat.shiftLeft_eq,←Nat.shiftLeft_eq,←Nat.shiftLeft_eq,Nat.shiftLeft_or_distrib]
  have e0:∀u:Nat,2^(l+1)*u=2^l*(2*u):=λu=>by rw[ab3,Nat.mul_assoc]
  have e1:∀u:Nat,2^l*(2*u)+2^l=2^l*(2*u+1):=λu=>by rw[Nat.mul_add,ab4]
  have b0:∀u v:Nat,2*u ||| 2*v=2*(u ||| v):=λu v=>by
    have:=λu v=>(Nat.shiftLeft_or_distrib (a:=u) (b:=v) (i:=1))
    simp only[Nat.shiftLeft_eq,Nat.pow_one]at this
    rw[ab2 2 u,ab2 2 v,ab2 2 (u ||| v),this]
  have odd:∀u v:Nat,(u%2=1∨v%2=1)→u ||| v=2*(u/2 ||| v/2)+1:=λu v h=>by
    refine aaz λi=> ?_
    cases i with
    |zero=>
      rw[abI,Nat.testBit_zero,Nat.testBit_zero,Nat.testBit_zero]
      rcases h with h|h<;>simp[h]<;>omega
    |succ i=>
      rw[abI,Nat.testBit_succ,Nat.testBit_succ,Nat.testBit_succ,←abI]
      congr 1
      omega
  have o1:(2*p+1) ||| (2*q)=2*(p ||| q)+1:=by
    rw[odd _ _ (.inl (by omega)),show (2*p+1)/2=p by omega,show 2*q/2=q by omega]
  have o2:(2*p) ||| (2*q+1)=2*(p ||| q)+1:=by
    rw[odd _ _ (.inr (by omega)),show (2*q+1)/2=q by omega,show 2*p/2=p by omega]
  have o3:(2*p+1) ||| (2*q+1)=2*(p ||| q)+1:=by
    rw[odd _ _ (.inl (by omega)),show (2*p+1)/2=p by omega,show (2*q+1)/2=q by omega]
  rw[e0,e0,e1,e1]
  refine⟨?_,?_,?_,?_⟩
  · rw[sh,sh,o1,b0,e1]
  · rw[sh,sh,o2,b0,e1]
  · rw[sh,sh,o3,b0,e1]
  · exact⟨p ||| q,by rw[sh,b0,e0]⟩
def GO (x y:Nat):Prop:=x ||| y=x
theorem Uc {l:Nat} {P Q:Nat→Prop} (hP:Q2 l P) (hQ:Q2 l Q) {x:Nat}:(x.testBit l=false→(up l P Q x↔P x))∧∀y,2^(l+1)∣y→(up l P Q (y+2^l)↔Q y):=by
  refine⟨λhb=>⟨λh=> ?_, .inl⟩,λy hy=>⟨λh=> ?_,λh=> .inr ⟨y,h,rfl⟩⟩⟩
  · rcases h with h|⟨y,hy,rfl⟩
    · exact h
    · rw[kI (hQ y hy)]at hb;cases hb
  · rcases h with h|⟨z,hz,e⟩
    · have:=gk (hP _ h)
      rw[kI hy]at this;cases this
    · obtain rfl:y=z:=by omega
      exact hz
def bl (x:Nat):Nat:=if x=0 then 0 else Nat.log2 x+1
theorem XT {x T:Nat}:bl x≤T↔x<2^T:=by
  unfold bl
  by_cases h:x=0
  · rw[if_pos h,h]
    exact⟨λ_=>abo T,λ_=>my _⟩
  · rw[if_neg h,←Nat.log2_lt h];omega
def ZN (l:List Nat):Nat:=l.foldr (λx t=>max (bl x) t) 0
theorem NI {T:Nat}:∀{l:List Nat},ZN l≤T↔∀x,x∈l→x<2^T
  |[]=>⟨λ_ x h=>by (cases h),λ_=>my _⟩
  |y::l=>by
    have ih:=NI (T:=T) (l:=l)
    have e:ZN (y::l)=max (bl y) (ZN l):=rfl
    rw[e,Nat.max_le,XT,ih]
    exact⟨λ⟨h1,h2⟩ x hx=>by
      (rcases abl.1 hx with rfl|hx
       · exact h1
       · exact h2 x hx),λh=>⟨h y (aa9 ..),λx hx=>h x (abf _ hx)⟩⟩
def tp (ns:List Nd) (f:Nat):Nat:=ZN (dA ns f)
theorem mA {ns:List Nd} {f T:Nat}:tp ns f≤T↔∀x,x∈dA ns f→x<2^T:=NI
theorem y5 {ns ns':List Nd} {f:Nat} (hp:ns<+:ns') (h:f<ns.length+2):tp ns' f=tp ns f:=by unfold tp;rw[ii hp h]
theorem OC.tpa {ns:List Nd} {f l a b:Nat} (H:OC ns f l a b):tp ns a≤tp ns f:=mA.2 λx hx=>mA.1 (am _) x ((H.mem x).2 (.inl hx))
theorem OC.tpb {ns:List Nd} {f l a b:Nat} (H:OC ns f l a b):tp ns b≤tp ns f:=mA.2 λx hx=>by
  have:=mA.1 (am (tp ns f)) (x+2^l) ((H.mem _).2 (.inr ⟨x,hx,rfl⟩))
  exact abr (Nat.le_add_right _ _) this
theorem uB {ns:List Nd} (h:Wf ns) {f:Nat} (hf:f<ns.length+2) (h2:2≤f):dV ns f<tp ns f:=by
  have h24:=oX h hf h2
  have H:=iy h hf (am _) h24
  have e:d8 ns f (dV ns f)=(ns.getD (f-2) ol).hi:=if_pos ⟨h2,rfl⟩
  obtain⟨i,rfl⟩:∃i,f=i+2:=⟨f-2,by omega⟩
  rw[ab5]at e
  have hne:d8 ns (i+2) (dV ns (i+2))≠0:=by rw[e];exact(h.ok i (by omega)).2.2.1
  obtain⟨y,hy⟩:=ja h _ H.vb hne
  have hm:y+2^dV ns (i+2)∈dA ns (i+2):=(H.mem _).2 (.inr ⟨y,hy,rfl⟩)
  have:=mA.1 (am (tp ns (i+2))) _ hm
  exact(Nat.pow_lt_pow_iff_right (a:=2) (by decide)).1 (abr (Nat.le_add_left _ _) this)
theorem ld {ns ns':List Nd} {f l:Nat} (hp:ns<+:ns') (h:f<ns.length+2):dI ns' f l=dI ns f l∧d8 ns' f l=d8 ns f l:=by
  unfold dI d8
  rw[gZ hp h]
  by_cases hc:2≤f∧dV ns f=l
  · rw[if_pos hc,if_pos hc,if_pos hc,if_pos hc,uD hp (by omega)]
    exact⟨rfl,rfl⟩
  · rw[if_neg hc,if_neg hc,if_neg hc,if_neg hc]
    exact⟨rfl,rfl⟩
structure Op where
  res:(Nat→Prop)→(Nat→Prop)→Nat→Prop
  resH:(Nat→Prop)→(Nat→Prop)→(Nat→Prop)→(Nat→Prop)→Nat→Prop
  ends:Nat→Nat→Nat×Bool
  cst:List Nd→Nat→Nat→Nat
  hcst:List Nd→Nat→Nat→Nat→Nat→Nat→Nat
structure KV (o:Op):Prop where
  dec:∀l A0 A1 B0 B1,Q2 l A0→Q2 l A1→Q2 l B0→Q2 l B1→∀x,o.res (up l A0 A1) (up l B0 B1) x↔up l (o.res A0 B0) (o.resH A0 A1 B0 B1) x
  endT:∀ns f g,Wf ns→f<ns.length+2→g<ns.length+2→(o.ends f g).2=true→(o.ends f g).1<ns.length+2∧min (dV ns f) (dV ns g)≤dV ns (o.ends f g).1∧∀x,x∈dA ns (o.ends f g).1↔o.res (M ns f) (M ns g) x
  endF:∀f g,(o.ends f g).2=false→f≠0∧g≠0∧¬(f<2∧g<2)
  cost:∀ns f g l,Wf ns→f<ns.length+2→g<ns.length+2→(o.ends f g).2=false→l=min (dV ns f) (dV ns g)→l<24→o.cst ns (dI ns f l) (dI ns g l)+o.hcst ns l (dI ns f l) (d8 ns f l) (dI ns g l) (d8 ns g l)+1≤o.cst ns f g
  hpre:∀ns ns' l f0 f1 g0 g1,ns<+:ns'→Wf ns→f0<ns.length+2→f1<ns.length+2→g0<ns.length+2→g1<ns.length+2→o.hcst ns' l f0 f1 g0 g1=o.hcst ns l f0 f1 g0 g1
theorem XF:∀k k1 a0 a1 b0 b1,k1<k→1≤a0+a1→1≤b0+b1→k1*min a0 b0+(k-1)*min a1 b1+1≤k*min (a0+a1) (b0+b1):=by
  intro k k1 a0 a1 b0 b1 hk h1 h2
  obtain⟨m,rfl⟩:∃m,k=m+1:=⟨k-1,by omega⟩
  rw[ab5]
  have e1:k1*min a0 b0≤m*min a0 b0:=abn _ (by omega)
  have e2:m*min a0 b0+m*min a1 b1≤m*min (a0+a1) (b0+b1):=by
    rw[←Nat.mul_add]
    exact Nat.mul_le_mul_left _ (by omega)
  have e3:1≤min (a0+a1) (b0+b1):=by omega
  rw[abJ,abd]
  omega
def cP (en:Nat→Nat→Nat×Bool):Nat→List Nd→Nat→Nat→Nat
  |0,_,_,_=>0
  |n+1,ns,f,g=>if (en f g).2=true then 0 else cP en n ns (dI ns f (min (dV ns f) (dV ns g))) (dI ns g (min (dV ns f) (dV ns g)))+cP en n ns (d8 ns f (min (dV ns f) (dV ns g))) (d8 ns g (min (dV ns f) (dV ns g)))+1
def cE (en:Nat→Nat→Nat×Bool) (ns:List Nd) (f g:Nat):Nat:=cP en (25-min (dV ns f) (dV ns g)) ns f g
def hE (en:Nat→Nat→Nat×Bool) (ns:List Nd) (_ _ f1 _ g1:Nat):Nat:=cE en ns f1 g1
section
variable {en:Nat→Nat→Nat×Bool} {ns ns':List Nd}
theorem CO:∀(n f g:Nat),cP en n ns f g≤cP en (n+1) ns f g
  |0,_,_=>my _
  |n+1,f,g=>by
    rw[cP,cP]
    by_cases h:(en f g).2=true
    · rw[if_pos h,if_pos h];exact am _
    · rw[if_neg h,if_neg h]
      have h1:=CO n (dI ns f (min (dV ns f) (dV ns g))) (dI ns g (min (dV ns f) (dV ns g)))
      have h2:=CO n (d8 ns f (min (dV ns f) (dV ns g))) (d8 ns g (min (dV ns f) (dV ns g)))
      omega
theorem C9 {n m:Nat} (h:n≤m) (f g:Nat):cP en n ns f g≤cP en m ns f g:=by
  obtain⟨d,rfl⟩:∃d,m=n+d:=⟨m-n,by omega⟩
  clear h
  induction d with
  |zero=>exact am _
  |succ d ih=>exact go ih (CO _ _ _)
theorem Dg (h:Wf ns) {f l:Nat} (hf:f<ns.length+2) (hl:l≤dV ns f):dI ns f l<ns.length+2∧d8 ns f l<ns.length+2:=by
  by_cases h24:l<24
  · have H:=iy h hf hl h24
    exact⟨H.va,H.vb⟩
  · have:¬2≤f:=λq=>by have:=oX h hf q;omega
    unfold dI d8
    rw[if_neg (λk=>this k.1),if_neg (λk=>this k.1)]
    exact⟨hf,by omega⟩
theorem HX (hp:ns<+:ns') (h:Wf ns):∀(n f g:Nat),f<ns.length+2→g<ns.length+2→cP en n ns' f g=cP en n ns f g
  |0,_,_,_,_=>rfl
  |n+1,f,g,hf,hg=>by
    rw[cP,cP,gZ hp hf,gZ hp hg,(ld hp hf).1,(ld hp hf).2,(ld hp hg).1,(ld hp hg).2]
    obtain⟨v1,v2⟩:=Dg h hf (Nat.min_le_left (dV ns f) (dV ns g))
    obtain⟨v3,v4⟩:=Dg h hg (acM (dV ns f) (dV ns g))
    rw[HX hp h n _ _ v1 v3,HX hp h n _ _ v2 v4]
theorem NK (hp:ns<+:ns') (h:Wf ns) {f g:Nat} (hf:f<ns.length+2) (hg:g<ns.length+2):cE en ns' f g=cE en ns f g:=by
  unfold cE
  rw[gZ hp hf,gZ hp hg,HX hp h _ _ _ hf hg]
theorem JJ (h:Wf ns) {f g l:Nat} (hf:f<ns.length+2) (hg:g<ns.length+2) (he:(en f g).2=false) (hl:l=min (dV ns f) (dV ns g)) (h24:l<24):
    cE en ns (dI ns f l) (dI ns g l)+hE en ns l (dI ns f l) (d8 ns f l) (dI ns g l) (d8 ns g l)+1≤cE en ns f g:=by
  have H1:=iy h hf (l:=l) (by omega) h24
  have H2:=iy h hg (l:=l) (by omega) h24
  have k1:=H1.la
  have k2:=H1.lb
  have k3:=H2.la
  have k4:=H2.lb
  unfold hE
  rw[show cE en ns f g=cP en (24-l+1) ns f g by unfold cE;rw[←hl];congr 1;omega,cP,if_neg (by rw[he];decide),←hl]
  have h1:=C9 (en:=en) (ns:=ns) (show 25-min (dV ns (dI ns f l)) (dV ns (dI ns g l))≤24-l by omega) (dI ns f l) (dI ns g l)
  have h2:=C9 (en:=en) (ns:=ns) (show 25-min (dV ns (d8 ns f l)) (dV ns (d8 ns g l))≤24-l by omega) (d8 ns f l) (d8 ns g l)
  unfold cE
  omega
theorem WU (h:Wf ns) (hen:∀f g,(en f g).2=false→f≠0∧g≠0∧¬(f<2∧g<2)) (T:Nat):∀(n f g:Nat),f<ns.length+2→g<ns.length+2→tp ns f≤T→tp ns g≤T→cP en n ns f g≤(T-min (dV ns f) (dV ns g))*min (dA ns f).length (dA ns g).length
  |0,_,_,_,_,_,_=>my _
  |n+1,f,g,hf,hg,tf,tg=>by
    rw[cP]
    by_cases he:(en f g).2=true
    · rw[if_pos he];exact my _
    · rw[if_neg he]
      obtain⟨f0,g0,fg⟩:=hen f g (by simpa using he)
      have h1f:=oh h hf
      have h1g:=oh h hg
      have hlt:min (dV ns f) (dV ns g)<24∧min (dV ns f) (dV ns g)<T:=by
        by_cases q:2≤f
        · have:=oX h hf q
          have:=uB h hf q
          omega
        · have q2:2≤g:=by omega
          have:=oX h hg q2
          have:=uB h hg q2
          omega
      generalize hl:min (dV ns f) (dV ns g)=l at hlt ⊢
      have H1:=iy h hf (l:=l) (by omega) hlt.1
      have H2:=iy h hg (l:=l) (by omega) hlt.1
      have k1:=H1.la
      have k2:=H1.lb
      have k3:=H2.la
      have k4:=H2.lb
      have n1:=abC (ja h f hf f0).choose_spec
      have n2:=abC (ja h g hg g0).choose_spec
      have r1:=WU h hen T n _ _ H1.va H2.va (go H1.tpa tf) (go H2.tpa tg)
      have r2:=WU h hen T n _ _ H1.vb H2.vb (go H1.tpb tf) (go H2.tpb tg)
      have r3:=XF (T-l) (T-l-1) (dA ns (dI ns f l)).length (dA ns (d8 ns f l)).length (dA ns (dI ns g l)).length (dA ns (d8 ns g l)).length (by omega) (by have:=H1.cnt;omega) (by have:=H2.cnt;omega)
      rw[←H1.cnt,←H2.cnt]at r3
      have r4:(T-min (dV ns (dI ns f l)) (dV ns (dI ns g l)))*min (dA ns (dI ns f l)).length (dA ns (dI ns g l)).length≤(T-l-1)*min (dA ns (dI ns f l)).length (dA ns (dI ns g l)).length:=abn _ (by omega)
      have r5:(T-min (dV ns (d8 ns f l)) (dV ns (d8 ns g l)))*min (dA ns (d8 ns f l)).length (dA ns (d8 ns g l)).length≤(T-l-1)*min (dA ns (d8 ns f l)).length (dA ns (d8 ns g l)).length:=abn _ (by omega)
      omega
theorem Th (h:Wf ns) (hen:∀f g,(en f g).2=false→f≠0∧g≠0∧¬(f<2∧g<2)) {T f g:Nat} (hf:f<ns.length+2) (hg:g<ns.length+2) (tf:tp ns f≤T) (tg:tp ns g≤T):cE en ns f g≤(T-min (dV ns f) (dV ns g))*min (dA ns f).length (dA ns g).length:=WU h hen T _ f g hf hg tf tg
end
def S4 (f g:Nat):Nat×Bool:=if f=0∨f=g then (g,true)else (f,decide (g=0))
def YN (f g:Nat):Nat×Bool:=if f=0∨f=g then (0,true)else (f,decide (g=0))
def pJ:Op:=⟨λF G x=>F x∨G x,λ_ A1 _ B1 x=>A1 x∨B1 x,S4,cE S4,hE S4⟩
def w8:Op:=⟨λF G x=>F x∧¬G x,λ_ A1 _ B1 x=>A1 x∧¬B1 x,YN,cE YN,hE YN⟩
theorem Nf (ns:List Nd) (x:Nat):¬M ns 0 x:=by unfold M;rw[og];exact λh=>by cases h
theorem Sd (ns:List Nd):dV ns 0=24:=mm (by decide)
theorem HG:KV pJ:=by
  refine⟨λl A0 A1 B0 B1 _ _ _ _ x=> ?_,λns f g h hf hg ht=> ?_,λf g hf=> ?_,λns f g l h hf hg he hl h24=>JJ h hf hg he hl h24,λns ns' l f0 f1 g0 g1 hp h v0 v1 v2 v3=>NK hp h v1 v3⟩
  · simp only[pJ,up]
    constructor
    · rintro((h|⟨y,h,e⟩)|(h|⟨y,h,e⟩))
      · exact .inl (.inl h)
      · exact .inr ⟨y, .inl h,e⟩
      · exact .inl (.inr h)
      · exact .inr ⟨y, .inr h,e⟩
    · rintro((h|h)|⟨y,h|h,e⟩)
      · exact .inl (.inl h)
      · exact .inr (.inl h)
      · exact .inl (.inr ⟨y,h,e⟩)
      · exact .inr (.inr ⟨y,h,e⟩)
  · simp only[pJ,S4]at ht ⊢
    by_cases hc:f=0∨f=g
    · rw[if_pos hc]
      refine⟨hg,acM _ _,λx=>⟨.inr,λh=> ?_⟩⟩
      rcases h with h|h
      · rcases hc with rfl|rfl
        · exact absurd h (Nf ns x)
        · exact h
      · exact h
    · rw[if_neg hc]at ht ⊢
      obtain rfl:g=0:=of_decide_eq_true ht
      exact⟨hf,Nat.min_le_left _ _,λx=>⟨.inl,λh=>h.elim id (λh=>absurd h (Nf ns x))⟩⟩
  · simp only[pJ,S4]at hf
    by_cases hc:f=0∨f=g
    · rw[if_pos hc]at hf;cases hf
    · rw[if_neg hc]at hf
      have:=of_decide_eq_false hf
      omega
theorem G3:KV w8:=by
  refine⟨λl A0 A1 B0 B1 hA0 hA1 hB0 hB1 x=> ?_,λns f g h hf hg ht=> ?_,λf g hf=> ?_,λns f g l h hf hg he hl h24=>JJ h hf hg he hl h24,λns ns' l f0 f1 g0 g1 hp h v0 v1 v2 v3=>NK hp h v1 v3⟩
  · simp only[w8]
    constructor
    · rintro⟨h,k⟩
      rcases h with h|⟨y,h,rfl⟩
      · exact .inl ⟨h,λq=>k (.inl q)⟩
      · exact .inr ⟨y,⟨h,λq=>k (.inr ⟨y,q,rfl⟩)⟩,rfl⟩
    · rintro(⟨h,k⟩|⟨y,⟨h,k⟩,rfl⟩)
      · exact⟨.inl h,λq=>k (((Uc hB0 hB1).1 (gk (hA0 x h))).1 q)⟩
      · exact⟨.inr ⟨y,h,rfl⟩,λq=>k (((Uc (x:=0) hB0 hB1).2 y (hA1 y h)).1 q)⟩
  · simp only[w8,YN]at ht ⊢
    have:=oh h hf
    by_cases hc:f=0∨f=g
    · rw[if_pos hc]
      refine⟨by omega,by rw[Sd];omega,λx=>⟨λk=>absurd k (Nf ns x),λ⟨h1,h2⟩=> ?_⟩⟩
      rcases hc with rfl|rfl
      · exact absurd h1 (Nf ns x)
      · exact absurd h1 h2
    · rw[if_neg hc]at ht ⊢
      obtain rfl:g=0:=of_decide_eq_true ht
      exact⟨hf,Nat.min_le_left _ _,λx=>⟨λk=>⟨k,Nf ns x⟩,λk=>k.1⟩⟩
  · simp only[w8,YN]at hf
    by_cases hc:f=0∨f=g
    · rw[if_pos hc]at hf;cases hf
    · rw[if_neg hc]at hf
      have:=of_decide_eq_false hf
      omega
def tJ:Nat→Nat
  |0=>0
  |k+1=>tJ k+(k+1)
theorem r7:∀{a b:Nat},a≤b→tJ a≤tJ b:=λ{a b} h=>by
  obtain⟨d,rfl⟩:∃d,b=a+d:=⟨b-a,by omega⟩
  clear h
  induction d with
  |zero=>exact am _
  |succ d ih=>show tJ a≤tJ (a+d)+_;omega
def nQ (F G:Nat→Prop) (x:Nat):Prop:=∃a b,F a∧G b∧x=a ||| b
def GE (f g:Nat):Nat×Bool:=if f=0∨g=0 then (0,true)else if f=1 then (g,true)else (f,decide (g=1))
def kJ (ns:List Nd) (f0 f1 g0 g1:Nat):Nat:=max (max (tp ns f0) (tp ns f1)) (max (tp ns g0) (tp ns g1))
def uJ (k a0 a1 b0 b1:Nat):Nat:=k*min (a1*b0) (a0*b1)+k*min (a1*b0+a0*b1) (a1*b1)
def P6 (ns:List Nd) (l f0 f1 g0 g1:Nat):Nat:=uJ (kJ ns f0 f1 g0 g1-(l+1)) (dA ns f0).length (dA ns f1).length (dA ns g0).length (dA ns g1).length
def AD:Nat→List Nd→Nat→Nat→Nat
  |0,_,_,_=>0
  |n+1,ns,f,g=>if (GE f g).2=true then 0 else AD n ns (dI ns f (min (dV ns f) (dV ns g))) (dI ns g (min (dV ns f) (dV ns g)))+(AD n ns (d8 ns f (min (dV ns f) (dV ns g))) (dI ns g (min (dV ns f) (dV ns g)))+AD n ns (dI ns f (min (dV ns f) (dV ns g))) (d8 ns g (min (dV ns f) (dV ns g)))+AD n ns (d8 ns f (min (dV ns f) (dV ns g))) (d8 ns g (min (dV ns f) (dV ns g)))+P6 ns (min (dV ns f) (dV ns g)) (dI ns f (min (dV ns f) (dV ns g))) (d8 ns f (min (dV ns f) (dV ns g))) (dI ns g (min (dV ns f) (dV ns g))) (d8 ns g (min (dV ns f) (dV ns g))))+1
def ra (ns:List Nd) (f g:Nat):Nat:=AD (25-min (dV ns f) (dV ns g)) ns f g
def WW (ns:List Nd) (l f0 f1 g0 g1:Nat):Nat:=ra ns f1 g0+ra ns f0 g1+ra ns f1 g1+P6 ns l f0 f1 g0 g1
def rH:Op:=⟨nQ,λA0 A1 B0 B1 x=>nQ A1 B0 x∨nQ A0 B1 x∨nQ A1 B1 x,GE,ra,WW⟩
theorem Uf {f g:Nat} (hf:(GE f g).2=false):f≠0∧g≠0∧¬(f<2∧g<2):=by
  simp only[GE]at hf
  by_cases hc:f=0∨g=0
  · rw[if_pos hc]at hf;cases hf
  · rw[if_neg hc]at hf
    by_cases h1:f=1
    · rw[if_pos h1]at hf;cases hf
    · rw[if_neg h1]at hf
      have:=of_decide_eq_false hf
      omega
section
variable {ns ns':List Nd}
theorem rW:∀(n f g:Nat),AD n ns f g≤AD (n+1) ns f g
  |0,_,_=>my _
  |n+1,f,g=>by
    rw[AD,AD]
    by_cases h:(GE f g).2=true
    · rw[if_pos h,if_pos h];exact am _
    · rw[if_neg h,if_neg h]
      generalize min (dV ns f) (dV ns g)=l
      have h1:=rW n (dI ns f l) (dI ns g l)
      have h2:=rW n (d8 ns f l) (dI ns g l)
      have h3:=rW n (dI ns f l) (d8 ns g l)
      have h4:=rW n (d8 ns f l) (d8 ns g l)
      omega
theorem u6 {n m:Nat} (h:n≤m) (f g:Nat):AD n ns f g≤AD m ns f g:=by
  obtain⟨d,rfl⟩:∃d,m=n+d:=⟨m-n,by omega⟩
  clear h
  induction d with
  |zero=>exact am _
  |succ d ih=>exact go ih (rW _ _ _)
theorem Iw (hp:ns<+:ns') {l f0 f1 g0 g1:Nat} (v0:f0<ns.length+2) (v1:f1<ns.length+2) (v2:g0<ns.length+2) (v3:g1<ns.length+2):P6 ns' l f0 f1 g0 g1=P6 ns l f0 f1 g0 g1:=by
  unfold P6 kJ
  rw[y5 hp v0,y5 hp v1,y5 hp v2,y5 hp v3,ii hp v0,ii hp v1,ii hp v2,ii hp v3]
theorem uE (hp:ns<+:ns') (h:Wf ns):∀(n f g:Nat),f<ns.length+2→g<ns.length+2→AD n ns' f g=AD n ns f g
  |0,_,_,_,_=>rfl
  |n+1,f,g,hf,hg=>by
    rw[AD,AD,gZ hp hf,gZ hp hg,(ld hp hf).1,(ld hp hf).2,(ld hp hg).1,(ld hp hg).2]
    obtain⟨v1,v2⟩:=Dg h hf (Nat.min_le_left (dV ns f) (dV ns g))
    obtain⟨v3,v4⟩:=Dg h hg (acM (dV ns f) (dV ns g))
    rw[uE hp h n _ _ v1 v3,uE hp h n _ _ v2 v3,uE hp h n _ _ v1 v4,uE hp h n _ _ v2 v4,Iw hp v1 v2 v3 v4]
theorem vJ (hp:ns<+:ns') (h:Wf ns) {f g:Nat} (hf:f<ns.length+2) (hg:g<ns.length+2):ra ns' f g=ra ns f g:=by
  unfold ra
  rw[gZ hp hf,gZ hp hg,uE hp h _ _ _ hf hg]
theorem O1 (h:Wf ns) {f g l:Nat} (hf:f<ns.length+2) (hg:g<ns.length+2) (he:(GE f g).2=false) (hl:l=min (dV ns f) (dV ns g)) (h24:l<24):
    ra ns (dI ns f l) (dI ns g l)+WW ns l (dI ns f l) (d8 ns f l) (dI ns g l) (d8 ns g l)+1≤ra ns f g:=by
  have H1:=iy h hf (l:=l) (by omega) h24
  have H2:=iy h hg (l:=l) (by omega) h24
  have k1:=H1.la
  have k2:=H1.lb
  have k3:=H2.la
  have k4:=H2.lb
  unfold WW
  rw[show ra ns f g=AD (24-l+1) ns f g by unfold ra;rw[←hl];congr 1;omega,AD,if_neg (by rw[he];decide),←hl]
  have h1:=u6 (ns:=ns) (show 25-min (dV ns (dI ns f l)) (dV ns (dI ns g l))≤24-l by omega) (dI ns f l) (dI ns g l)
  have h2:=u6 (ns:=ns) (show 25-min (dV ns (d8 ns f l)) (dV ns (dI ns g l))≤24-l by omega) (d8 ns f l) (dI ns g l)
  have h3:=u6 (ns:=ns) (show 25-min (dV ns (dI ns f l)) (dV ns (d8 ns g l))≤24-l by omega) (dI ns f l) (d8 ns g l)
  have h4:=u6 (ns:=ns) (show 25-min (dV ns (d8 ns f l)) (dV ns (d8 ns g l))≤24-l by omega) (d8 ns f l) (d8 ns g l)
  unfold ra
  omega
theorem XJ (m k1 a0 a1 b0 b1 u x y z q:Nat) (hk:k1≤m) (h1:1≤a0+a1) (h2:1≤b0+b1) (hq:q≤tJ k1*(a0*b0)) (hx:x≤tJ m*(a1*b0)) (hy:y≤tJ m*(a0*b1)) (hz:z≤tJ m*(a1*b1)) (hu:u≤m*(a1*b0+a0*b1+a1*b1)):
    q+(x+y+z+u)+1≤tJ (m+1)*((a0+a1)*(b0+b1)):=by
  have e1:tJ k1*(a0*b0)≤(tJ m+m)*(a0*b0):=abn _ (by have:=r7 hk;omega)
  have e2:(a0+a1)*(b0+b1)=a0*b0+(a1*b0+a0*b1+a1*b1):=by
    rw[abJ,Nat.mul_add,Nat.mul_add];omega
  have e3:1≤(a0+a1)*(b0+b1):=Nat.mul_pos h1 h2
  have e4:tJ (m+1)=(tJ m+m)+1:=by show tJ m+(m+1)=_;omega
  have e5:(tJ m+m)*((a0+a1)*(b0+b1))=(tJ m+m)*(a0*b0)+(tJ m+m)*(a1*b0+a0*b1+a1*b1):=by rw[e2,Nat.mul_add]
  have e6:(tJ m+m)*(a1*b0+a0*b1+a1*b1)=tJ m*(a1*b0)+tJ m*(a0*b1)+tJ m*(a1*b1)+m*(a1*b0+a0*b1+a1*b1):=by
    rw[abJ (tJ m) m,Nat.mul_add (tJ m),Nat.mul_add (tJ m)]
  rw[e4,abJ (tJ m+m) 1,abd]
  omega
theorem X6 {k m a0 a1 b0 b1:Nat} (h:k≤m):uJ k a0 a1 b0 b1≤m*(a1*b0+a0*b1+a1*b1):=by
  unfold uJ
  rw[←Nat.mul_add]
  exact acy h (by omega)
theorem E0 (h:Wf ns) (T:Nat):∀(n f g:Nat),f<ns.length+2→g<ns.length+2→tp ns f≤T→tp ns g≤T→AD n ns f g≤tJ (T-min (dV ns f) (dV ns g))*((dA ns f).length*(dA ns g).length)
  |0,_,_,_,_,_,_=>my _
  |n+1,f,g,hf,hg,tf,tg=>by
    rw[AD]
    by_cases he:(GE f g).2=true
    · rw[if_pos he];exact my _
    · rw[if_neg he]
      obtain⟨f0,g0,fg⟩:=Uf (f:=f) (g:=g) (by simpa using he)
      have h1f:=oh h hf
      have h1g:=oh h hg
      have hlt:min (dV ns f) (dV ns g)<24∧min (dV ns f) (dV ns g)<T:=by
        by_cases q:2≤f
        · have:=oX h hf q
          have:=uB h hf q
          omega
        · have q2:2≤g:=by omega
          have:=oX h hg q2
          have:=uB h hg q2
          omega
      generalize hl:min (dV ns f) (dV ns g)=l at hlt ⊢
      have H1:=iy h hf (l:=l) (by omega) hlt.1
      have H2:=iy h hg (l:=l) (by omega) hlt.1
      have k1:=H1.la
      have k2:=H1.lb
      have k3:=H2.la
      have k4:=H2.lb
      have ta:=go H1.tpa tf
      have tb:=go H1.tpb tf
      have tc:=go H2.tpa tg
      have td:=go H2.tpb tg
      have n1:=abC (ja h f hf f0).choose_spec
      have n2:=abC (ja h g hg g0).choose_spec
      have r1:=E0 h T n _ _ H1.va H2.va ta tc
      have r2:=go (E0 h T n _ _ H1.vb H2.va tb tc) (abn _ (r7 (show T-min (dV ns (d8 ns f l)) (dV ns (dI ns g l))≤T-l-1 by omega)))
      have r3:=go (E0 h T n _ _ H1.va H2.vb ta td) (abn _ (r7 (show T-min (dV ns (dI ns f l)) (dV ns (d8 ns g l))≤T-l-1 by omega)))
      have r4:=go (E0 h T n _ _ H1.vb H2.vb tb td) (abn _ (r7 (show T-min (dV ns (d8 ns f l)) (dV ns (d8 ns g l))≤T-l-1 by omega)))
      have r5:P6 ns l (dI ns f l) (d8 ns f l) (dI ns g l) (d8 ns g l)≤(T-l-1)*_:=X6 (show kJ ns (dI ns f l) (d8 ns f l) (dI ns g l) (d8 ns g l)-(l+1)≤T-l-1 by unfold kJ;omega)
      have r6:=XJ (T-l-1) (T-min (dV ns (dI ns f l)) (dV ns (dI ns g l))) _ _ _ _ _ _ _ _ _ (by omega) (by have:=H1.cnt;omega) (by have:=H2.cnt;omega) r1 r2 r3 r4 r5
      rw[←H1.cnt,←H2.cnt,show T-l-1+1=T-l by omega]at r6
      exact r6
theorem XO (h:Wf ns) {T f g:Nat} (hf:f<ns.length+2) (hg:g<ns.length+2) (tf:tp ns f≤T) (tg:tp ns g≤T):ra ns f g≤tJ (T-min (dV ns f) (dV ns g))*((dA ns f).length*(dA ns g).length):=E0 h T _ f g hf hg tf tg
end
theorem Vs:KV rH:=by
  refine⟨λl A0 A1 B0 B1 hA0 hA1 hB0 hB1 x=> ?_,λns f g h hf hg ht=> ?_,λf g hf=>Uf hf,λns f g l h hf hg he hl h24=>O1 h hf hg he hl h24,λns ns' l f0 f1 g0 g1 hp h v0 v1 v2 v3=> ?_⟩
  · simp only[rH,nQ]
    constructor
    · rintro⟨a,b,ha|⟨p,ha,rfl⟩,hb|⟨q,hb,rfl⟩,rfl⟩
      · exact .inl ⟨a,b,ha,hb,rfl⟩
      · exact .inr ⟨a ||| q, .inr (.inl ⟨a,q,ha,hb,rfl⟩),(uk (hA0 a ha) (hB1 q hb)).2.1⟩
      · exact .inr ⟨p ||| b, .inl ⟨p,b,ha,hb,rfl⟩,(uk (hA1 p ha) (hB0 b hb)).1⟩
      · exact .inr ⟨p ||| q, .inr (.inr ⟨p,q,ha,hb,rfl⟩),(uk (hA1 p ha) (hB1 q hb)).2.2.1⟩
    · rintro(⟨a,b,ha,hb,rfl⟩|⟨y,⟨a,b,ha,hb,rfl⟩|⟨a,b,ha,hb,rfl⟩|⟨a,b,ha,hb,rfl⟩,rfl⟩)
      · exact⟨a,b, .inl ha, .inl hb,rfl⟩
      · exact⟨a+2^l,b, .inr ⟨a,ha,rfl⟩, .inl hb,(uk (hA1 a ha) (hB0 b hb)).1.symm⟩
      · exact⟨a,b+2^l, .inl ha, .inr ⟨b,hb,rfl⟩,(uk (hA0 a ha) (hB1 b hb)).2.1.symm⟩
      · exact⟨a+2^l,b+2^l, .inr ⟨a,ha,rfl⟩, .inr ⟨b,hb,rfl⟩,(uk (hA1 a ha) (hB1 b hb)).2.2.1.symm⟩
  · have hm1:∀x,M ns 1 x↔x=0:=λx=>by unfold M;rw[qw];exact aaL
    simp only[rH,GE]at ht ⊢
    have:=oh h hf
    by_cases hc:f=0∨g=0
    · rw[if_pos hc]
      refine⟨by omega,by rw[Sd];omega,λx=>⟨λk=>absurd k (Nf ns x),λ⟨a,b,h1,h2,_⟩=> ?_⟩⟩
      rcases hc with rfl|rfl
      · exact absurd h1 (Nf ns a)
      · exact absurd h2 (Nf ns b)
    · rw[if_neg hc]at ht ⊢
      by_cases h1:f=1
      · subst h1
        rw[if_pos rfl]
        refine⟨hg,acM _ _,λx=>⟨λk=>⟨0,x,(hm1 0).2 rfl,k,by simp⟩,?_⟩⟩
        rintro⟨a,b,ha,hb,rfl⟩
        rw[(hm1 a).1 ha,Nat.zero_or]
        exact hb
      · rw[if_neg h1]at ht ⊢
        obtain rfl:g=1:=of_decide_eq_true ht
        refine⟨hf,Nat.min_le_left _ _,λx=>⟨λk=>⟨x,0,k,(hm1 0).2 rfl,by simp⟩,?_⟩⟩
        rintro⟨a,b,ha,hb,rfl⟩
        rw[(hm1 b).1 hb,Nat.or_zero]
        exact ha
  · show WW ns' l f0 f1 g0 g1=WW ns l f0 f1 g0 g1
    unfold WW
    rw[vJ hp h v1 v2,vJ hp h v0 v3,vJ hp h v1 v3,Iw hp v0 v1 v2 v3]
def qt (p:Nat×Nat):Value:= .agg #[.int .i64 (p.1:Int), .int .i64 (p.2:Int)]
theorem zI (a b:Nat×Nat) (h:qt a=qt b):a=b:=by
  obtain⟨a1,a2⟩:=a
  obtain⟨b1,b2⟩:=b
  simp only[qt,Value.agg.injEq,Array.mk.injEq,List.cons.injEq,Value.int.injEq,true_and,and_true]at h
  simp only[Prod.mk.injEq]
  omega
structure IC (res:(Nat→Prop)→(Nat→Prop)→Nat→Prop) (ns:List Nd) (p:(Nat×Nat)×Int):Prop where
  v1:p.1.1<ns.length+2
  v2:p.1.2<ns.length+2
  id:∃id:Nat,p.2=(id:Int)∧id<ns.length+2∧min (dV ns p.1.1) (dV ns p.1.2)≤dV ns id∧∀x,x∈dA ns id↔res (M ns p.1.1) (M ns p.1.2) x
def sX (res:(Nat→Prop)→(Nat→Prop)→Nat→Prop) (ns:List Nd) (dl:List ((Nat×Nat)×Int)):Prop:=∀p,p∈dl→IC res ns p
theorem IC.pre {res:(Nat→Prop)→(Nat→Prop)→Nat→Prop} {ns ns':List Nd} {p:(Nat×Nat)×Int} (hp:ns<+:ns') (h:IC res ns p):IC res ns' p:=by
  have hl:=gr hp
  obtain⟨id,h1,h2,h3,h4⟩:=h.id
  refine⟨by have:=h.v1;omega,by have:=h.v2;omega,id,h1,by omega,?_,?_⟩
  · rw[gZ hp h.v1,gZ hp h.v2,gZ hp h2];exact h3
  · rw[jd hp h.v1,jd hp h.v2,ii hp h2];exact h4
theorem sX.pre {res:(Nat→Prop)→(Nat→Prop)→Nat→Prop} {ns ns':List Nd} {dl:List ((Nat×Nat)×Int)} (hp:ns<+:ns') (h:sX res ns dl):sX res ns' dl:=λp q=>(h p q).pre hp
theorem Py {α β:Type} [DecidableEq α] {l:List (α×β)} {k:α} {v:β} {p:α×β} (h:p∈iJ l k v):p∈l∨p=(k,v):=by
  unfold iJ at h
  split at h
  · obtain⟨q,hq,e⟩:=aa6.1 h
    split at e
    · exact .inr e.symm
    · exact .inl (e▸hq)
  · rcases aah.1 h with h|h
    · exact .inl h
    · exact .inr (by simpa using h)
theorem Gm {α β:Type} [DecidableEq α]:∀{l:List (α×β)} {k:α} {v:β},iH l k=some v→(k,v)∈l
  |[],_,_,h=>by cases h
  |(a,b)::r,k,v,h=>by
    simp only[iH]at h
    by_cases e:a=k
    · rw[if_pos e]at h
      cases h;subst e
      exact aa9 ..
    · rw[if_neg e]at h
      exact abf _ (Gm h)
section
variable {o:Op} {ns ns1 ns2 ns3:List Nd} {R f g l l1 l2 c1 c2 c low high id:Nat} {er:Int}
theorem Ws (ho:KV o) (h:Wf ns) (hf:f<ns.length+2) (hg:g<ns.length+2) (hl:l=min (dV ns f) (dV ns g)) (h24:l<24)
    (g1:ke ns ns1 R c1 l1 (o.res (M ns (dI ns f l)) (M ns (dI ns g l))) low 0)
    (g2:ke ns1 ns2 R c2 l2 (o.resH (M ns1 (dI ns f l)) (M ns1 (d8 ns f l)) (M ns1 (dI ns g l)) (M ns1 (d8 ns g l))) high 0)
    (g3:ke ns2 ns3 R 1 l (up l (M ns2 low) (M ns2 high)) id er) (hc:c1+c2+1≤c):ke ns ns3 R c l (o.res (M ns f) (M ns g)) id er:=by
  have H1:=iy h hf (l:=l) (by omega) h24
  have H2:=iy h hg (l:=l) (by omega) h24
  refine(((ke.then' g1 g2 (am _)).then' g3 (am _)).weak (c:=c) (by omega) λx=> ?_)
  obtain⟨v1,_,m1⟩:=g1.ok rfl
  obtain⟨v2,_,m2⟩:=g2.ok rfl
  have eF:M ns f=up l (M ns (dI ns f l)) (M ns (d8 ns f l)):=fI H1.mem
  have eG:M ns g=up l (M ns (dI ns g l)) (M ns (d8 ns g l)):=fI H2.mem
  rw[eF,eG,ho.dec l _ _ _ _ (Jl h H1.va H1.la) (Jl h H1.vb H1.lb) (Jl h H2.va H2.la) (Jl h H2.vb H2.lb)]
  have e1:M ns2 low=o.res (M ns (dI ns f l)) (M ns (dI ns g l)):=by
    rw[jd g2.pre v1];exact fI m1
  have e2:M ns2 high=o.resH (M ns (dI ns f l)) (M ns (d8 ns f l)) (M ns (dI ns g l)) (M ns (d8 ns g l)):=by
    rw[←jd g1.pre H1.va,←jd g1.pre H1.vb,←jd g1.pre H2.va,←jd g1.pre H2.vb];exact fI m2
  rw[e1,e2]
end
end
section
open Go Go.RowKit
section
variable {P:Program} {f:Nat→Value} {w:World} {d:Option Nat} {ty:TypeId} {ps:String} {af:Array Edge} {g:Option (Nat×Bool)} {x y:Operand} {t t2 e:TypeId}
theorem He (hu:P.underlying t=some (.pointer e)):P.underlying t=some (.pointer (P.pointee t)):=by
  rw[hu]
  simp[Program.pointee,hu]
theorem rA {a:Addr} (hx:dk f x= .pointer (some a)) (hy:dk f y= .pointer none) (hu:P.underlying t=some (.pointer e)):(execOp (dk f) ⟨d, .binOp .eql t x y t2,ty,ps,af,g⟩).run P w= .ok (.value (.bool false)) w:=by
  have h:=run_eql_pointer_nil w t (some a) (He hu)
  simp[execOp,hx,hy,eqGuard,h]
theorem UC {m n:Nat} {k:IntKind} {tys:Array TypeId} (hx:dk f x= .int k (m:Int)) (hy:dk f y= .int k (n:Int)):(execOp (dk f) ⟨d, .call ⟨.builtin .min,#[x,y],tys⟩,ty,ps,af,g⟩).run P w= .ok (.value (.int k ((min m n:Nat):Int))) w:=by
  simp[execOp,resolve,invoke,builtin,hx,hy,Builtin.min_,Builtin.min2]
  split<;>omega
theorem FH {q:Nat} {a:Operand} {v:Value} (h:dk f a=v):
    (execOp (dk f) ⟨d, .makeFunc (.func q) #[a] #[],ty,ps,af,g⟩).run P w= .ok (.value (.func (.func q) #[v] #[])) w:=by
  simp[execOp,Instr.makeFunc,h]
theorem Es {cs:Array Value} {n sz:Nat} {v:Value} {k:IntKind} {i:Nat} (hx:dk f x= .agg cs) (hy:dk f y= .int k (i:Int)) (hu:P.underlying t=some (.array n e)) (hi:i<n) (hs:(sizeOf e).run P w= .ok sz w) (hp:(part e cs (i*sz)).run P w= .ok v w):
    (execOp (dk f) ⟨d, .index t x y,ty,ps,af,g⟩).run P w= .ok (.value v) w:=by
  simp[execOp,hx,hy,Instr.index,asIntOf,run_underlying hu,hi,hs,hp]
end
section
variable {P:Program} {fr:Nat→Value} {w:World} {d:Option Nat} {ty:TypeId} {ps:String} {af:Array Edge} {g:Option (Nat×Bool)} {x y:Operand} {t kt et:TypeId} {b:Nat}
variable {α β:Type} [DecidableEq α] {enc:α→Value} {encV:β→Value} {l:List (α×β)} {k:α} {S:Value→Prop}
theorem Ce {z0:Value} {v0:β} (hx:dk fr x= .map (some b)) (hy:dk fr y=enc k) (hT:m3 P t=some (kt,et)) (KO:qJ P kt S) (hS:∀a,S (enc a)) (hi:∀a a',enc a=enc a'→a=a')
    (hz:dW P et=some z0) (hz0:z0=encV v0) (hm:dy enc encV w b l):
    (execOp (dk fr) ⟨d, .lookup t x y true,ty,ps,af,g⟩).run P w= .ok (.value (.tuple #[encV ((iH l k).getD v0), .bool (iH l k).isSome])) w:=by
  subst hz0
  obtain⟨f,clock,hm⟩:=hm
  unfold dW at hz
  obtain⟨i,hi2,hzz⟩:=Do.1 hz
  rcases uu (P:=P) (kt:=kt) (encV:=encV) KO hS hi (f:=f) hm.nodup w k with ⟨h1,h2⟩|⟨j,v,h1,h2,h3⟩
  · rw[pK.2 h2]
    simp[execOp,hx,hy,Instr.lookup,run_underlying (iX hT),getObj,Sem.run,hm.heap,Result.andThen,KO.check w _ (hS k),h1,zeroValue,typeInfo,hi2,hzz]
  · rw[h3]
    simp[execOp,hx,hy,Instr.lookup,run_underlying (iX hT),getObj,Sem.run,hm.heap,Result.andThen,KO.check w _ (hS k),h1]
end
def PD (Ta Tn:TypeId) (N ba bm R bx:Nat) (res:(Nat→Prop)→(Nat→Prop)→Nat→Prop) (w:World) (ns:List Nd) (c l:Nat) (S:Nat→Prop) (v:Value) (w':World):Prop:=
  ∃(ns':List Nd) (id:Nat) (er:Int) (dl:List ((Nat×Nat)×Int)),v= .tuple #[.int .i64 (id:Int), .int .i64 er]∧Dx Tn N [bx,ba,bm] w w'∧fJ Ta Tn N ba bm R w' ns'∧ke ns ns' R c l S id er∧dy qt eM w' bx dl∧sX res ns' dl
theorem PD.dx {Ta Tn:TypeId} {N ba bm R bx:Nat} {res:(Nat→Prop)→(Nat→Prop)→Nat→Prop} {w w':World} {ns:List Nd} {c l:Nat} {S:Nat→Prop} {v:Value} (h:PD Ta Tn N ba bm R bx res w ns c l S v w'):Dx Tn N [bx,ba,bm] w w':=by
  obtain⟨_,_,_,_,_,h,_⟩:=h;exact h
section
variable {Ta Tn T:TypeId} {N N' ba bm R b bx sz:Nat} {w w':World} {ns:List Nd} {c:Array Value} {dl:List ((Nat×Nat)×Int)}
theorem acU (k:fJ Ta Tn N ba bm R w ns) (hq:dy qt eM w bx dl) (hx:Dx Tn N [bx,ba,bm] w w') (hm:At w b c T) (hTa:T≠Ta) (hTn:T≠Tn):At w' b c T:=At.dx3 k hx hm hTa hTn (acZ hm hq)
theorem ads (k:Dx Tn N [ba,bm] w w'):Dx Tn N [bx,ba,bm] w w':=k.mono (λx hx=>abf _ hx)
end
end
section
open Go Go.RowKit
def iK (ns:List Nd) (id:Int):Bool:=decide (2≤id∧id<(ns.length:Int)+2)
theorem Xi {ns:List Nd} {id:Int} (h:¬2≤id):Value.bool false= .bool (iK ns id):=congrArg Value.bool (decide_eq_false (λk=>h k.1)).symm
theorem Xu {ns:List Nd} {id:Int} (h:¬id-2<(ns.length:Int)):Value.bool false= .bool (iK ns id):=congrArg Value.bool (decide_eq_false (λk=>h (by omega))).symm
theorem aaj {ns:List Nd} {id:Int} {x:Nat} (h:2≤id) (h2:id-2<(ns.length:Int)):Value.bool (decide (¬((x:Nat):Int)= -1))= .bool (iK ns id):=congrArg Value.bool (by
  rw[decide_eq_true (show ¬((x:Nat):Int)= -1 by omega)]
  exact(decide_eq_true ⟨h,by omega⟩).symm)
theorem ZD {ns:List Nd} {id:Nat} (h:(id:Int)=0∨(id:Int)=1):Value.int .i64 24= .int .i64 ((dV ns id:Nat):Int):=by
  rw[mm (by omega)];rfl
theorem aaR {ns:List Nd} {id:Nat} (h:¬(id:Int)=0) (h2:¬(id:Int)=1):Value.int .i64 (((ns.getD ((id:Int)-2).toNat ol).l:Nat):Int)= .int .i64 ((dV ns id:Nat):Int):=by
  obtain⟨i,rfl⟩:∃i,id=i+2:=⟨id-2,by omega⟩
  rw[kz,show (((i+2:Nat):Int)-2).toNat=i by omega]
theorem WJ {ns:List Nd} {id:Nat} (hid:id<ns.length+2) (h:¬(id:Int)=0) (h2:¬(id:Int)=1) (h3:iK ns (id:Int)=false):False:=by
  have:=of_decide_eq_false h3
  omega
def m0 (ns:List Nd) (id:Int):Nd:=if iK ns id=true then ns.getD (id-2).toNat ol else ol
theorem QC {ns:List Nd} {id:Int} (h:(!iK ns id)=true):iK ns id=false∧m0 ns id=ol:=by
  have h2:iK ns id=false:=by cases k:iK ns id<;>simp_all
  exact⟨h2,by unfold m0;rw[h2];rfl⟩
theorem Qj {ns:List Nd} {id:Int} (h:(!iK ns id)=false):iK ns id=true∧m0 ns id=ns.getD (id-2).toNat ol:=by
  have h2:iK ns id=true:=by cases k:iK ns id<;>simp_all
  exact⟨h2,by unfold m0;rw[h2];rfl⟩
theorem pp {ns:List Nd} {id:Int}:iK ns id=true↔2≤id∧id<(ns.length:Int)+2:=decide_eq_true_iff
def un (ns:List Nd) (id:Int):Int:=if 0≤id∧id<(ns.length:Int)+2 then ((dV ns id.toNat:Nat):Int)else-1
theorem Yh {ns:List Nd} {id:Int} (h:id=0∨id=1):Value.int .i64 24= .int .i64 (un ns id):=by
  unfold un
  rw[if_pos ⟨by omega,by omega⟩,mm (by omega)];rfl
theorem aab {ns:List Nd} {id:Int} (h3:iK ns id=true):Value.int .i64 (((m0 ns id).l:Nat):Int)= .int .i64 (un ns id):=by
  have h4:=pp.1 h3
  unfold m0 un
  rw[h3,if_pos rfl,if_pos ⟨by omega,by omega⟩]
  obtain⟨i,rfl⟩:∃i:Nat,id=((i+2:Nat):Int):=⟨(id-2).toNat,by omega⟩
  rw[so,kz,show (((i+2:Nat):Int)-2).toNat=i by omega]
theorem Z3 {ns:List Nd} {id:Int} (h:¬id=0) (h2:¬id=1) (h3:iK ns id=false):Value.int .i64 (-1)= .int .i64 (un ns id):=by
  have:=of_decide_eq_false h3
  unfold un
  rw[if_neg (by omega)]
theorem Fu {ns:List Nd} {id:Nat} (h:id<ns.length+2):un ns (id:Int)=((dV ns id:Nat):Int):=by
  unfold un
  rw[if_pos ⟨by omega,by omega⟩,so]
def oT (ns:List Nd) (id:Int):Bool:=decide (0≤id∧id<(ns.length:Int)+2)
theorem MC {ns:List Nd} {id:Int}:oT ns id=true↔0≤id∧id<(ns.length:Int)+2:=decide_eq_true_iff
theorem XV {ns:List Nd} {id:Int} (h:un ns id<0):¬oT ns id=true:=λk=>by
  have:=MC.1 k
  unfold un at h
  rw[if_pos this]at h
  omega
theorem V3 {ns:List Nd} {id:Int} (h:¬un ns id<0):oT ns id=true:=MC.2 (by
  unfold un at h
  split at h
  · assumption
  · omega)
theorem Qi {ns:List Nd} {li:List Int} {k:Nat} (hk:k<li.length) (h:un ns (li.getD k 0)<0):Value.bool false= .bool (li.all (oT ns)):=congrArg Value.bool (Eq.symm (aa0.2 λq=>XV h (aa2.1 q _ (dB hk))))
theorem SJ {ns:List Nd} {li:List Int} {k:Nat} (hk:k=li.length) (h:∀q,q<k→oT ns (li.getD q 0)=true):Value.bool true= .bool (li.all (oT ns)):=congrArg Value.bool (Eq.symm (aa2.2 λx hx=>by
  obtain⟨j,hj,rfl⟩:=List.getElem_of_mem hx
  have:=h j (by omega)
  rwa [me,we hj]at this))
theorem V8 {ns:List Nd} (h:Wf ns) {n:Nd} (hs:(iH (qV ns) n).isSome=true):∃i,i<ns.length∧ns.getD i ol=n∧(iH (qV ns) n).getD 0=((i+2:Nat):Int):=by
  cases k:iH (qV ns) n with
  |none=>rw[k]at hs;cases hs
  |some v=>
    obtain⟨i,h1,h2,h3⟩:=KB h.nd k
    exact⟨i,h1,h2,h3⟩
theorem U4 {ns:List Nd} {n:Nd} (hs:(iH (qV ns) n).isSome=false):n∉ns:=by
  cases k:iH (qV ns) n with
  |none=>exact K7 k
  |some v=>rw[k]at hs;cases hs
theorem Wx {ns:List Nd} (h:Wf ns) {i l lo hi R c:Nat} (hi':i<ns.length) (hn:ns.getD i ol=⟨l,lo,hi⟩):ke ns ns R c l (up l (M ns lo) (M ns hi)) (i+2) 0:=by
  refine ke.same (by omega) (by rw[kz,hn];exact am _) λx=> ?_
  rw[je h hi',hn,aah,aa6]
  exact or_congr Iff.rfl ⟨λ⟨y,a,b⟩=>⟨y,a,b.symm⟩,λ⟨y,a,b⟩=>⟨y,a,b.symm⟩⟩
theorem VR {ns:List Nd} {l lo hi R:Nat} (hlo:lo<ns.length+2) (hhi:hi<ns.length+2):ke ns (ns++[⟨l,lo,hi⟩]) R 1 l (up l (M ns lo) (M ns hi)) (ns.length+2) 0:=by
  refine⟨List.prefix_append _ _,by simp, .inl ⟨rfl,by simp,?_,λx=> ?_⟩⟩
  · rw[kz,me,abz (am _),Nat.sub_self]
    exact am _
  · rw[tt,aah,aa6]
    exact or_congr Iff.rfl ⟨λ⟨y,a,b⟩=>⟨y,a,b.symm⟩,λ⟨y,a,b⟩=>⟨y,a,b.symm⟩⟩
theorem RV {ns:List Nd} {R c l:Nat} {S:Nat→Prop} (h:R≤ns.length):ke ns ns R c l S 0 5:=⟨ab6 _,by omega, .inr ⟨rfl,rfl,h⟩⟩
theorem Le {ns:List Nd} {l lo hi:Nat} (h:(hi:Int)=0):∀x,x∈dA ns lo↔up l (M ns lo) (M ns hi) x:=λx=>by
  obtain rfl:hi=0:=by omega
  unfold up
  exact⟨.inl,λk=>k.elim _root_.id λ⟨y,hy,_⟩=>absurd hy (Nf ns y)⟩
theorem Bk {ns:List Nd} {f:Nat} (h:iK ns (f:Int)=true):2≤f∧m0 ns (f:Int)=ns.getD (f-2) ol∧dV ns f=(m0 ns (f:Int)).l:=by
  have h4:=pp.1 h
  unfold m0
  rw[h,if_pos rfl]
  obtain⟨i,rfl⟩:∃i,f=i+2:=⟨f-2,by omega⟩
  rw[show (((i+2:Nat):Int)-2).toNat=i by omega]
  exact⟨by omega,rfl,kz i⟩
theorem Z7 {ns:List Nd} {f l:Nat} (h:iK ns (f:Int)=true) (hl:((m0 ns (f:Int)).l:Int)=(l:Int)):Value.tuple #[.int .i64 ((m0 ns (f:Int)).lo:Int), .int .i64 ((m0 ns (f:Int)).hi:Int)]= .tuple #[.int .i64 ((dI ns f l:Nat):Int), .int .i64 ((d8 ns f l:Nat):Int)]:=by
  obtain⟨h1,h2,h3⟩:=Bk h
  unfold dI d8
  rw[if_pos ⟨h1,by omega⟩,if_pos ⟨h1,by omega⟩,h2]
theorem XM {ns:List Nd} {f l:Nat} (hf:f<ns.length+2) (h:¬(iK ns (f:Int)=true∧((m0 ns (f:Int)).l:Int)=(l:Int))):Value.tuple #[.int .i64 (f:Int), .int .i64 0]= .tuple #[.int .i64 ((dI ns f l:Nat):Int), .int .i64 ((d8 ns f l:Nat):Int)]:=by
  unfold dI d8
  have hc:¬(2≤f∧dV ns f=l):=λ⟨a,b⟩=>h (by
    have ht:iK ns (f:Int)=true:=pp.2 (by omega)
    obtain⟨_,_,h3⟩:=Bk ht
    exact⟨ht,by omega⟩)
  rw[if_neg hc,if_neg hc]
  rfl
end
section
open Go Go.RowKit
theorem OO {b:Bool} (h:(!b)=true):b=false:=by cases b<;>simp_all
theorem CC {a b:Nat}:decide ((a:Int)=(b:Int))=decide (a=b):=by
  by_cases h:a=b
  · rw[decide_eq_true h,decide_eq_true (by omega)]
  · rw[decide_eq_false h,decide_eq_false (by omega)]
theorem Yp {f g:Nat} (h:(f:Int)=0∨(f:Int)=(g:Int)):Value.tuple #[.int .i64 (g:Int), .bool true]= .tuple #[.int .i64 ((pJ.ends f g).1:Int), .bool (pJ.ends f g).2]:=by
  have e:pJ.ends f g=(g,true):=if_pos (by omega)
  rw[e]
theorem aat {f g:Nat} (h:¬(f:Int)=0) (h2:¬(f:Int)=(g:Int)):Value.tuple #[.int .i64 (f:Int), .bool (decide ((g:Int)=0))]= .tuple #[.int .i64 ((pJ.ends f g).1:Int), .bool (pJ.ends f g).2]:=by
  have e:pJ.ends f g=(f,decide (g=0)):=if_neg (by omega)
  rw[e,show decide ((g:Int)=0)=decide (g=0) from CC (b:=0)]
theorem XU {f g:Nat} (h:(f:Int)=0∨(f:Int)=(g:Int)):Value.tuple #[.int .i64 0, .bool true]= .tuple #[.int .i64 ((w8.ends f g).1:Int), .bool (w8.ends f g).2]:=by
  have e:w8.ends f g=(0,true):=if_pos (by omega)
  rw[e];rfl
theorem aal {f g:Nat} (h:¬(f:Int)=0) (h2:¬(f:Int)=(g:Int)):Value.tuple #[.int .i64 (f:Int), .bool (decide ((g:Int)=0))]= .tuple #[.int .i64 ((w8.ends f g).1:Int), .bool (w8.ends f g).2]:=by
  have e:w8.ends f g=(f,decide (g=0)):=if_neg (by omega)
  rw[e,show decide ((g:Int)=0)=decide (g=0) from CC (b:=0)]
theorem YY {f g:Nat} (h:(f:Int)=0∨(g:Int)=0):Value.tuple #[.int .i64 0, .bool true]= .tuple #[.int .i64 ((rH.ends f g).1:Int), .bool (rH.ends f g).2]:=by
  have e:rH.ends f g=(0,true):=if_pos (by omega)
  rw[e];rfl
theorem aaT {f g:Nat} (h:¬(f:Int)=0) (h2:¬(g:Int)=0) (h3:(f:Int)=1):Value.tuple #[.int .i64 (g:Int), .bool true]= .tuple #[.int .i64 ((rH.ends f g).1:Int), .bool (rH.ends f g).2]:=by
  have e:rH.ends f g=(g,true):=(if_neg (by omega)).trans (if_pos (by omega))
  rw[e]
theorem aaO {f g:Nat} (h:¬(f:Int)=0) (h2:¬(g:Int)=0) (h3:¬(f:Int)=1):Value.tuple #[.int .i64 (f:Int), .bool (decide ((g:Int)=1))]= .tuple #[.int .i64 ((rH.ends f g).1:Int), .bool (rH.ends f g).2]:=by
  have e:rH.ends f g=(f,decide (g=1)):=(if_neg (by omega)).trans (if_neg (by omega))
  rw[e,show decide ((g:Int)=1)=decide (g=1) from CC (b:=1)]
theorem ke.low {ns ns':List Nd} {R c l l2:Nat} {S:Nat→Prop} {id:Nat} {er:Int} (g:ke ns ns' R c l S id er) (h:l2≤l):ke ns ns' R c l2 S id er:=
  ⟨g.pre,g.cost,g.res.imp (λ⟨a,b,d,e⟩=>⟨a,b,by omega,e⟩) _root_.id⟩
theorem ke.cheap {ns ns':List Nd} {R c c2 l:Nat} {S:Nat→Prop} {id:Nat} {er:Int} (g:ke ns ns' R c l S id er) (h:c≤c2):ke ns ns' R c2 l S id er:=g.weak h (λ_=>Iff.rfl)
theorem N1 {res:(Nat→Prop)→(Nat→Prop)→Nat→Prop} {ns:List Nd} {dl:List ((Nat×Nat)×Int)} {f g:Nat} (h:sX res ns dl) (hs:(iH dl (f,g)).isSome=true):
    ∃id:Nat,(iH dl (f,g)).getD 0=(id:Int)∧id<ns.length+2∧min (dV ns f) (dV ns g)≤dV ns id∧∀x,x∈dA ns id↔res (M ns f) (M ns g) x:=by
  cases k:iH dl (f,g)with
  |none=>rw[k]at hs;cases hs
  |some v=>
    obtain⟨id,h1,h2,h3,h4⟩:=(h _ (Gm k)).id
    exact⟨id,h1,h2,h3,h4⟩
theorem Mt {res:(Nat→Prop)→(Nat→Prop)→Nat→Prop} {ns ns':List Nd} {dl:List ((Nat×Nat)×Int)} {f g id l R c:Nat} {er:Int} (h:sX res ns' dl) (hf:f<ns.length+2) (hg:g<ns.length+2) (hl:min (dV ns f) (dV ns g)=l) (hgot:ke ns ns' R c l (res (M ns f) (M ns g)) id er) (he:er=0):sX res ns' (iJ dl (f,g) (id:Int)):=λp hp=>by
  rcases Py hp with hp|rfl
  · exact h p hp
  · obtain⟨v1,v2,v3⟩:=hgot.ok he
    obtain⟨a1,a2,a3⟩:=hgot.old hf
    obtain⟨b1,b2,b3⟩:=hgot.old hg
    refine⟨a1,b1,id,rfl,v1,by rw[a3,b3,hl];exact v2,?_⟩
    rw[jd hgot.pre hf,jd hgot.pre hg]
    exact v3
theorem sX.nil {res:(Nat→Prop)→(Nat→Prop)→Nat→Prop} {ns:List Nd}:sX res ns []:=λp h=>by cases h
theorem jC:∀{l1 l2:List Nat},l1.Nodup→(∀x,x∈l1→x∈l2)→l1.length≤l2.length
  |[],_,_,_=>my _
  |x::xs,l2,hn,hs=>by
    obtain⟨h1,h2⟩:=List.nodup_cons.1 hn
    have hx:=hs x (aa9 ..)
    have:=jC (l2:=l2.erase x) h2 (λy hy=>(List.mem_erase_of_ne (λ(e:y=x)=>h1 (e▸hy))).2 (hs y (abf _ hy)))
    rw[acI hx]at this
    have hp:=abC hx
    rw[aa5];omega
theorem LW {ns ns':List Nd} (h:Wf ns') {id a b:Nat} (hid:id<ns'.length+2) (hs:∀x,x∈dA ns' id→nQ (M ns a) (M ns b) x):(dA ns' id).length≤(dA ns a).length*(dA ns b).length:=by
  have h1:=jC (l2:=(dA ns a).flatMap λx=>(dA ns b).map λy=>x ||| y) (kL h id hid) (λx hx=>by
    obtain⟨p,q,hp,hq,rfl⟩:=hs x hx
    exact acN.2 ⟨p,hp,aa6.2 ⟨q,hq,rfl⟩⟩)
  have h2:∀(l:List Nat),(l.flatMap λx=>(dA ns b).map λy=>x ||| y).length=l.length*(dA ns b).length:=λl=>by
    induction l with
    |nil=>simp
    |cons x l ih=>rw[abv,An,aby,ih,aa5,abJ];omega
  rw[h2]at h1
  exact h1
def Ea (f0 f1 i:Nat):Nat:=[f1,f0,f1].getD i 0
def D5 (g0 g1 i:Nat):Nat:=[g0,g1,g1].getD i 0
def JU (A0 A1 B0 B1:Nat→Prop) (i:Nat) (x:Nat):Prop:=(1≤i∧nQ A1 B0 x)∨(2≤i∧nQ A0 B1 x)∨(3≤i∧nQ A1 B1 x)
def jsz (a0 a1 b0 b1:Nat):Nat→Nat
  |0=>0
  |1=>a1*b0
  |2=>a1*b0+a0*b1
  |_=>a1*b0+a0*b1+a1*b1
def P4 (ns:List Nd) (l f0 f1 g0 g1:Nat):Nat→Nat
  |0=>0
  |1=>ra ns f1 g0
  |2=>ra ns f1 g0+ra ns f0 g1+(kJ ns f0 f1 g0 g1-(l+1))*min ((dA ns f1).length*(dA ns g0).length) ((dA ns f0).length*(dA ns g1).length)
  |_=>ra ns f1 g0+ra ns f0 g1+ra ns f1 g1+P6 ns l f0 f1 g0 g1
theorem aaH (A0 A1 B0 B1:Nat→Prop) (ns:List Nd) (x:Nat):x∈dA ns 0↔JU A0 A1 B0 B1 0 x:=by
  rw[og]
  unfold JU
  exact⟨λh=>(by cases h),λh=>(by omega)⟩
theorem aaC (A0 A1 B0 B1:Nat→Prop) (x:Nat):JU A0 A1 B0 B1 3 x↔rH.resH A0 A1 B0 B1 x:=by
  unfold JU rH
  simp
theorem aad {A0 A1 B0 B1 P Q:Nat→Prop} {i:Nat} (hi:i<3) (hP:P=[A1,A0,A1].getD i A0) (hQ:Q=[B0,B1,B1].getD i B0) (x:Nat):(JU A0 A1 B0 B1 i x∨nQ P Q x)↔JU A0 A1 B0 B1 (i+1) x:=by
  subst hP hQ
  have:i=0∨i=1∨i=2:=by omega
  unfold JU
  rcases this with rfl|rfl|rfl
  · constructor
    · rintro(h|h)
      · omega
      · exact .inl ⟨by omega,h⟩
    · rintro(h|h|h)
      · exact .inr h.2
      · omega
      · omega
  · constructor
    · rintro((h|h|h)|h)
      · exact .inl ⟨by omega,h.2⟩
      · omega
      · omega
      · exact .inr (.inl ⟨by omega,h⟩)
    · rintro(h|h|h)
      · exact .inl (.inl ⟨by omega,h.2⟩)
      · exact .inr h.2
      · omega
  · constructor
    · rintro((h|h|h)|h)
      · exact .inl ⟨by omega,h.2⟩
      · exact .inr (.inl ⟨by omega,h.2⟩)
      · omega
      · exact .inr (.inr ⟨by omega,h⟩)
    · rintro(h|h|h)
      · exact .inl (.inl ⟨by omega,h.2⟩)
      · exact .inl (.inr (.inl ⟨by omega,h.2⟩))
      · exact .inr h.2
theorem Pm {ns:List Nd} {l f0 f1 g0 g1 i:Nat} (hi:i<3):P4 ns l f0 f1 g0 g1 i+(ra ns (Ea f0 f1 i) (D5 g0 g1 i)+(kJ ns f0 f1 g0 g1-(l+1))*min (jsz (dA ns f0).length (dA ns f1).length (dA ns g0).length (dA ns g1).length i) ((dA ns (Ea f0 f1 i)).length*(dA ns (D5 g0 g1 i)).length))=P4 ns l f0 f1 g0 g1 (i+1):=by
  have:i=0∨i=1∨i=2:=by omega
  rcases this with rfl|rfl|rfl
  · show 0+(ra ns f1 g0+_*min 0 _)=ra ns f1 g0
    rw[Nat.zero_min,Nat.mul_zero];omega
  · show ra ns f1 g0+(ra ns f0 g1+_*min _ _)=ra ns f1 g0+ra ns f0 g1+_*min _ _
    exact(Nat.add_assoc _ _ _).symm
  · show ra ns f1 g0+ra ns f0 g1+(kJ ns f0 f1 g0 g1-(l+1))*min ((dA ns f1).length*(dA ns g0).length) ((dA ns f0).length*(dA ns g1).length)+(ra ns f1 g1+(kJ ns f0 f1 g0 g1-(l+1))*min ((dA ns f1).length*(dA ns g0).length+(dA ns f0).length*(dA ns g1).length) ((dA ns f1).length*(dA ns g1).length))=ra ns f1 g0+ra ns f0 g1+ra ns f1 g1+P6 ns l f0 f1 g0 g1
    unfold P6 uJ
    omega
theorem T4 (ns:List Nd) (l f0 f1 g0 g1:Nat) {i:Nat} (h:i≤3):P4 ns l f0 f1 g0 g1 i≤P4 ns l f0 f1 g0 g1 3:=by
  have s0:=Pm (ns:=ns) (l:=l) (f0:=f0) (f1:=f1) (g0:=g0) (g1:=g1) (show 0<3 by decide)
  have s1:=Pm (ns:=ns) (l:=l) (f0:=f0) (f1:=f1) (g0:=g0) (g1:=g1) (show 1<3 by decide)
  have s2:=Pm (ns:=ns) (l:=l) (f0:=f0) (f1:=f1) (g0:=g0) (g1:=g1) (show 2<3 by decide)
  simp only[abP,Nat.reduceAdd]at s0 s1 s2
  have:i=0∨i=1∨i=2∨i=3:=by omega
  rcases this with rfl|rfl|rfl|rfl<;>omega
theorem Y0 {ns:List Nd} {l f0 f1 g0 g1 i:Nat} (hi:i<3):P4 ns l f0 f1 g0 g1 i+ra ns (Ea f0 f1 i) (D5 g0 g1 i)≤P4 ns l f0 f1 g0 g1 3:=by
  refine go ?_ (T4 _ _ _ _ _ _ (show i+1≤3 by omega))
  rw[←Pm hi]
  omega
theorem yz (F G:List Nat):(F.flatMap λx=>G.map λy=>x ||| y).length=F.length*G.length:=by
  induction F with
  |nil=>simp
  |cons x F ih=>rw[abv,An,aby,ih,aa5,abJ,abd];omega
theorem Ai {F G:List Nat} {x:Nat} (h:nQ (·∈F) (·∈G) x):x∈F.flatMap λx=>G.map λy=>x ||| y:=by
  obtain⟨p,q,hp,hq,rfl⟩:=h
  exact acN.2 ⟨p,hp,aa6.2 ⟨q,hq,rfl⟩⟩
theorem Re {ns nsc:List Nd} (h:Wf nsc) {f0 f1 g0 g1 i out:Nat} (ho:out<nsc.length+2) (hi:i<3) (hs:∀x,x∈dA nsc out→JU (M ns f0) (M ns f1) (M ns g0) (M ns g1) i x):(dA nsc out).length≤jsz (dA ns f0).length (dA ns f1).length (dA ns g0).length (dA ns g1).length i:=by
  have hn:=kL h out ho
  have:i=0∨i=1∨i=2:=by omega
  rcases this with rfl|rfl|rfl
  · have:=jC (l2:=[]) hn (λx hx=>by
      have:=hs x hx
      unfold JU at this
      omega)
    exact this
  · have:=jC (l2:=(dA ns f1).flatMap λx=>(dA ns g0).map λy=>x ||| y) hn (λx hx=>by
      rcases hs x hx with h|h|h
      · exact Ai h.2
      · omega
      · omega)
    rwa [yz]at this
  · have:=jC (l2:=((dA ns f1).flatMap λx=>(dA ns g0).map λy=>x ||| y)++((dA ns f0).flatMap λx=>(dA ns g1).map λy=>x ||| y)) hn (λx hx=>by
      rcases hs x hx with h|h|h
      · exact aah.2 (.inl (Ai h.2))
      · exact aah.2 (.inr (Ai h.2))
      · omega)
    rwa [An,yz,yz]at this
theorem xV {ns:List Nd} {f g K x:Nat} (hf:tp ns f≤K) (hg:tp ns g≤K) (h:nQ (M ns f) (M ns g) x):x<2^K:=by
  obtain⟨a,b,ha,hb,rfl⟩:=h
  exact Nat.or_lt_two_pow (mA.1 hf a ha) (mA.1 hg b hb)
theorem Y9 {ns nsc:List Nd} {f0 f1 g0 g1 i out:Nat} (hs:∀x,x∈dA nsc out→JU (M ns f0) (M ns f1) (M ns g0) (M ns g1) i x):tp nsc out≤kJ ns f0 f1 g0 g1:=mA.2 λx hx=>by
  have k:tp ns f0≤kJ ns f0 f1 g0 g1∧tp ns f1≤kJ ns f0 f1 g0 g1∧tp ns g0≤kJ ns f0 f1 g0 g1∧tp ns g1≤kJ ns f0 f1 g0 g1:=by unfold kJ;omega
  rcases hs x hx with h|h|h
  · exact xV k.2.1 k.2.2.1 h.2
  · exact xV k.1 k.2.2.2 h.2
  · exact xV k.2.1 k.2.2.2 h.2
theorem rY {i:Nat} (hi:i<3) (f0 f1:Nat):Ea f0 f1 i=f0∨Ea f0 f1 i=f1:=by
  have:i=0∨i=1∨i=2:=by omega
  rcases this with rfl|rfl|rfl
  · exact .inr rfl
  · exact .inl rfl
  · exact .inr rfl
theorem ru {i:Nat} (hi:i<3) (g0 g1:Nat):D5 g0 g1 i=g0∨D5 g0 g1 i=g1:=by
  have:i=0∨i=1∨i=2:=by omega
  rcases this with rfl|rfl|rfl
  · exact .inl rfl
  · exact .inr rfl
  · exact .inr rfl
theorem Vn {ns nsc ns1 ns2:List Nd} {R l i f0 f1 g0 g1 out id id2:Nat} {er2:Int} (hw:Wf ns) (hcw:Wf nsc) (h1w:Wf ns1) (hi:i<3) (hl:l<24)
    (v0:f0<ns.length+2) (v1:f1<ns.length+2) (v2:g0<ns.length+2) (v3:g1<ns.length+2) (k0:l<dV ns f0) (k1:l<dV ns f1) (k2:l<dV ns g0) (k3:l<dV ns g1)
    (g:ke ns nsc R (P4 ns l f0 f1 g0 g1 i) (l+1) (JU (M ns f0) (M ns f1) (M ns g0) (M ns g1) i) out 0)
    (gd:ke nsc ns1 R (rH.cst nsc (Ea f0 f1 i) (D5 g0 g1 i)) (min (dV nsc (Ea f0 f1 i)) (dV nsc (D5 g0 g1 i))) (rH.res (M nsc (Ea f0 f1 i)) (M nsc (D5 g0 g1 i))) id 0)
    (gu:ke ns1 ns2 R (pJ.cst ns1 out id) (min (dV ns1 out) (dV ns1 id)) (pJ.res (M ns1 out) (M ns1 id)) id2 er2):
    ke ns ns2 R (P4 ns l f0 f1 g0 g1 (i+1)) (l+1) (JU (M ns f0) (M ns f1) (M ns g0) (M ns g1) (i+1)) id2 er2:=by
  obtain⟨o1,o2,o3⟩:=g.ok rfl
  obtain⟨d1,d2,d3⟩:=gd.ok rfl
  obtain⟨q1,q2,q3⟩:=gd.old o1
  have hpx:Ea f0 f1 i<ns.length+2:=by rcases rY hi f0 f1 with e|e<;>rw[e]<;>assumption
  have hpy:D5 g0 g1 i<ns.length+2:=by rcases ru hi g0 g1 with e|e<;>rw[e]<;>assumption
  have hlx:l<dV ns (Ea f0 f1 i):=by rcases rY hi f0 f1 with e|e<;>rw[e]<;>assumption
  have hly:l<dV ns (D5 g0 g1 i):=by rcases ru hi g0 g1 with e|e<;>rw[e]<;>assumption
  obtain⟨x1,x2,x3⟩:=g.old hpx
  obtain⟨y1,y2,y3⟩:=g.old hpy
  have hc:=LW (ns:=nsc) h1w d1 (λx hx=>(d3 x).1 hx)
  rw[x2,y2]at hc
  have hco:=Re hcw o1 hi (λx hx=>(o3 x).1 hx)
  have hto:tp ns1 out≤kJ ns f0 f1 g0 g1:=by rw[y5 gd.pre o1];exact Y9 (λx hx=>(o3 x).1 hx)
  have htd:tp ns1 id≤kJ ns f0 f1 g0 g1:=mA.2 λx hx=>by
    have h:=(d3 x).1 hx
    rw[jd g.pre hpx,jd g.pre hpy]at h
    refine xV ?_ ?_ h
    · unfold kJ;rcases rY hi f0 f1 with e|e<;>rw[e]<;>omega
    · unfold kJ;rcases ru hi g0 g1 with e|e<;>rw[e]<;>omega
  have eu:pJ.cst ns1 out id≤(kJ ns f0 f1 g0 g1-(l+1))*min (jsz (dA ns f0).length (dA ns f1).length (dA ns g0).length (dA ns g1).length i) ((dA ns (Ea f0 f1 i)).length*(dA ns (D5 g0 g1 i)).length):=by
    refine go (Th h1w HG.endF q1 d1 hto htd) ?_
    rw[x3,y3]at d2
    rw[q3,q2]
    exact acy (by omega) (by omega)
  have ed:rH.cst nsc (Ea f0 f1 i) (D5 g0 g1 i)=ra ns (Ea f0 f1 i) (D5 g0 g1 i):=vJ g.pre hw hpx hpy
  rw[ed]at gd
  refine(((g.then' gd (am _)).then' gu (am _)).weak (c:=P4 ns l f0 f1 g0 g1 (i+1)) ?_ λx=> ?_).low (by rw[x3,y3]at d2;omega)
  · rw[←Pm hi]
    omega
  · have ePx:([M ns f1,M ns f0,M ns f1].getD i (M ns f0))=M ns (Ea f0 f1 i):=by
      have:i=0∨i=1∨i=2:=by omega
      rcases this with rfl|rfl|rfl<;>rfl
    have ePy:([M ns g0,M ns g1,M ns g1].getD i (M ns g0))=M ns (D5 g0 g1 i):=by
      have:i=0∨i=1∨i=2:=by omega
      rcases this with rfl|rfl|rfl<;>rfl
    rw[←aad hi rfl rfl,ePx,ePy]
    refine or_congr ?_ ?_
    · show x∈dA ns1 out↔_
      rw[q2];exact o3 x
    · rw[←jd g.pre hpx,←jd g.pre hpy]
      exact d3 x
end
section
open Go Go.RowKit
theorem F1 {n l:Nat}:((n/2^l &&& 1:Nat):Int)=1↔n.testBit l=true:=by
  rw[Nat.and_one_is_mod,abB,decide_eq_true_eq]
  omega
section
variable {P:Program} {f:Nat→Value} {w:World} {d:Option Nat} {ty:TypeId} {ps:String} {af:Array Edge} {g:Option (Nat×Bool)} {x y:Operand} {t t2:TypeId}
theorem Wa {a b:Int} {yk:IntKind} (hx:dk f x= .int .i64 a) (hy:dk f y= .int yk b) (h0:0≤a) (hb:0≤b) (hl:b≤64):(execOp (dk f) ⟨d, .binOp .shr t x y t2,ty,ps,af,g⟩).run P w= .ok (.value (.int .i64 ((a.toNat/2^b.toNat:Nat):Int))) w:=by
  obtain⟨m,rfl⟩:=abj h0
  rw[qQ hx hy hb (by simpa [IntKind.bits] using hl),so]
end
def T5 (n l:Nat):Nat:=n/2^l*2^l
theorem Ju (n l:Nat):T5 n l=T5 n (l+1)+(if n.testBit l then 2^l else 0):=by
  unfold T5
  have e:n/2^(l+1)=n/2^l/2:=by rw[Nat.div_div_eq_div_mul,ab3]
  have hb:n.testBit l=decide (n/2^l%2=1):=abB
  rw[e,hb,ab3]
  have h2:=Nat.div_add_mod (n/2^l) 2
  generalize n/2^l=q at*
  generalize 2^l=p at*
  by_cases h:q%2=1
  · rw[if_pos (decide_eq_true h)]
    rw[h]at h2
    conv=>lhs;rw[←h2]
    rw[abJ,abd]
    congr 1
    rw[ab2 2,Nat.mul_assoc,ab2 2 p]
  · have h0:q%2=0:=by omega
    rw[if_neg (by simpa using h)]
    rw[h0]at h2
    conv=>lhs;rw[←h2]
    rw[ab7,ab7,ab2 2,Nat.mul_assoc,ab2 2 p]
theorem PZ {n:Nat} (h:n<2^24):T5 n 24=0:=by
  unfold T5;rw[Nat.div_eq_of_lt h,ach]
theorem Jg (n:Nat):T5 n 0=n:=by unfold T5;simp
def bS (l:List Int) (lv:Nat) (x:Nat):Prop:=∃m,m∈l∧x=T5 m.toNat lv
def BW (l:List Int) (lv k:Nat):List Int:=(l.take k).filter λm=> !m.toNat.testBit lv
def Bq (l:List Int) (lv k:Nat):List Int:=(l.take k).filter λm=>m.toNat.testBit lv
theorem Nh {l:List Int} {k:Nat} (h:k<l.length):l.take (k+1)=l.take k++[l.getD k 0]:=by
  rw[abt,me,we h];rfl
theorem Zm {l:List Int} {lv k:Nat} (h:k<l.length) (hb:(l.getD k 0).toNat.testBit lv=true):Bq l lv k++[l.getD k 0]=Bq l lv (k+1)∧BW l lv k=BW l lv (k+1):=by
  unfold Bq BW
  rw[Nh h,acz,acz]
  simp only[acu,List.filter_nil,hb,Bool.not_true,if_true]
  simp
theorem YE {l:List Int} {lv k:Nat} (h:k<l.length) (hb:¬(l.getD k 0).toNat.testBit lv=true):BW l lv k++[l.getD k 0]=BW l lv (k+1)∧Bq l lv k=Bq l lv (k+1):=by
  have hb2:(l.getD k 0).toNat.testBit lv=false:=aa0.2 hb
  unfold Bq BW
  rw[Nh h,acz,acz]
  simp only[acu,List.filter_nil,hb2,Bool.not_false,if_true]
  simp
theorem OK (l:List Int) (lv:Nat):∀k,(BW l lv k).length+(Bq l lv k).length=(l.take k).length:=λk=>by
  unfold BW Bq
  generalize l.take k=q
  induction q with
  |nil=>rfl
  |cons a q ih=>
    simp only[acu]
    cases a.toNat.testBit lv<;>simp<;>omega
theorem VA {l:List Int} {lv k:Nat} {m:Int} (h:m∈BW l lv k):m∈l:=List.mem_of_mem_take (abQ.1 h).1
theorem VU {l:List Int} {lv k:Nat} {m:Int} (h:m∈Bq l lv k):m∈l:=List.mem_of_mem_take (abQ.1 h).1
theorem Px (l:List Int) (lv x:Nat):up lv (bS (BW l lv l.length) (lv+1)) (bS (Bq l lv l.length) (lv+1)) x↔bS l lv x:=by
  unfold up bS BW Bq
  rw[aa7]
  simp only[abQ]
  constructor
  · rintro(⟨m,⟨h1,h2⟩,rfl⟩|⟨y,⟨m,⟨h1,h2⟩,rfl⟩,rfl⟩)
    · refine⟨m,h1,?_⟩
      have h3:m.toNat.testBit lv=false:=by simpa using h2
      rw[Ju m.toNat lv,h3];rfl
    · refine⟨m,h1,?_⟩
      rw[Ju m.toNat lv,h2];rfl
  · rintro⟨m,h1,rfl⟩
    cases hb:m.toNat.testBit lv with
    |true=>exact .inr ⟨_,⟨m,⟨h1,hb⟩,rfl⟩,by rw[Ju m.toNat lv,hb];rfl⟩
    |false=>exact .inl ⟨m,⟨h1,by rw[hb];rfl⟩,by rw[Ju m.toNat lv,hb];rfl⟩
def P2:Nat→Nat→Nat→Nat
  |0,_,_=>0
  |n+1,lv,m=>(if m.testBit lv=true then 1 else 0)+P2 n (lv+1) m
def yf (lv:Nat):List Int→Nat
  |[]=>0
  |m::l=>P2 (24-lv) lv m.toNat+yf lv l
theorem El {lv:Nat} (h24:lv<24) (l:List Int):yf lv l=yf (lv+1) (l.filter λm=> !m.toNat.testBit lv)+yf (lv+1) (l.filter λm=>m.toNat.testBit lv)+(l.filter λm=>m.toNat.testBit lv).length:=by
  induction l with
  |nil=>rfl
  |cons m l ih=>
    obtain⟨n,hn⟩:∃n,24-lv=n+1:=⟨24-lv-1,by omega⟩
    have e:24-(lv+1)=n:=by omega
    have h1:yf lv (m::l)=(if m.toNat.testBit lv=true then 1 else 0)+P2 n (lv+1) m.toNat+yf lv l:=by rw[yf,hn,P2]
    rw[h1,ih]
    cases hb:m.toNat.testBit lv
    · simp only[acu,hb,Bool.not_false,if_true,ack,if_false,yf,e];omega
    · simp only[acu,hb,Bool.not_true,if_true,ack,if_false,yf,e,aa5];omega
theorem Ov:∀(l:List Int),yf 0 l≤24*l.length
  |[]=>my _
  |m::l=>by
    have ih:=Ov l
    have h1:∀n lv,P2 n lv m.toNat≤n:=λn=>by
      induction n with
      |zero=>intro lv;exact my _
      |succ n ih=>intro lv;have:=ih (lv+1);rw[P2];split<;>omega
    have h2:=h1 (24-0) 0
    rw[yf,aa5,Nat.mul_add,ab4]
    omega
theorem Lp {ns ns1 ns2 ns3:List Nd} {l:List Int} {R lv low high id:Nat} {er:Int} (h2w:Wf ns2) (h24:lv<24) (hl:1≤l.length)
    (g1:ke ns ns1 R (yf (lv+1) (BW l lv l.length)) (lv+1) (bS (BW l lv l.length) (lv+1)) low 0) (g2:ke ns1 ns2 R (yf (lv+1) (Bq l lv l.length)) (lv+1) (bS (Bq l lv l.length) (lv+1)) high 0)
    (g3:ke ns2 ns3 R (min high 1) lv (up lv (M ns2 low) (M ns2 high)) id er):ke ns ns3 R (yf lv l) lv (bS l lv) id er:=by
  obtain⟨v1,_,m1⟩:=g1.ok rfl
  obtain⟨v2,_,m2⟩:=g2.ok rfl
  refine((g1.then' g2 (am _)).then' g3 (am _)).weak ?_ λx=> ?_
  · have hs:=El h24 l
    have ew:BW l lv l.length=l.filter λm=> !m.toNat.testBit lv:=by unfold BW;rw[aa7]
    have ei:Bq l lv l.length=l.filter λm=>m.toNat.testBit lv:=by unfold Bq;rw[aa7]
    rw[←ew,←ei]at hs
    by_cases h0:high=0
    · subst h0;omega
    · obtain⟨y,hy⟩:=ja h2w high v2 h0
      obtain⟨m,hm,_⟩:=(m2 y).1 hy
      have:=abC hm
      omega
  · rw[←Px l lv x,show M ns2 low=bS (BW l lv l.length) (lv+1)by rw[jd g2.pre v1];exact fI m1,show M ns2 high=bS (Bq l lv l.length) (lv+1) from fI m2]
theorem OB {l:List Int} {lv:Nat} (h24:lv<24):yf (lv+1) (BW l lv l.length)+yf (lv+1) (Bq l lv l.length)≤yf lv l:=by
  unfold BW Bq
  rw[aa7,El h24 l]
  omega
theorem S3 {ns:List Nd} {l:List Int} {lv:Nat} (h:¬(1≤l.length)) (x:Nat):x∈dA ns 0↔bS l lv x:=by
  rw[og]
  have:l=[]:=abk (by omega)
  subst this
  exact⟨λh=>(by cases h),λ⟨m,h,_⟩=>(by cases h)⟩
theorem Sc {ns:List Nd} {l:List Int} (h:1≤l.length) (hm:∀m,m∈l→0≤m∧m<16777216) (x:Nat):x∈dA ns 1↔bS l 24 x:=by
  rw[qw,aaL]
  constructor
  · rintro rfl
    obtain⟨m,hm2⟩:=List.exists_mem_of_length_pos (show 0<l.length by omega)
    exact⟨m,hm2,(PZ (by have:=hm m hm2;omega)).symm⟩
  · rintro⟨m,h2,rfl⟩
    exact PZ (by have:=hm m h2;omega)
theorem Oc {ns ns':List Nd} (h:Wf ns') {id a:Nat} (hid:id<ns'.length+2) (hs:∀x,x∈dA ns' id→x∈dA ns a):(dA ns' id).length≤(dA ns a).length:=jC (kL h id hid) hs
def lsS (F:Nat→Prop) (x:Nat):Prop:=F x∧∀y,F y→GO x y→y=x
def abb (ns:List Nd) (id:Int):Int:=if oT ns id=true then (((dA ns id.toNat).length:Nat):Int)else 0
def Hb (l:List Int):Bool:=l.all λm=>decide (0≤m∧m<16777216)
theorem vL {l:List Int}:Hb l=true↔∀m,m∈l→0≤m∧m<16777216:=by
  unfold Hb
  rw[aa2]
  exact⟨λh m hm=>of_decide_eq_true (h m hm),λh m hm=>decide_eq_true (h m hm)⟩
theorem Ua {l:List Int} {k:Nat} (hk:k<l.length) (h:l.getD k 0<0∨16777216≤l.getD k 0):Hb l=false:=aa0.2 λq=>by
  have:=vL.1 q _ (dB (d:=0) hk)
  omega
theorem Rb {l:List Int} {k:Nat} (hk:k=l.length) (h:∀q,q<k→0≤l.getD q 0∧l.getD q 0<16777216):Hb l=true:=vL.2 λm hm=>by
  obtain⟨j,hj,rfl⟩:=List.getElem_of_mem hm
  have:=h j (by omega)
  rwa [me,we hj]at this
def PE (Ta Tn:TypeId) (N ba bm R:Nat) (w:World) (ns:List Nd) (ok:Bool) (c l:Nat) (S:Nat→Prop) (v:Value) (w':World):Prop:=
  ∃(ns':List Nd) (id:Nat) (er:Int),v= .tuple #[.int .i64 (id:Int), .int .i64 er]∧Dx Tn N [ba,bm] w w'∧fJ Ta Tn N ba bm R w' ns'∧((ok=true∧ke ns ns' R c l S id er)∨(ok=false∧ns'=ns∧id=0∧er=1))
end
end
end Go.Proofs.YtedeonkjellcpaaGreatDoor
