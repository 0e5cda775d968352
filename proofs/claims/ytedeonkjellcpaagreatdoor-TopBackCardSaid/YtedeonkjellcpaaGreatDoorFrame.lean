/- More operations on memory: new rows of a size, elements that are written, parts of slices, appends onto what has no room. Maps of the call's own: what a map's block holds, as a list of keys and values; one law for each operation on maps; ranges over a map in any order. Parts of slices, and appends o -/
import Derived.Test.YtedeonkjellcpaaGreatDoorLift1
import Derived.Maps.RangeRun
import Derived.MapKept
import Derived.Laws.Strings2
import Derived.Laws.Strings3
import Derived.Laws.Concat
import Derived.Laws.BytesString
import Derived.Laws.RangeAny
import Derived.Deep.Draws
import Derived.Stop.IfaceNil
import Derived.Lib.Split
import Derived.Lib.SplitLaws
import Derived.Lib.IndexMore
import Derived.Lib.ItoaNum
import Derived.Lib.AtoiAllCases
import Derived.Lib.ConvBytes
import Derived.WalkSmall
import Derived.Lib.Strings
import Derived.Maps.AppendAt
namespace Go.Proofs.YtedeonkjellcpaaGreatDoor
set_option linter.unusedVariables false
set_option linter.unusedSimpArgs false
section
open Go Go.RowKit
def YA (S:List Nat) (a b:Nat):Bool:=
 match S with
 |c::d::r=>cond (cond (Nat.ble c a) (Nat.ble b d) false) true (YA r a b)
 |_=>false
def Rf (l S:List Nat):Bool:=
 match l with
 |a::b::r=>cond (YA S a b) (Rf r S) false
 |_=>true
theorem Ic:∀(S:List Nat) {a b t:Nat},YA S a b=true→a≤t→t≤b→oS S t=true
 |[],_,_,_,h,_,_=>by cases h
 |[_],_,_,_,h,_,_=>by cases h
 |c::d::r,a,b,t,h,h1,h2=>by
  have ih:=Ic r (a:=a) (b:=b) (t:=t)
  simp only[YA,oS,Bool.cond_eq_ite,Bool.if_true_left,Bool.if_false_right,aaU,we,Nat.ble_eq,Bool.decide_eq_true]at h ⊢
  grind
theorem FB {t:Nat}:∀(l S:List Nat),Rf l S=true→oS l t=true→oS S t=true
 |[],_,_,h=>by cases h
 |[_],_,_,h=>by cases h
 |a::b::r,S,h,k=>by
  have ih:=FB (t:=t) r S
  have q:=Ic S (a:=a) (b:=b) (t:=t)
  simp only[Rf,oS,Bool.cond_eq_ite,Bool.if_true_left,Bool.if_false_right,aaU,we,Nat.ble_eq,Bool.decide_eq_true]at h k
  grind
theorem abk {S S':List Nat} {f g h:Nat→Value} (hs:Rf S' S=true) (k:dB S f h):dB S (Go.Proofs.YtedeonkjellcpaaGreatDoor.mask S' f g) h:=by
 intro t ht
 have hm:oS S' t=false:=by
  cases e:oS S' t with
  |false=>rfl
  |true=>have:=FB S' S hs e;rw[ht]at this;cases this
 simp only[Go.Proofs.YtedeonkjellcpaaGreatDoor.mask,hm,cond_false]
 exact k t ht
theorem acm {P:Program} {o:Oper} {f:Nat→Value} {w:World} {g:Nat} {vs:Array Value} {K Post:Value→World→Prop}
  (h:(execOp (dg f) o).run P w= .ok (.enter g vs) w) (hc:mS P g vs w Post) (hK:∀v w',Post v w'→K v w'):Yd P o f w K:=by
 refine⟨λa ha Q=> ?_⟩
 unfold Oper.wp
 rw[ha,h]
 refine Calls.mono hc.out λe w' ⟨v,he,hq⟩=> ?_
 subst he
 exact⟨v,rfl,hK v w' hq⟩
theorem mA {P:Program} {n:Nat} {ops:Array Oper} {Q:(Nat→Value)→World→Prop} {o:Oper} {rest:List Oper} {f:Nat→Value} {w:World} {dd:Option Nat} {g:Nat} {vs:Array Value} {Post:Value→World→Prop}
  (hg:fW ops f o=true) (he:o.dst=dd) (hd:jM n dd=true) (hr:(execOp (dg f) o).run P w= .ok (.enter g vs) w)
  (hc:mS P g vs w Post) (h:∀v w',Post v w'→WL P n ops Q rest (updo f dd v) w'):WL P n ops Q (o::rest) f w:=gK hg he hd (acm hr hc h)
theorem cC {a b c:World} {row:Option Nat} (h:a.grownBy b row) (k:b.grownBy c row):a.grownBy c row:=
 ⟨k.os.trans h.os,k.tape.trans h.tape,k.output.trans h.output,an h.size k.size,λi hi hne=>(k.block i (aao hi h.size) hne).trans (h.block i hi hne)⟩
theorem dX (cs:Array Value):(Value.agg cs).cells=cs:=rfl
theorem dG {Q:Nat→Prop} {k:Nat} (h:∀p,p<k→Q p) (hk:Q k):∀p,p<k+1→Q p:=λp hp=>by
 rcases aac.1 hp with hp|rfl
 ·exact h p hp
 ·exact hk
theorem ef {Q:Nat→Prop}:∀p,p<0→Q p:=λp h=>absurd h (Nat.not_lt_zero p)
section
variable {P:Program} {f:Nat→Value} {w:World} {d:Option Nat} {ty:TypeId} {ps:String} {af:Array Edge} {g:Option (Nat×Bool)} {x y:Operand}
variable {t:TypeId} {b o:Nat} {v u:Value} {c:Array Value} {T e:TypeId} {K:Value→World→Prop} {n sz by_ N:Nat} {xs ys:List Value}
theorem OV {k kk:IntKind} {z:Value} (hx:dg f x= .int k (n:Int)) (hy:dg f y= .int kk (n:Int)) (hT:fj P t=some (e,sz,by_)) (hz:dT P e=some z)
  (hby:by_*n≤281474976710656) (hn:n≤maxLen) (hN:N≤w.heap.size)
  (hK:∀v' w',dz w w'→w'.ownsRow N e sz v' n (madeCells z.cells (n*sz)).toList→K v' w'):Yd P ⟨d, .makeSlice t x y,ty,ps,af,g⟩ f w K:=by
 unfold dT at hz
 obtain⟨i,hi,hzz⟩:=Do.1 hz
 unfold fj at hT
 cases hun:P.underlying t with
 |none=>simp[hun]at hT
 |some desc=>
  cases desc<;>simp[hun]at hT
  rename_i e'
  obtain⟨i',hi',rfl,h3,rfl⟩:=hT
  obtain rfl:i'=i:=by rw[hi]at hi';exact(Z9 hi').symm
  obtain⟨w',hr,ho,hg⟩:=run_make_full (P:=P) w N t e' i' z sz hun hi hzz h3 k kk n hby hn hN
  refine .val (w':=w') ?_ (hK _ w' (acy hg) ho)
  simp[execOp,hx,hy,hr]
theorem zg {α:Type} {enc:α→List Value} (he:∀a,(enc a).length=sz) (a:α) (z:Value) (hz:z.cells.toList=enc a) (hsz:0<sz) (n:Nat):
  (madeCells z.cells (n*sz)).toList=(List.replicate n a).flatMap enc:=by
 have hs:z.cells.size=sz:=by rw[←abW,hz,he]
 refine List.ext_getElem? λj=> ?_
 by_cases hj:j<n*sz
 ·have h1:j/sz<n:=Nat.div_lt_of_lt_mul (by rwa [aa3]at hj)
  have h2:j%sz<sz:=aaS _ hsz
  have e1:j=j/sz*sz+j%sz:=by rw[aa3];exact(Nat.div_add_mod j sz).symm
  have h3:=vg he (List.replicate n a) (j/sz) (j%sz) a (by simpa using h1) h2
  rw[←e1]at h3
  have h4:(List.replicate n a).getD (j/sz) a=a:=by simp[h1]
  rw[h3,h4,←hz]
  simp[madeCells,hj,hs,h2]
 ·rw[List.getElem?_eq_none (by simp[size_madeCells];omega),List.getElem?_eq_none (by rw[kn he];simp;omega)]
theorem acA {α:Type} {enc:α→List Value} (he:∀a,(enc a).length=sz) (a:α) {z:Value} (hz:z.cells.toList=enc a) (hsz:0<sz) (h:w.ownsRow N e sz v n (madeCells z.cells (n*sz)).toList):
  cD enc sz e w N v (List.replicate n a):=by
 unfold cD
 rw[List.length_replicate,←zg he a z hz hsz n]
 exact h
theorem uW {α:Type} {enc:α→List Value} (he:∀a,(enc a).length=sz) (a:α):∀(l:List α) (k:Nat),k<l.length→
  (l.set k a).flatMap enc=(l.flatMap enc).take (k*sz)++enc a++(l.flatMap enc).drop (k*sz+sz)
 |[],k,h=>by simp at h
 |b::l,0,_=>by
  simp only[List.set_cons_zero,aaE,abb,List.take_zero,aaM,aa1]
  rw[List.drop_append_of_le_length (by rw[he];exact am _),List.drop_of_length_le (by rw[he];exact am _),aaM]
 |b::l,k+1,h=>by
  have ih:=uW he a l k (by simpa using h)
  have e1:(k+1)*sz=(enc b).length+k*sz:=by rw[he,aaR];omega
  simp only[List.set_cons_succ,aaE,ih,e1]
  rw[List.take_length_add_append,show (enc b).length+k*sz+sz=(enc b).length+(k*sz+sz) from by omega,List.drop_length_add_append]
  simp only[aav]
theorem AM {g cap o:Nat} {cur:Array Value} {new:List Value} (hl:xs.length=n*sz) (hg:N≤g) (hh:w.heap[g]? =some (.cells cur e (0,0))) (hnc:n≤cap) (hcm:cap≤maxLen) (hcs:cur.size=cap*sz) (ht:cur.toList.take (n*sz)=xs)
  (ho:o+new.length≤n*sz):
  (w.setRow g (cur.toList.take o++new++cur.toList.drop (o+new.length)).toArray).ownsRow N e sz (.slice (some ⟨g,0,none⟩) n cap) n (xs.take o++new++xs.drop (o+new.length)):=by
 have hle:n*sz≤cap*sz:=aay _ hnc
 refine⟨by simp;omega, .inr ⟨g,cap,_,rfl,hg,setRow_heap w g cur _ e (0,0) hh,hnc,hcm,by simp;omega,?_⟩⟩
 subst ht
 refine List.ext_getElem? λj=> ?_
 simp only[ab0,List.getElem?_append,List.getElem?_drop,aal,An,abW]
 by_cases h1:j<o
 ·rw[if_pos (by omega),if_pos (by omega),if_pos (by omega),if_pos h1,if_pos (by omega),if_pos (by omega),if_pos h1,if_pos (by omega)]
 ·by_cases h2:j<o+new.length
  ·have e1:min o cur.size=o:=by omega
   have e2:min o (min (n*sz) cur.size)=o:=by omega
   rw[if_pos (by omega),if_pos (by omega),if_neg (by omega),if_pos (by omega),if_neg (by omega),e1,e2]
  ·by_cases h3:j<n*sz
   ·have e1:min o cur.size=o:=by omega
    have e2:min o (min (n*sz) cur.size)=o:=by omega
    rw[if_pos h3,if_neg (by omega),if_neg (by omega),if_pos (by omega),e1,e2]
   ·rw[if_neg h3,if_neg (by omega),if_neg (by omega)]
theorem uP {α:Type} {enc:α→List Value} {a:α} {l:List α} {j:Int} (hx:dg f x= .pointer (some ⟨uc v,D6 v+j.toNat*sz,none⟩)) (hy:dg f y=u) (hT:(eE P t=true∧sz=1)∨j8 P t=some sz) (he:∀a,(enc a).length=sz)
  (hu:u.cells.toList=enc a) (h1:u.cells.toList.all Value.oneCell'=true) (ho:cD enc sz e w N v l) (h0:0≤j) (hj:j<l.length)
  (hK:∀w',w.grownBy w' v.ownBlock→cD enc sz e w' N v (l.set j.toNat a)→K undef w'):Yd P ⟨d, .store t x y,ty,ps,af,g⟩ f w K:=by
 obtain⟨hl,hor⟩:=ho
 rcases hor with ⟨_,h⟩|⟨q,cap,cur,rfl,hg,hh,hnc,hcm,hcs,ht⟩
 ·omega
 have hul:u.cells.toList.length=sz:=by rw[hu,he]
 have hle:l.length*sz≤cap*sz:=aay _ hnc
 have hjs:j.toNat*sz+sz≤l.length*sz:=by rw[←Nat.succ_mul];exact aay _ (by omega)
 have hst:=run_storeCells_at P q (j.toNat*sz) e u.cells.toList 0 cur w hh (by rw[hul];omega) (λv h=>aaj.1 h1 v h)
 rw[abl]at hst
 have hw:=AM (N:=N) (e:=e) (o:=j.toNat*sz) (new:=u.cells.toList) hl hg hh hnc hcm hcs ht (by rw[hul];exact hjs)
 have hgr:∀r,w.grownBy (w.setRow q r) (some q):=λr=>⟨rfl,rfl,rfl,by simp,λk _ hk=>setRow_other w q k r (λe=>hk vu)⟩
 refine .skip (w':=w.setRow q (cur.toList.take (j.toNat*sz)++u.cells.toList++cur.toList.drop (j.toNat*sz+u.cells.toList.length)).toArray) ?_ (hK _ (hgr _) ?_)
 ·have hcs2:(storeVar t ⟨q,j.toNat*sz,none⟩ u).run P w= .ok () (w.setRow q (cur.toList.take (j.toNat*sz)++u.cells.toList++cur.toList.drop (j.toNat*sz+u.cells.toList.length)).toArray):=by
   have hus:u.cells.size=sz:=by simpa using hul
   rcases hT with ⟨hT,h1⟩|hT
   ·have h2:=congrFun (m4 hT).2 w
    rw[h1]at hus
    simp[storeVar,h2,hst,hus]
   ·have h2:=congrFun (lX hT).2 w
    simp[storeVar,h2,hst,hus]
  have hx':dg f x= .pointer (some ⟨q,j.toNat*sz,none⟩):=by rw[hx];simp[uc,D6]
  simp[execOp,hx',hy,Instr.storeAt,Instr.sureAddr,hcs2]
 ·unfold cD
  rw[List.length_set,uW he a l j.toNat (by omega),←hu]
  have e2:j.toNat*sz+sz=j.toNat*sz+u.cells.toList.length:=by rw[hul]
  rw[e2]
  exact hw
end
theorem xI {α:Type} {enc:α→List Value} (h:∀a,(enc a).all Value.oneCell'=true) (l:List α):(l.flatMap enc).all Value.oneCell'=true:=by
 induction l with
 |nil=>rfl
 |cons a l ih=>rw[aaE,List.all_append,h a,ih];rfl
theorem lN {l:List Int}:(l.flatMap dJ).all Value.oneCell'=true:=xI (λ_=>rfl) l
theorem pI {l:List Cb}:(l.flatMap im).all Value.oneCell'=true:=xI (λ_=>rfl) l
theorem lp {l:List Rw}:(l.flatMap gv).all Value.oneCell'=true:=xI (λ_=>rfl) l
section
variable {α:Type} {enc:α→List Value} {sz:Nat} {T:TypeId} {w w':World} {N b:Nat} {v:Value} {l:List α}
theorem aaQ (k:cD enc sz T w N v l) (hb:w.heap.size≤b):v.ownBlock≠some b:=λe=>by
 have:=(World.ownsRow.lt k b e).2
 omega
theorem aat (k:cD enc sz T w N v l) (hne:v.ownBlock≠some b) (hG:w.grownBy w' (some b)):cD enc sz T w' N v l:=World.ownsRow.kept k hG (.inr hne)
theorem acx {c:Array Value} {T':TypeId} (hm:At w b c T') (hne:v.ownBlock≠some b) (hG:w.grownBy w' v.ownBlock):At w' b c T':=hm.grown hG (λe=>hne e.symm)
end
end
section
open Go Go.RowKit
open Go.ChangeMaps (setBlock)
section
variable {α β:Type} [DecidableEq α]
def iy:List (α×β)→α→Option β
 |[],_=>none
 |(a,b)::r,k=>if a=k then some b else iy r k
def iz (l:List (α×β)) (k:α) (v:β):List (α×β):=if k∈l.map (·.1)then l.map (λp=>if p.1=k then (k,v)else p)else l++[(k,v)]
def ja (l:List α) (k:α):List α:=if k∈l then l else l++[k]
def fp (l:List α):List (α×Bool):=l.map λa=>(a,true)
theorem oX {l:List (α×β)} {k:α}:iy l k=none↔k∉l.map (·.1):=by
 induction l with
 |nil=>simp[iy]
 |cons p r ih=>
  obtain⟨a,b⟩:=p
  simp only[iy,abc,aaq,not_or]
  by_cases e:a=k
  ·subst e;simp
  ·simp only[if_neg e,ih]
   exact⟨λh=>⟨λh2=>e h2.symm,h⟩,λh=>h.2⟩
theorem nx {l:List (α×β)} {k:α} {v:β} (hn:(l.map (·.1)).Nodup):iy l k=some v↔(k,v)∈l:=by
 induction l with
 |nil=>simp[iy]
 |cons p r ih=>
  obtain⟨a,b⟩:=p
  rw[abc,List.nodup_cons]at hn
  simp only[iy,aaq,Prod.mk.injEq]
  by_cases e:a=k
  ·subst e
   simp only[if_true,Option.some.injEq,true_and]
   constructor
   ·intro h;exact .inl h.symm
   ·rintro(h|h)
    ·exact h.symm
    ·exact absurd (abA (f:=(·.1)) h) hn.1
  ·rw[if_neg e,ih hn.2]
   constructor
   ·intro h;exact .inr h
   ·rintro(⟨h,_⟩|h)
    ·exact absurd h.symm e
    ·exact h
theorem kX (l:List (α×β)) (k:α) (v:β):(iz l k v).map (·.1)=ja (l.map (·.1)) k:=by
 unfold iz ja
 split
 ·rw[List.map_map]
  refine abg λp _=> ?_
  simp only[Function.comp]
  split
  ·rename_i h;exact h.symm
  ·rfl
 ·simp
theorem AE {α:Type} (l:List α):(fp l).map (·.1)=l:=by
 unfold fp
 rw[List.map_map]
 exact List.map_id l
theorem AC {γ:Type} {l:List γ} (hn:l.Nodup) {i j:Nat} {a:γ} (hi:l[i]? =some a) (hj:l[j]? =some a):i=j:=by
 have h:=aa2.1 hn
 obtain⟨hi',h1⟩:=aaV.1 hi
 obtain⟨hj',h2⟩:=aaV.1 hj
 rcases Nat.lt_trichotomy i j with hlt|rfl|hlt
 ·exact absurd (h1.trans h2.symm) (h i j hi' hj' hlt)
 ·rfl
 ·exact absurd (h2.trans h1.symm) (h j i hj' hi' hlt)
theorem jP (l:List α) (k:α):iz (fp l) k true=fp (ja l k):=by
 unfold iz ja
 rw[AE]
 split
 ·unfold fp
  rw[List.map_map]
  refine abg λa _=> ?_
  simp only[Function.comp]
  split
  ·rename_i h;rw[h]
  ·rfl
 ·simp[fp]
theorem mn (l:List α) (k:α):(iy (fp l) k).getD false=decide (k∈l):=by
 induction l with
 |nil=>rfl
 |cons a r ih=>
  unfold fp at*
  simp only[abc,iy,aaq]
  by_cases e:a=k
  ·subst e;simp
  ·rw[if_neg e,ih,aaA]
   simp only[decide_eq_true_eq]
   exact⟨λh=> .inr h,λh=>h.resolve_left (λh2=>e h2.symm)⟩
theorem gt {l:List α} {k a:α}:a∈ja l k↔a∈l∨a=k:=by
 unfold ja
 split
 ·rename_i h
  exact⟨.inl,λh2=>h2.elim id λe=>e▸h⟩
 ·simp
theorem jO {l:List α} (h:l.Nodup) (k:α):(ja l k).Nodup:=by
 unfold ja
 split
 ·exact h
 ·rename_i hk
  rw[List.nodup_append]
  exact⟨h,by simp,λa ha b hb=>by simp at hb;subst hb;exact λe=>hk (e▸ha)⟩
theorem rt (l:List α) (k:α):(ja l k).length≤l.length+1:=by
 unfold ja
 split<;>simp
end
structure qc (P:Program) (k:TypeId) (S:Value→Prop):Prop where
 check:∀(w:World) (em:Bool) {v:Value},S v→(Instr.checkKey em 10000 k v).run P w= .ok () w
 find:∀(w:World) {x:Value},S x→∀es:List MapEntry,(∀e∈es,S e.key)→
  ((Instr.findKey k x es).run P w= .ok none w∧∀e∈es,e.key≠x)∨∃j e,(Instr.findKey k x es).run P w= .ok (some (j,e.val)) w∧es[j]? =some e∧e.key=x
 stays:∀(w:World) {v:Value},S v→(Instr.keyThatStays v v).run P w= .ok v w
theorem ql {P:Program} {k:TypeId} {S:Value→Prop} (hE:∀(w:World) {a b:Value},S a→S b→∃r,(Op.equal k a b).run P w= .ok r w∧(r=true↔a=b)) (w:World) {x:Value} (hx:S x):
  ∀(es:List MapEntry) (i:Nat),(∀e∈es,S e.key)→
  ((Instr.findAsking k x es i).run P w= .ok none w∧∀e∈es,e.key≠x)∨∃j e,(Instr.findAsking k x es i).run P w= .ok (some (i+j,e.val)) w∧es[j]? =some e∧e.key=x
 |[],i,_=> .inl ⟨by simp[Instr.findAsking],by simp⟩
 |e::es,i,h=>by
  obtain⟨r,h1,h2⟩:=hE w hx (h e gj)
  cases r with
  |true=>
   refine .inr ⟨0,e,?_,rfl,(h2.1 rfl).symm⟩
   simp[Instr.findAsking,h1]
  |false=>
   have hne:e.key≠x:=λh=>by have:=h2.2 h.symm;cases this
   rcases ql hE w hx es (i+1) (λe he=>h e (by simp[he]))with ⟨g1,g2⟩|⟨j,e',g1,g2,g3⟩
   ·refine .inl ⟨?_,λe' he'=> ?_⟩
    ·simp[Instr.findAsking,h1,g1]
    ·rcases aaq.1 he' with rfl|he'
     ·exact hne
     ·exact g2 e' he'
   ·refine .inr ⟨j+1,e',?_,by simpa using g2,g3⟩
    simp[Instr.findAsking,h1,g1]
    omega
theorem sP {desc:TypeDesc} {S:Value→Prop} (hN:∀a b,S a→S b→Instr.sameNow desc a b=none∨∃r,Instr.sameNow desc a b=some r∧(r=true↔a=b)) {x:Value} (hx:S x):
  ∀(es:List MapEntry) (i:Nat),(∀e∈es,S e.key)→Instr.findNow desc x es i=none∨(Instr.findNow desc x es i=some none∧∀e∈es,e.key≠x)∨∃j e,Instr.findNow desc x es i=some (some (i+j,e.val))∧es[j]? =some e∧e.key=x
 |[],i,_=> .inr (.inl ⟨rfl,by simp⟩)
 |e::es,i,h=>by
  rcases hN x e.key hx (h e gj)with h1|⟨r,h1,h2⟩
  ·left;simp[Instr.findNow,h1]
  ·cases r with
   |true=>exact .inr (.inr ⟨0,e,by simp[Instr.findNow,h1],rfl,(h2.1 rfl).symm⟩)
   |false=>
    have hne:e.key≠x:=λh=>by have:=h2.2 h.symm;cases this
    rcases sP hN hx es (i+1) (λe he=>h e (by simp[he]))with g|⟨g1,g2⟩|⟨j,e',g1,g2,g3⟩
    ·left;simp[Instr.findNow,h1,g]
    ·refine .inr (.inl ⟨by simp[Instr.findNow,h1,g1],λe' he'=> ?_⟩)
     rcases aaq.1 he' with rfl|he'
     ·exact hne
     ·exact g2 e' he'
    ·refine .inr (.inr ⟨j+1,e',?_,by simpa using g2,g3⟩)
     simp[Instr.findNow,h1,g1]
     omega
theorem pd {P:Program} {k:TypeId} {desc:TypeDesc} {S:Value→Prop} (hu:P.underlying k=some desc)
  (hE:∀(w:World) {a b:Value},S a→S b→∃r,(Op.equal k a b).run P w= .ok r w∧(r=true↔a=b))
  (hN:∀a b,S a→S b→Instr.sameNow desc a b=none∨∃r,Instr.sameNow desc a b=some r∧(r=true↔a=b))
  (hC:∀(w:World) (em:Bool) {v:Value},S v→(Instr.checkKey em 10000 k v).run P w= .ok () w)
  (hS:∀v,S v→Instr.sameBits 10000 v v=true):qc P k S:=by
 refine⟨hC,λw x hx es hes=> ?_,λw v hv=>by simp[Instr.keyThatStays,hS v hv]⟩
 rcases sP hN hx es 0 hes with g|⟨g1,g2⟩|⟨j,e',g1,g2,g3⟩
 ·rcases ql hE w hx es 0 hes with ⟨h1,h2⟩|⟨j,e,h1,h2,h3⟩
  ·exact .inl ⟨by simp[Instr.findKey,run_underlying hu,g,h1],h2⟩
  ·exact .inr ⟨j,e,by simpa [Instr.findKey,run_underlying hu,g] using h1,h2,h3⟩
 ·exact .inl ⟨by simp[Instr.findKey,run_underlying hu,g1],g2⟩
 ·exact .inr ⟨j,e',by simp[Instr.findKey,run_underlying hu,g1],g2,g3⟩
def kK {α β:Type} (enc:α→Value) (encV:β→Value) (f:α→Nat) (l:List (α×β)):List MapEntry:=l.map λp=>⟨enc p.1,encV p.2,f p.1⟩
structure tU {α β:Type} (enc:α→Value) (encV:β→Value) (w:World) (b:Nat) (l:List (α×β)) (f:α→Nat) (clock:Nat):Prop where
 heap:w.heap[b]? =some (.map (kK enc encV f l).toArray clock)
 born:∀p∈l,f p.1<clock
 inj:∀p∈l,∀q∈l,f p.1=f q.1→p.1=q.1
 nodup:(l.map (·.1)).Nodup
def du {α β:Type} (enc:α→Value) (encV:β→Value) (w:World) (b:Nat) (l:List (α×β)):Prop:=∃f clock,tU enc encV w b l f clock
structure eD {α β:Type} (enc:α→Value) (encV:β→Value) (w:World) (it b:Nat) (l:List (α×β)) (seen:List α):Prop where
 out:∃f clock since c0 sn,tU enc encV w b l f clock∧w.heap[it]? =some (.mapIter (some b) since sn c0)∧since≤c0∧since≤clock∧(∀p∈l,f p.1<since)∧sn.toList=(seen.map f).reverse∧(seen=[]∨c0=clock)
 sub:∀k∈seen,k∈l.map (·.1)
 nodup:seen.Nodup
section
variable {α β:Type} {enc:α→Value} {encV:β→Value} {w w':World} {b it:Nat} {l:List (α×β)} {f:α→Nat} {clock:Nat} {seen:List α}
theorem tU.lt (h:tU enc encV w b l f clock):b<w.heap.size:=gf h.heap
theorem du.lt (h:du enc encV w b l):b<w.heap.size:=by obtain⟨f,c,h⟩:=h;exact h.lt
theorem tU.moved (h:tU enc encV w b l f clock) (e:w'.heap[b]? =w.heap[b]?):tU enc encV w' b l f clock:=⟨by rw[e];exact h.heap,h.born,h.inj,h.nodup⟩
theorem du.moved (h:du enc encV w b l) (e:w'.heap[b]? =w.heap[b]?):du enc encV w' b l:=by
 obtain⟨f,c,h⟩:=h;exact⟨f,c,h.moved e⟩
theorem dz.mapT (h:dz w w') (k:du enc encV w b l):du enc encV w' b l:=k.moved (Below.block h b k.lt)
instance {w w':World}:Kp w w' (du enc encV w b l) (du enc encV w' b l):=⟨dz.mapT⟩
theorem du.grown {row:Option Nat} (k:du enc encV w b l) (h:w.grownBy w' row) (hne:some b≠row):du enc encV w' b l:=k.moved (h.block b k.lt hne)
theorem eD.map (h:eD enc encV w it b l seen):du enc encV w b l:=by
 obtain⟨f,c,_,_,_,h,_⟩:=h.out;exact⟨f,c,h⟩
theorem eD.lt (h:eD enc encV w it b l seen):it<w.heap.size:=by
 obtain⟨_,_,_,_,_,_,h,_⟩:=h.out;exact gf h
theorem eD.ltB (h:eD enc encV w it b l seen):b<w.heap.size:=h.map.lt
theorem eD.moved (h:eD enc encV w it b l seen) (e:w'.heap[b]? =w.heap[b]?) (e2:w'.heap[it]? =w.heap[it]?):eD enc encV w' it b l seen:=by
 obtain⟨f,c,s,c0,sn,h1,h2,r⟩:=h.out
 exact⟨⟨f,c,s,c0,sn,h1.moved e,by rw[e2];exact h2,r⟩,h.sub,h.nodup⟩
theorem dz.iterT (h:dz w w') (k:eD enc encV w it b l seen):eD enc encV w' it b l seen:=k.moved (Below.block h b k.ltB) (Below.block h it k.lt)
theorem eD.grown {row:Option Nat} (k:eD enc encV w it b l seen) (h:w.grownBy w' row) (hne:some b≠row) (hne2:some it≠row):eD enc encV w' it b l seen:=
 k.moved (h.block b k.ltB hne) (h.block it k.lt hne2)
theorem du.nodup (h:du enc encV w b l):(l.map (·.1)).Nodup:=by obtain⟨f,c,h⟩:=h;exact h.nodup
theorem eD.ne (h:eD enc encV w it b l seen):it≠b:=by
 obtain⟨f,c,s,c0,sn,h1,h2,_⟩:=h.out
 rintro rfl
 rw[h1.heap]at h2
 cases h2
theorem ab9 {c:Array Value} {T:TypeId} {a:Nat} (h:At w a c T) (k:du enc encV w b l):a≠b:=by
 rintro rfl
 obtain⟨f,c,k⟩:=k
 unfold At at h
 rw[k.heap]at h
 cases h
theorem acn {c:Array Value} {T:TypeId} {a:Nat} (h:At w a c T) (k:eD enc encV w it b l seen):a≠it:=by
 rintro rfl
 obtain⟨_,_,_,_,_,_,h2,_⟩:=k.out
 unfold At at h
 rw[h2]at h
 cases h
theorem tE {N sz n:Nat} {T:TypeId} {v:Value} {xs:List Value} (h:w.ownsRow N T sz v n xs) (k:du enc encV w b l):some b≠v.ownBlock:=by
 intro e
 rcases h.2 with ⟨rfl,rfl⟩|⟨g,cap,cur,rfl,hg,hh,_⟩
 ·simp[Value.ownBlock]at e
 ·simp[Value.ownBlock]at e
  exact ab9 (T:=T) (c:=cur) (a:=g) hh k e.symm
theorem wD {N sz n:Nat} {T:TypeId} {v:Value} {xs:List Value} (h:w.ownsRow N T sz v n xs) (k:eD enc encV w it b l seen):some it≠v.ownBlock:=by
 intro e
 rcases h.2 with ⟨rfl,rfl⟩|⟨g,cap,cur,rfl,hg,hh,_⟩
 ·simp[Value.ownBlock]at e
 ·simp[Value.ownBlock]at e
  exact acn (T:=T) (c:=cur) (a:=g) hh k e.symm
theorem acv {β':Type} {α':Type} {enc':α'→Value} {encV':β'→Value} {l':List (α'×β')} {b':Nat} (h:eD enc encV w it b l seen) (k:du enc' encV' w b' l'):it≠b':=by
 rintro rfl
 obtain⟨_,_,_,_,_,_,h2,_⟩:=h.out
 obtain⟨f,c,k⟩:=k
 rw[k.heap]at h2
 cases h2
theorem je {o:Obj} (w:World) (b:Nat):w.grownBy (setBlock w b o) (some b):=
 ⟨rfl,rfl,rfl,by simp[setBlock],λi _ hi=>by
  show (w.heap.setIfInBounds b o)[i]? =w.heap[i]?
  rw[abd (λe=>hi vu)]⟩
theorem kF {o:Obj} (h:b<w.heap.size):(setBlock w b o).heap[b]? =some o:=by
 show (w.heap.setIfInBounds b o)[b]? =_
 simp[h]
end
section
variable {α β:Type} [DecidableEq α] {enc:α→Value} {encV:β→Value} {S:Value→Prop}
variable {P:Program} {fr:Nat→Value} {w w':World} {d:Option Nat} {ty:TypeId} {ps:String} {af:Array Edge} {g:Option (Nat×Bool)} {x y z:Operand}
variable {t kt et:TypeId} {b it:Nat} {l:List (α×β)} {K:Value→World→Prop} {k:α} {v:β}
theorem qV {α β:Type} {enc:α→Value} {encV:β→Value} {l:List (α×β)} {f:α→Nat} {j:Nat}:(kK enc encV f l)[j]? =(l[j]?).map λp=>⟨enc p.1,encV p.2,f p.1⟩:=by simp[kK]
theorem iP (h:mU P t=some (kt,et)):P.underlying t=some (.map kt et):=by
 unfold mU at h
 cases hu:P.underlying t with
 |none=>simp[hu]at h
 |some desc=>
  cases desc<;>simp[hu]at h
  obtain⟨rfl,rfl⟩:=h
  rfl
theorem tX (KO:qc P kt S) (hS:∀a,S (enc a)) (hi:∀a a',enc a=enc a'→a=a') {f:α→Nat} (hn:(l.map (·.1)).Nodup) (w:World) (k:α):
  ((Instr.findKey kt (enc k) (kK enc encV f l)).run P w= .ok none w∧k∉l.map (·.1))∨∃j v,(Instr.findKey kt (enc k) (kK enc encV f l)).run P w= .ok (some (j,encV v)) w∧l[j]? =some (k,v)∧iy l k=some v:=by
 rcases KO.find w (hS k) (kK enc encV f l) (λe he=>by simp[kK]at he;obtain⟨a,_,_,rfl⟩:=he;exact hS _)with ⟨h1,h2⟩|⟨j,e,h1,h2,h3⟩
 ·refine .inl ⟨h1,λhk=> ?_⟩
  obtain⟨p,hp,rfl⟩:=aag.1 hk
  exact h2 ⟨enc p.1,encV p.2,f p.1⟩ (aag.2 ⟨p,hp,rfl⟩) rfl
 ·rw[qV]at h2
  obtain⟨p,hp,rfl⟩:=go.1 h2
  obtain⟨a,v⟩:=p
  obtain rfl:=hi _ _ h3
  exact .inr ⟨j,v,h1,hp,(nx hn).2 (List.mem_of_getElem? hp)⟩
theorem gQ {α β:Type} {enc:α→Value} {encV:β→Value} (hK:∀b w',b=w.heap.size→dz w w'→du enc encV w' b ([]:List (α×β))→K (.map (some b)) w'):Yd P ⟨d, .makeMap t none,ty,ps,af,g⟩ fr w K:=by
 refine .val (w':=w.alloc (.map #[] 0)) ?_ (hK w.heap.size _ rfl (dz.alloc w _) ⟨λ_=>0,0,⟨heap_alloc_new w _,by simp,by simp,by simp⟩⟩)
 simp[execOp,Instr.makeMap,newObj,Sem.run]
theorem fV {z0:Value} {v0:β} (hx:dg fr x= .map (some b)) (hy:dg fr y=enc k) (hT:mU P t=some (kt,et)) (KO:qc P kt S) (hS:∀a,S (enc a)) (hi:∀a a',enc a=enc a'→a=a')
  (hz:dT P et=some z0) (hz0:z0=encV v0) (hm:du enc encV w b l):
  (execOp (dg fr) ⟨d, .lookup t x y false,ty,ps,af,g⟩).run P w= .ok (.value (encV ((iy l k).getD v0))) w:=by
 subst hz0
 obtain⟨f,clock,hm⟩:=hm
 unfold dT at hz
 obtain⟨i,hi2,hzz⟩:=Do.1 hz
 rcases tX (P:=P) (kt:=kt) (encV:=encV) KO hS hi (f:=f) hm.nodup w k with ⟨h1,h2⟩|⟨j,v,h1,h2,h3⟩
 ·rw[oX.2 h2]
  simp[execOp,hx,hy,Instr.lookup,run_underlying (iP hT),getObj,Sem.run,hm.heap,Result.andThen,KO.check w _ (hS k),h1,zeroValue,typeInfo,hi2,hzz]
 ·rw[h3]
  simp[execOp,hx,hy,Instr.lookup,run_underlying (iP hT),getObj,Sem.run,hm.heap,Result.andThen,KO.check w _ (hS k),h1]
theorem Ng {α β:Type} {enc:α→Value} {encV:β→Value} {l:List (α×β)} (hx:dg fr x= .map (some b)) (hT:mU P t=some (kt,et)) (hm:du enc encV w b l):
  (execOp (dg fr) ⟨d, .call ⟨.builtin .len,#[x],#[t]⟩,ty,ps,af,g⟩).run P w= .ok (.value (.int .i64 (l.length:Int))) w:=by
 obtain⟨f,clock,hm⟩:=hm
 simp[execOp,resolve,invoke,builtin,hx,Builtin.len_,run_underlying (iP hT),getObj,Sem.run,hm.heap,goInt,Result.andThen,kK]
theorem Dp {f:α→Nat} {clock:Nat} (hk:k∉l.map (·.1)):(kK enc encV f l).toArray.push ⟨enc k,encV v,clock⟩=(kK enc encV (λa=>if a=k then clock else f a) (iz l k v)).toArray:=by
 have e1:∀p∈l,p.1≠k:=λp hp e=>hk (e▸abA (f:=(·.1)) hp)
 unfold iz
 rw[if_neg hk]
 unfold kK
 rw[abh]
 simp only[List.push_toArray,abc,List.map_nil,if_true]
 congr 2
 refine abg λp hp=> ?_
 rw[if_neg (e1 p hp)]
theorem CS {f:α→Nat} {j:Nat} {v0:β} (hj:l[j]? =some (k,v0)) (hn:(l.map (·.1)).Nodup) (F:MapEntry→MapEntry) (hF:F ⟨enc k,encV v0,f k⟩=⟨enc k,encV v,f k⟩):
  (kK enc encV f l).toArray.modify j F=(kK enc encV f (iz l k v)).toArray:=by
 have hk:k∈l.map (·.1):=aag.2 ⟨_,List.mem_of_getElem? hj,rfl⟩
 unfold iz
 rw[if_pos hk]
 apply Array.ext'
 rw[Array.toList_modify]
 refine List.ext_getElem? λi=> ?_
 rw[List.getElem?_modify]
 simp only[qV,abR]
 by_cases e:j=i
 ·subst e
  simp[hj,hF]
 ·simp only[e,if_false]
  cases hi:l[i]? with
  |none=>simp
  |some p=>
   have hne:p.1≠k:=λhpk=>by
    have h1:(l.map (·.1))[i]? =some k:=by rw[abR,hi];simp[hpk]
    have h2:(l.map (·.1))[j]? =some k:=by rw[abR,hj];rfl
    exact e (AC hn h2 h1)
   simp[hne]
theorem tU.put_new {f:α→Nat} {clock:Nat} (hm:tU enc encV w b l f clock) (hk:k∉l.map (·.1)) (v:β):
  tU enc encV (setBlock w b (.map ((kK enc encV f l).toArray.push ⟨enc k,encV v,clock⟩) (clock+1))) b (iz l k v) (λa=>if a=k then clock else f a) (clock+1):=by
 have e1:∀p∈l,p.1≠k:=λp hp e=>hk (e▸abA (f:=(·.1)) hp)
 have hmem:∀p∈iz l k v,p∈l∨p=(k,v):=λp hp=>by
  unfold iz at hp
  rw[if_neg hk]at hp
  simpa using hp
 have hb2:∀p∈iz l k v,(p∈l∧(if p.1=k then clock else f p.1)=f p.1∧f p.1<clock)∨(p=(k,v)∧(if p.1=k then clock else f p.1)=clock):=λp hp=>by
  rcases hmem p hp with h|h
  ·exact .inl ⟨h,by rw[if_neg (e1 p h)],hm.born p h⟩
  ·subst h;exact .inr ⟨rfl,by simp⟩
 refine⟨?_,λp hp=> ?_,λp hp q hq e=> ?_,?_⟩
 ·rw[kF hm.lt,Dp hk]
 ·rcases hb2 p hp with ⟨_,h1,h2⟩|⟨_,h1⟩<;>simp only[h1]<;>omega
 ·replace e:(if p.1=k then clock else f p.1)=(if q.1=k then clock else f q.1):=e
  rcases hb2 p hp with ⟨hp',h1,h2⟩|⟨rfl,h1⟩<;>rcases hb2 q hq with ⟨hq',h3,h4⟩|⟨rfl,h3⟩
  ·rw[h1,h3]at e;exact hm.inj p hp' q hq' e
  ·rw[h1,h3]at e;omega
  ·rw[h1,h3]at e;omega
  ·rfl
 ·rw[kX];exact jO hm.nodup k
theorem tU.put_old {f:α→Nat} {clock j:Nat} {v0:β} (hm:tU enc encV w b l f clock) (hj:l[j]? =some (k,v0)) (F:MapEntry→MapEntry) (hF:F ⟨enc k,encV v0,f k⟩=⟨enc k,encV v,f k⟩):
  tU enc encV (setBlock w b (.map ((kK enc encV f l).toArray.modify j F) clock)) b (iz l k v) f clock:=by
 have hk:k∈l.map (·.1):=aag.2 ⟨_,List.mem_of_getElem? hj,rfl⟩
 have hkeys:(iz l k v).map (·.1)=l.map (·.1):=by rw[kX,ja,if_pos hk]
 have hmem:∀p∈iz l k v,∃q∈l,q.1=p.1:=λp hp=>by
  have:p.1∈(iz l k v).map (·.1):=abA hp
  rw[hkeys]at this
  obtain⟨q,hq,e⟩:=aag.1 this
  exact⟨q,hq,e⟩
 refine⟨?_,λp hp=> ?_,λp hp q hq e=> ?_,?_⟩
 ·rw[kF hm.lt,CS hj hm.nodup F hF]
 ·obtain⟨q,hq,e⟩:=hmem p hp;rw[←e];exact hm.born q hq
 ·obtain⟨p',hp',e1⟩:=hmem p hp
  obtain⟨q',hq',e2⟩:=hmem q hq
  rw[←e1,←e2]at e ⊢
  exact hm.inj p' hp' q' hq' e
 ·rw[hkeys];exact hm.nodup
theorem fJ (hx:dg fr x= .map (some b)) (hy:dg fr y=enc k) (hz:dg fr z=encV v) (hT:mU P t=some (kt,et)) (KO:qc P kt S) (hS:∀a,S (enc a)) (hi:∀a a',enc a=enc a'→a=a') (hm:du enc encV w b l)
  (hK:∀w',w.grownBy w' (some b)→du enc encV w' b (iz l k v)→K undef w'):Yd P ⟨d, .mapUpdate t x y z,ty,ps,af,g⟩ fr w K:=by
 obtain⟨f,clock,hm⟩:=hm
 rcases tX (P:=P) (kt:=kt) (encV:=encV) KO hS hi (f:=f) hm.nodup w k with ⟨h1,h2⟩|⟨j,v0,h1,h2,h3⟩
 ·refine .skip ?_ (hK _ (je w b) ⟨_,_,hm.put_new h2 v⟩)
  have hg:=λo=>MapKept.run_setObj_map (P:=P) o hm.heap
  simp only[execOp,hx,hy,hz,Instr.mapUpdate,Sem.run_bind,run_underlying (iP hT),Result.andThen_ok,MapKept.run_getObj_map hm.heap,KO.check w _ (hS k),h1,hg]
  rfl
 ·have hF:=hm.put_old h2 (v:=v) (λe=>⟨enc k,encV v,e.born⟩) rfl
  refine .skip ?_ (hK _ (je w b) ⟨_,_,hF⟩)
  have hg:=λo=>MapKept.run_setObj_map (P:=P) o hm.heap
  have hkey:(((kK enc encV f l).toArray[j]?).map (·.key)).getD (enc k)=enc k:=by simp[qV,h2]
  simp only[execOp,hx,hy,hz,Instr.mapUpdate,Sem.run_bind,run_underlying (iP hT),Result.andThen_ok,MapKept.run_getObj_map hm.heap,KO.check w _ (hS k),h1,hkey,KO.stays w (hS k),hg]
  rfl
structure OT (enc:α→Value) (encV:β→Value) (w:World) (b:Nat) (l:List (α×β)) (k:α) (stamp:Nat):Prop where
 out:∃(l2:List (α×β)) (f:α→Nat) (clock j:Nat) (v0:β),tU enc encV w b l2 f clock∧l2[j]? =some (k,v0)∧f k=stamp∧∀v,iz l2 k v=iz l k v
theorem N6 (l:List (α×β)) (k:α) (v v':β):iz (iz l k v) k v'=iz l k v':=by
 have hk:k∈(iz l k v).map (·.1):=by rw[kX,gt];exact .inr rfl
 rw[iz,if_pos hk]
 unfold iz
 split
 ·rw[List.map_map]
  refine abg λp _=> ?_
  simp only[Function.comp]
  by_cases e:p.1=k<;>simp[e]
 ·rename_i h
  have e1:∀p∈l,p.1≠k:=λp hp e=>h (e▸abA (f:=(·.1)) hp)
  rw[abh]
  simp only[abc,List.map_nil,if_true]
  congr 1
  conv=>rhs;rw[←List.map_id l]
  refine abg λp hp=> ?_
  simp[e1 p hp]
theorem GI {z0:Value} {v0:β} (hx:dg fr x= .map (some b)) (hy:dg fr y=enc k) (hT:mU P t=some (kt,et)) (KO:qc P kt S) (hS:∀a,S (enc a)) (hi:∀a a',enc a=enc a'→a=a')
  (hz:dT P et=some z0) (hz0:z0=encV v0) (hm:du enc encV w b l)
  (hK:∀st w',w.grownBy w' (some b)→OT enc encV w' b l k st→K (.tuple #[encV ((iy l k).getD v0), .int .i64 (st:Int)]) w'):Yd P ⟨d, .mapEntry t x y,ty,ps,af,g⟩ fr w K:=by
 subst hz0
 obtain⟨f,clock,hm⟩:=hm
 unfold dT at hz
 obtain⟨i,hi2,hzz⟩:=Do.1 hz
 have hg:=λo=>MapKept.run_setObj_map (P:=P) o hm.heap
 rcases tX (P:=P) (kt:=kt) (encV:=encV) KO hS hi (f:=f) hm.nodup w k with ⟨h1,h2⟩|⟨j,v,h1,h2,h3⟩
 ·have hm2:=hm.put_new h2 v0
  have hj:(iz l k v0)[l.length]? =some (k,v0):=by unfold iz;rw[if_neg h2];simp
  have:=hK clock _ (je w b) ⟨⟨iz l k v0,_,_,l.length,v0,hm2,hj,by simp,λv=>N6 l k v0 v⟩⟩
  rw[oX.2 h2]at this
  refine .val ?_ this
  simp only[execOp,hx,hy,Instr.mapEntry,Sem.run_bind,run_underlying (iP hT),Result.andThen_ok,MapKept.run_getObj_map hm.heap,KO.check w _ (hS k),h1,zeroValue,typeInfo]
  simp[hi2,hzz,hg,goInt,setBlock]
 ·have hm2:=hm.put_old h2 (v:=v) (λe=>⟨enc k,e.val,e.born⟩) rfl
  have hl2:iz l k v=l:=by
   have hk:k∈l.map (·.1):=aag.2 ⟨_,List.mem_of_getElem? h2,rfl⟩
   unfold iz
   rw[if_pos hk]
   conv=>rhs;rw[←List.map_id l]
   refine abg λp hp=> ?_
   by_cases e:p.1=k
   ·obtain⟨a,u⟩:=p
    obtain rfl:a=k:=e
    have:=(nx hm.nodup).2 hp
    rw[h3]at this
    cases this
    simp
   ·simp[e]
  rw[hl2]at hm2
  have:=hK (f k) _ (je w b) ⟨⟨l,_,_,j,v,hm2,h2,rfl,λv=>rfl⟩⟩
  rw[h3]at this
  refine .val ?_ this
  have hkey:(((kK enc encV f l).toArray[j]?).map (·.key)).getD (enc k)=enc k:=by simp[qV,h2]
  have hborn:(((kK enc encV f l).toArray[j]?).map (λx=>((x.born:Nat):Int))).getD 0=(f k:Int):=by simp[qV,h2]
  simp only[execOp,hx,hy,Instr.mapEntry,Sem.run_bind,run_underlying (iP hT),Result.andThen_ok,MapKept.run_getObj_map hm.heap,KO.check w _ (hS k),h1,hkey,hborn,KO.stays w (hS k),hg]
  rfl
theorem B7 {st:Nat} (hx:dg fr x= .map (some b)) (hy:dg fr y= .int .i64 (st:Int)) (hz:dg fr z=encV v) (hm:OT enc encV w b l k st)
  (hK:∀w',w.grownBy w' (some b)→du enc encV w' b (iz l k v)→K undef w'):Yd P ⟨d, .entryStore t x y z,ty,ps,af,g⟩ fr w K:=by
 obtain⟨l2,f,clock,j,v0,hm2,hj,rfl,hp⟩:=hm.out
 have hg:=λo=>MapKept.run_setObj_map (P:=P) o hm2.heap
 have hF:=hm2.put_old hj (v:=v) (λe=>{e with val:=encV v}) rfl
 rw[hp]at hF
 refine .skip ?_ (hK _ (je w b) ⟨_,_,hF⟩)
 have hfind:(kK enc encV f l2).toArray.findIdx? (λe=>(e.born:Int)==(f k:Int))=some j:=by
  rw[Array.findIdx?_eq_some_iff_getElem]
  have hjl:j<l2.length:=(aaV.1 hj).1
  have hjv:l2[j]=(k,v0):=(aaV.1 hj).2
  refine⟨by simpa [kK] using hjl,?_,λi hi=> ?_⟩
  ·simp[kK,hjv]
  ·have hil:i<l2.length:=Nat.lt_trans hi hjl
   simp only[kK,List.getElem_toArray,List.getElem_map,beq_iff_eq]
   intro e
   have e2:f l2[i].1=f l2[j].1:=by rw[hjv];exact_mod_cast e
   have e3:=hm2.inj _ (List.getElem_mem hil) _ (List.getElem_mem hjl) e2
   have h8:(l2.map (·.1))[i]? =some (l2[i].1):=by simp[hil]
   have h9:(l2.map (·.1))[j]? =some (l2[i].1):=by rw[e3];simp[hjl]
   have:=AC hm2.nodup h8 h9
   omega
 simp only[execOp,hx,hy,hz,Instr.entryStore,Sem.run_bind,Result.andThen_ok,MapKept.run_getObj_map hm2.heap,asInt,asIntOf]
 have hfind2:(kK enc encV f l2).findIdx? (λe=>(e.born:Int)==(f k:Int))=some j:=by simpa using hfind
 simp[hfind2,hg,setBlock]
theorem Cd {α β:Type} {enc:α→Value} {encV:β→Value} {l:List (α×β)} (hx:dg fr x= .map (some b)) (hT:mU P t=some (kt,et)) (hm:du enc encV w b l)
  (hK:∀it w',it=w.heap.size→dz w w'→eD enc encV w' it b l []→K (.pointer (some ⟨it,0,none⟩)) w'):Yd P ⟨d, .range t x,ty,ps,af,g⟩ fr w K:=by
 obtain⟨f,clock,hm⟩:=hm
 have hE:=dz.alloc w (.mapIter (some b) clock #[] clock)
 refine .val ?_ (hK w.heap.size _ rfl hE ⟨⟨f,clock,clock,clock,#[],hm.moved (Below.block hE b hm.lt),heap_alloc_new w _,am _,am _,hm.born,by simp, .inl rfl⟩,by simp,by simp⟩)
 simp only[execOp,hx,Instr.range,Sem.run_bind,run_underlying (iP hT),Result.andThen_ok,MapKept.run_getObj_map hm.heap]
 simp[newObj,Sem.run]
theorem Hn {seen:List α} (hx:dg fr x= .pointer (some ⟨it,0,none⟩)) (hm:eD enc encV w it b l seen)
  (hK0:(∀p∈l,p.1∈seen)→K (.tuple #[.bool false]) w)
  (hK:∀k v w',(k,v)∈l→k∉seen→w.grownBy w' (some it)→eD enc encV w' it b l (k::seen)→K (.tuple #[.bool true,enc k,encV v]) w'):Yd P ⟨d, .next x false,ty,ps,af,g⟩ fr w K:=by
 obtain⟨f,clock,since,c0,sn,h1,h2,h3,h3',h4,h5,h6⟩:=hm.out
 have hsn:∀p∈l,(sn.contains (f p.1)=true↔p.1∈seen):=λp hp=>by
  rw[Array.contains_iff_mem,←Array.mem_toList_iff,h5,List.mem_reverse,aag]
  constructor
  ·rintro⟨a,ha,e⟩
   obtain⟨q,hq,rfl⟩:=aag.1 (hm.sub a ha)
   rw[←h1.inj q hq p hp e];exact ha
  ·intro h;exact⟨_,h,rfl⟩
 have hleft:∀e,e∈(leftOf (kK enc encV f l).toArray sn).toList↔∃p∈l,e=⟨enc p.1,encV p.2,f p.1⟩∧p.1∉seen:=λe=>by
  unfold leftOf
  simp only[Array.toList_filter,aaN,kK,aag]
  constructor
  ·rintro⟨⟨p,hp,rfl⟩,h⟩
   refine⟨p,hp,rfl,λhs=> ?_⟩
   have:=(hsn p hp).2 hs
   replace h:(!sn.contains (f p.1))=true:=h
   rw[this]at h
   cases h
  ·rintro⟨p,hp,rfl,hs⟩
   refine⟨⟨p,hp,rfl⟩,?_⟩
   have:sn.contains (f p.1)=false:=aah.2 λh=>hs ((hsn p hp).1 h)
   show (!sn.contains (f p.1))=true
   rw[this];rfl
 rcases run_next_at (P:=P) w ty it b since c0 sn (kK enc encV f l).toArray clock h2 h1.heap (λe he=>by simp only[kK,aag]at he;obtain⟨p,hp,rfl⟩:=he;exact h4 p hp) h3 with ⟨g1,g2⟩|⟨e,he,w1,hw1,g2⟩
 ·refine .val (w':=w) (v:= .tuple #[.bool false]) (by simp[execOp,hx,g2]) (hK0 λp hp=> ?_)
  refine Decidable.byContradiction λhs=> ?_
  have:=(hleft ⟨enc p.1,encV p.2,f p.1⟩).2 ⟨p,hp,rfl,hs⟩
  have h0:(leftOf (kK enc encV f l).toArray sn).toList=[]:=aar (by simpa using g1)
  rw[h0]at this
  cases this
 ·obtain⟨p,hp,rfl,hs⟩:=(hleft e).1 he
  have hw:w1.heap=w.heap∧w1.os=w.os∧w1.tape=w.tape∧w1.output=w.output:=by rcases hw1 with rfl|rfl<;>exact⟨rfl,rfl,rfl,rfl⟩
  have hne:=hm.ne
  have hg:w.grownBy (setBlock w1 it (.mapIter (some b) since (sn.push (f p.1)) clock)) (some it):=
   ⟨hw.2.1,hw.2.2.1,hw.2.2.2,by simp[setBlock,hw.1],λi hi hne=>by
    show (w1.heap.setIfInBounds it _)[i]? =_
    rw[abd (λe=>hne vu),hw.1]⟩
  refine .val (by simp[execOp,hx,g2]) (hK p.1 p.2 _ hp hs hg ⟨⟨f,clock,since,clock,sn.push (f p.1),h1.moved (hg.block b h1.lt (λe=>hne (Z9 e).symm)),?_,h3',h3',h4,by simp[h5], .inr rfl⟩,?_,?_⟩)
  ·refine kF ?_
   rw[hw.1];exact hm.lt
  ·intro a ha
   rcases aaq.1 ha with rfl|ha
   ·exact abA hp
   ·exact hm.sub a ha
  ·exact List.nodup_cons.2 ⟨hs,hm.nodup⟩
theorem Cy {α β:Type} {enc:α→Value} {encV:β→Value} {l:List (α×β)} {k:α} {v:β} {seen:List α} (hx:dg fr x= .pointer (some ⟨it,0,none⟩)) (hm:eD enc encV w it b l (k::seen)) (hk:(k,v)∈l):
  (execOp (dg fr) ⟨d, .entry x,ty,ps,af,g⟩).run P w= .ok (.value (.tuple #[enc k,encV v])) w:=by
 obtain⟨f,clock,since,c0,sn,h1,h2,h3,h3',h4,h5,h6⟩:=hm.out
 obtain rfl:c0=clock:=by
  rcases h6 with h6|h6
  ·cases h6
  ·exact h6
 have e1:sn=(List.reverse (seen.map f)).toArray.push (f k):=by
  apply Array.ext'
  rw[h5];simp
 rw[e1]at h2
 have hr:=run_entry_at (P:=P) w it b since _ (kK enc encV f l).toArray c0 ⟨enc k,encV v,f k⟩ h2 h1.heap (aag.2 ⟨_,hk,rfl⟩) (by
  have:(kK enc encV f l).toArray.toList.map (·.born)=(l.map (·.1)).map f:=by simp[kK]
  rw[this]
  refine List.pairwise_map.2 (h1.nodup.imp_of_mem λ{a c} ha hc hne e=> ?_)
  obtain⟨p,hp,rfl⟩:=aag.1 ha
  obtain⟨q,hq,rfl⟩:=aag.1 hc
  exact hne (h1.inj p hp q hq e))
 simp[execOp,hx,hr]
end
theorem qy {P:Program} {f:Nat→Value} {w:World} {d:Option Nat} {ty:TypeId} {ps:String} {af:Array Edge} {g:Option (Nat×Bool)} {x:Operand} {v0:Value} (h:dg f x= .tuple #[v0]):
  (execOp (dg f) ⟨d, .extract x 0,ty,ps,af,g⟩).run P w= .ok (.value v0) w:=by simp[execOp,h,Instr.extract]
def jh (c:Cb):Value:= .agg #[.int .u8 (c.m:Int), .int .u8 (c.v:Int)]
def sq (r:Rw):Value:= .agg #[.int .u8 (r.c.m:Int), .int .u8 (r.c.v:Int), .int .u8 (r.o:Int)]
def eH (z:Int):Value:= .int .i64 z
theorem nL (a b:Cb) (h:jh a=jh b):a=b:=by
 obtain⟨m,v⟩:=a
 obtain⟨m',v'⟩:=b
 simp only[jh,Value.agg.injEq,Array.mk.injEq,List.cons.injEq,Value.int.injEq,true_and,and_true]at h
 obtain⟨h1,h2⟩:=h
 simp only[Cb.mk.injEq]
 omega
theorem uH (a b:Rw) (h:sq a=sq b):a=b:=by
 obtain⟨⟨m,v⟩,o⟩:=a
 obtain⟨⟨m',v'⟩,o'⟩:=b
 simp only[sq,Value.agg.injEq,Array.mk.injEq,List.cons.injEq,Value.int.injEq,true_and,and_true]at h
 obtain⟨h1,h2,h3⟩:=h
 simp only[Rw.mk.injEq,Cb.mk.injEq]
 omega
theorem fU (a b:Int) (h:eH a=eH b):a=b:=by
 simpa [eH] using h
theorem vH {P:Program} {w:World} {s:Sem Bool} {r:Bool} (h:((s.run P w).andThen (λb w'=>Result.ok (Value.bool b) w')).andThen (λa w'=>Result.ok (Next.value a) w')= .ok (.value (.bool r)) w):s.run P w= .ok r w:=by
 cases hr:s.run P w<;>rw[hr]at h<;>simp[Result.andThen]at h
 obtain⟨rfl,rfl⟩:=h
 rfl
theorem rW {P:Program} {w:World} {t:TypeId} {A B:Array Value} {r:Bool} (hg:P.eqGuardType P.depth t=false)
  (h:(execOp (dg λ_=>undef) ⟨none, .binOp .eql t (.const (.agg A)) (.const (.agg B)) 0,0,"",#[],none⟩).run P w= .ok (.value (.bool r)) w):(Op.equal t (.agg A) (.agg B)).run P w= .ok r w:=by
 have e:∀v:Value,dg (λ_=>undef) (.const v)=v:=λ_=>rfl
 simp only[execOp,e,Sem.run_bind,run_eqGuard_agg _ _ _ _ _ _ _ hg,Result.andThen_ok,run_eql_struct]at h
 refine vH (P:=P) (w:=w) (s:=Op.equal t (.agg A) (.agg B)) (r:=r) ?_
 simpa [Op.equal,Op.maxDepth] using h
end
section
open Go Go.RowKit
def fP (sz:Nat) (v:Value) (l h m:Nat):Value:= .slice (if m=l then CL v else (CL v).map (·.add (l*sz))) (h-l) (m-l)
section
variable {P:Program} {f:Nat→Value} {w:World} {d:Option Nat} {ty:TypeId} {ps:String} {af:Array Edge} {g:Option (Nat×Bool)} {x y:Operand}
variable {t:TypeId} {v u:Value} {T e:TypeId} {K:Value→World→Prop} {n sz by_ N l h m:Nat} {xs ys:List Value}
theorem Sl.eqv (k:Sl w sz v n xs):v= .slice (CL v) n (iZ v)∧n≤iZ v∧(CL v=none→iZ v=0)∧∀a',CL v=some a'→0<iZ v→a'=⟨uc v,D6 v,none⟩:=by
 obtain⟨a,hv,h1,h2,h3⟩:=k.form
 generalize hc:iZ v=c at*
 subst hv
 exact⟨rfl,h1,h2,h3⟩
theorem Sl.part (k:Sl w sz v n xs) (h1:l≤h) (h2:h≤n) (h3:h≤m) (h4:m≤iZ v):Sl w sz (fP sz v l h m) (h-l) ((xs.drop (l*sz)).take ((h-l)*sz)):=by
 obtain⟨hv,hn,h0,ha⟩:=k.eqv
 have hC:iZ (fP sz v l h m)=m-l:=rfl
 have hle:h*sz≤n*sz:=aay _ h2
 have hle2:l*sz≤h*sz:=aay _ h1
 have hsub:(h-l)*sz=h*sz-l*sz:=Nat.sub_mul _ _ _
 have hlen:=k.len
 refine⟨⟨_,rfl,by rw[hC];omega,λhnone=> ?_,λa' ha' hpos=> ?_⟩,?_,?_⟩
 ·rw[hC]
  by_cases e:m=l
  ·omega
  ·rw[if_neg e,Option.map_eq_none_iff]at hnone
   have:=h0 hnone
   omega
 ·have hB:∀a'',(if m=l then CL v else (CL v).map (·.add (l*sz)))=some a''→uc (fP sz v l h m)=a''.block∧D6 (fP sz v l h m)=a''.off:=λa'' h=>by
   unfold fP
   rw[h]
   exact⟨rfl,rfl⟩
  obtain⟨e1,e2⟩:=hB a' ha'
  rw[e1,e2]
  rw[hC]at hpos
  split at ha'
  ·rw[ha a' ha' (by omega)]
  ·obtain⟨a0,h5,rfl⟩:=go.1 ha'
   rw[ha a0 h5 (by omega),hU]
 ·rw[aal,aa5,hlen]
  omega
 ·intro j u hu
  rw[ab0]at hu
  split at hu
  ·rename_i hj
   rw[List.getElem?_drop]at hu
   have hc:=k.cell _ u hu
   have hne:¬m=l:=by
    intro e
    have:h-l=0:=by omega
    rw[this,abb]at hj
    omega
   have hn0:CL v≠none:=λe=>by
    have:=h0 e
    have h9:h-l=0:=by omega
    rw[h9,abb]at hj
    omega
   obtain⟨a0,ha0⟩:=Option.ne_none_iff_exists'.1 hn0
   have hs:fP sz v l h m= .slice (some (a0.add (l*sz))) (h-l) (m-l):=by unfold fP;rw[if_neg hne,ha0];rfl
   rw[hs]
   have hpos:0<iZ v:=Nat.pos_of_ne_zero λe=>by
    have h9:h-l=0:=by omega
    rw[h9,abb]at hj
    omega
   rw[ha a0 ha0 hpos,hU]
   show w.cell? ⟨uc v,D6 v+l*sz+j,none⟩=some u
   rw[Nat.add_assoc]
   exact hc
  ·cases hu
theorem sj {α:Type} {enc:α→List Value} (he:∀a,(enc a).length=sz):∀(L:List α) (q:Nat),(L.drop q).flatMap enc=(L.flatMap enc).drop (q*sz)
 |[],q=>by simp
 |a::L,0=>by simp
 |a::L,q+1=>by
  rw[List.drop_succ_cons,sj he L q,aaE,show (q+1)*sz=(enc a).length+q*sz from by rw[he,aaR];omega,List.drop_length_add_append]
theorem rO {α:Type} {enc:α→List Value} (he:∀a,(enc a).length=sz):∀(L:List α) (q:Nat),(L.take q).flatMap enc=(L.flatMap enc).take (q*sz)
 |[],q=>by simp
 |a::L,0=>by simp
 |a::L,q+1=>by
  rw[List.take_succ_cons,aaE,rO he L q,aaE,show (q+1)*sz=(enc a).length+q*sz from by rw[he,aaR];omega,List.take_length_add_append]
theorem ab2 {α:Type} {enc:α→List Value} {L:List α} (he:∀a,(enc a).length=sz) (k:dh enc sz w v L) (h1:l≤h) (h2:h≤L.length) (h3:h≤m) (h4:m≤iZ v):dh enc sz w (fP sz v l h m) ((L.drop l).take (h-l)):=by
 have hp:=Sl.part k h1 h2 h3 h4
 unfold dh
 rw[rO he,sj he,aal,aa5,abw (by omega)]
 exact hp
theorem nq {j k:Int} {kj kk:IntKind} {xj xk:Operand} (hx:dg f x=v) (hs:Sl w sz v n xs) (hT:fj P t=some (e,sz,by_)) (hj:dg f xj= .int kj j) (hk:dg f xk= .int kk k)
  (h1:0≤j) (h2:j≤k) (h3:k≤iZ v):
  (execOp (dg f) ⟨d, .slice t x none (some xj) (some xk),ty,ps,af,g⟩).run P w= .ok (.value (fP sz v 0 j.toNat k.toNat)) w:=by
 obtain⟨hv,hn,_,_⟩:=hs.eqv
 unfold fj at hT
 cases hu:P.underlying t with
 |none=>simp[hu]at hT
 |some desc=>
  cases desc<;>simp[hu]at hT
  obtain⟨i',hi',rfl,rfl,rfl⟩:=hT
  unfold fP
  rw[hv]at hx
  generalize CL v=A at*
  generalize iZ v=C at*
  have hC:k≤(C:Int):=h3
  simp[execOp,hx,hj,hk,Instr.sliceAt,Instr.slice,run_underlying hu,Instr.sliceBounds,Instr.sliceBound,asIntOf,sizeOf,typeInfo,hi',show 0≤k from by omega,h1,hC,show j≤max k 0 from by omega]
theorem nu {i:Int} {ki:IntKind} {xi:Operand} (hx:dg f x=v) (hs:Sl w sz v n xs) (hT:fj P t=some (e,sz,by_)) (hi:dg f xi= .int ki i) (h0:0≤i) (h1:i≤n):
  (execOp (dg f) ⟨d, .slice t x (some xi) none none,ty,ps,af,g⟩).run P w= .ok (.value (fP sz v i.toNat n (iZ v))) w:=by
 obtain⟨hv,hn,_,_⟩:=hs.eqv
 unfold fj at hT
 cases hu:P.underlying t with
 |none=>simp[hu]at hT
 |some desc=>
  cases desc<;>simp[hu]at hT
  obtain⟨i',hi',rfl,rfl,rfl⟩:=hT
  unfold fP
  rw[hv]at hx
  generalize CL v=A at*
  generalize iZ v=C at*
  simp[execOp,hx,hi,Instr.sliceAt,Instr.slice,run_underlying hu,Instr.sliceBounds,Instr.sliceBound,asIntOf,sizeOf,typeInfo,hi',h0,h1]
theorem BI {j:Int} {kj:IntKind} {xj:Operand} (hx:dg f x=v) (hs:Sl w sz v n xs) (hT:fj P t=some (e,sz,by_)) (hj:dg f xj= .int kj j) (h0:0≤j) (h1:j≤iZ v):
  (execOp (dg f) ⟨d, .slice t x none (some xj) none,ty,ps,af,g⟩).run P w= .ok (.value (fP sz v 0 j.toNat (iZ v))) w:=by
 obtain⟨hv,hn,_,_⟩:=hs.eqv
 unfold fj at hT
 cases hu:P.underlying t with
 |none=>simp[hu]at hT
 |some desc=>
  cases desc<;>simp[hu]at hT
  obtain⟨i',hi',rfl,rfl,rfl⟩:=hT
  unfold fP
  rw[hv]at hx
  generalize CL v=A at*
  generalize iZ v=C at*
  have hC:j≤(C:Int):=h1
  simp[execOp,hx,hj,Instr.sliceAt,Instr.slice,run_underlying hu,Instr.sliceBounds,Instr.sliceBound,asIntOf,sizeOf,typeInfo,hi',h0,hC]
theorem jZ {v2:Value} (hx:dg f x=v) (hy:dg f y=v2) (hT:fj P t=some (e,sz,by_)) (hz:(dT P e).map (λz=>z.cells.size)=some sz)
  (hs:Sl w sz v n xs) (hfull:iZ v=n) (hs2:Sl w sz v2 m ys) (hm0:0<m) (hN:N≤w.heap.size) (hb:(n+m)*by_≤140737488355328) (hm:n+m≤9223372036854775807)
  (hK:∀v' w',dz w w'→w'.ownsRow N e sz v' (n+m) (xs++ys)→K v' w'):Yd P ⟨d, .call ⟨.builtin .append,#[x,y],#[t,t]⟩,ty,ps,af,g⟩ f w K:=by
 obtain⟨z,hz,hzs⟩:=go.1 hz
 unfold dT at hz
 obtain⟨i,hi,hzz⟩:=Do.1 hz
 unfold fj at hT
 cases hun:P.underlying t with
 |none=>simp[hun]at hT
 |some desc=>
  cases desc<;>simp[hun]at hT
  rename_i e'
  obtain⟨i',hi',rfl,rfl,rfl⟩:=hT
  obtain rfl:i'=i:=by rw[hi]at hi';exact(Z9 hi').symm
  have hv2:=hs2.eqn hm0
  have hcell2:=hs2.cell
  generalize uc v2=B2 at*
  generalize D6 v2=O2 at*
  generalize iZ v2=C2 at*
  subst hv2
  have h63:n+m≤maxLen:=by simpa [maxLen] using hm
  have grown:∀(old:Nat),old<n+m→
    (w.drew.alloc (.cells (xs.toArray++ys.toArray++Builtin.zeroCells z.cells (grownCap w (n+m) old e'-(n+m))) e')).ownsRow N e' i'.size
     (.slice (some ⟨w.heap.size,0,none⟩) (n+m) (grownCap w (n+m) old e')) (n+m) (xs++ys)∧
    dz w (w.drew.alloc (.cells (xs.toArray++ys.toArray++Builtin.zeroCells z.cells (grownCap w (n+m) old e'-(n+m))) e')):=by
   intro old ho
   have hlen:(xs++ys).length=(n+m)*i'.size:=by rw[An,hs.len,hs2.len,aaR]
   have hge:=grownCap_ge w (n+m) old e'
   have hcm:grownCap w (n+m) old e'≤maxLen:=grownCap_le_maxLen w (n+m) old e' h63
   refine⟨⟨hlen, .inr ⟨w.heap.size,_,_,rfl,hN,heap_alloc_new w.drew _,hge,hcm,?_,?_⟩⟩,⟨rfl,rfl,rfl,by simp,λk hk=>heap_alloc_old w.drew _ hk⟩⟩
   ·simp only[Array.size_append,List.size_toArray,size_zeroCells,hzs,hs.len,hs2.len,←aaR]
    congr 1
    omega
   ·simp only[Array.toList_append,aav]
    rw[←aav,←hlen]
    exact List.take_left
  have hn2:∀j u,ys[j]? =some u→w.cell? ((⟨B2,O2,none⟩:Addr).add j)=some u:=λj u hu=>by rw[hU];exact hcell2 j u hu
  obtain⟨hv,hn,h0,ha⟩:=hs.eqv
  cases hA:CL v with
  |none=>
   have h9:=h0 hA
   rw[hfull]at h9
   subst h9
   have hxs:xs=[]:=aar (by simpa using hs.len)
   subst hxs
   have hr:=run_append_nil (P:=P) w t ty e' i' z hun hi hzz ⟨B2,O2,none⟩ m C2 ys hs2.len hn2 hm0 (by omega) (by rw[aa1]at hb;omega)
   have hg:=grown 0 (by omega)
   simp only[aa1,aaM,Array.empty_append]at hg
   rw[hA,hfull]at hv
   refine .val ?_ (hK _ _ hg.2 (by simpa using hg.1))
   simp[execOp,resolve,invoke,builtin,hx,hy,hv,hr]
  |some a0=>
   rw[hA,hfull]at hv
   have hr:=run_append_grow (P:=P) w t ty e' i' z hun hi hzz a0 n n xs hs.len (λj u hu=>by
    have hpos:0<iZ v:=Nat.pos_of_ne_zero λe=>by
     have h0:n=0:=hfull.symm.trans e
     have hx0:xs=[]:=aar (by rw[hs.len,h0,abb])
     rw[hx0]at hu
     cases hu
    rw[ha a0 hA hpos,hU];exact hs.cell j u hu) ⟨B2,O2,none⟩ m C2 ys hs2.len hn2 (by omega) (by omega) (growslice_fits (by omega) hb)
   have hg:=grown n (by omega)
   refine .val ?_ (hK _ _ hg.2 hg.1)
   rw[hv]at hx
   simp[execOp,resolve,invoke,builtin,hx,hy,hr]
theorem jU {α:Type} {enc:α→List Value} {b:Nat} {c:Array Value} {a:α} (k:At w b c T) (hc:c.toList=enc a) (hs:c.size=sz) (hN:N≤b):cD enc sz T w N (.slice (some ⟨b,0,none⟩) 1 1) [a]:=
 ⟨by simp[←hc,hs], .inr ⟨b,1,c,rfl,hN,k,am _,by decide,by rw[hs,aap],by
  show c.toList.take (1*sz)=_
  rw[aap,←hs,←abW,aan,hc];simp⟩⟩
end
section
variable {α β:Type} {enc:α→Value} {encV:β→Value} {w w':World} {b it:Nat} {l:List (α×β)} {seen:List α}
variable {α' β':Type} {enc':α'→Value} {encV':β'→Value} {b' it':Nat} {l':List (α'×β')} {seen':List α'}
variable {γ:Type} {encE:γ→List Value} {sz N:Nat} {T:TypeId} {v:Value} {L:List γ} {a:Nat} {c:Array Value}
theorem At.grownMap (h:At w a c T) (k:du enc encV w b l) (hG:w.grownBy w' (some b)):At w' a c T:=h.grown hG (λe=>ab9 h k (Z9 e))
theorem ach [DecidableEq α] {k:α} {st:Nat} (h:At w a c T) (m:OT enc encV w b l k st) (hG:w.grownBy w' (some b)):At w' a c T:=by
 obtain⟨l2,f,cl,_,_,h1,_⟩:=m.out
 exact h.grownMap ⟨f,cl,h1⟩ hG
theorem ab8 (h:At w a c T) (k:eD enc encV w it b l seen) (hG:w.grownBy w' (some it)):At w' a c T:=h.grown hG (λe=>acn h k (Z9 e))
theorem cD.grownMap (h:cD encE sz T w N v L) (k:du enc encV w b l) (hG:w.grownBy w' (some b)):cD encE sz T w' N v L:=World.ownsRow.kept h hG (.inr (λe=>tE h k e.symm))
theorem acp [DecidableEq α] {k:α} {st:Nat} (h:cD encE sz T w N v L) (m:OT enc encV w b l k st) (hG:w.grownBy w' (some b)):cD encE sz T w' N v L:=by
 obtain⟨l2,f,cl,_,_,h1,_⟩:=m.out
 exact h.grownMap ⟨f,cl,h1⟩ hG
theorem acd (h:cD encE sz T w N v L) (k:eD enc encV w it b l seen) (hG:w.grownBy w' (some it)):cD encE sz T w' N v L:=World.ownsRow.kept h hG (.inr (λe=>wD h k e.symm))
theorem du.grownAt (k:du enc encV w b l) (h:At w a c T) (hG:w.grownBy w' (some a)):du enc encV w' b l:=k.grown hG (λe=>ab9 h k (Z9 e).symm)
theorem du.grownOw (k:du enc encV w b l) (h:cD encE sz T w N v L) (hG:w.grownBy w' v.ownBlock):du enc encV w' b l:=k.grown hG (tE h k)
theorem du.grownNe (k:du enc encV w b l) (hne:b≠b') (hG:w.grownBy w' (some b')):du enc encV w' b l:=k.grown hG (λe=>hne (Z9 e))
theorem ab5 (k:du enc encV w b l) (h:eD enc' encV' w it' b' l' seen') (hG:w.grownBy w' (some it')):du enc encV w' b l:=k.grown hG (λe=>acv h k (Z9 e).symm)
theorem eD.grownAt (k:eD enc encV w it b l seen) (h:At w a c T) (hG:w.grownBy w' (some a)):eD enc encV w' it b l seen:=
 k.grown hG (λe=>ab9 h k.map (Z9 e).symm) (λe=>acn h k (Z9 e).symm)
theorem eD.grownOw (k:eD enc encV w it b l seen) (h:cD encE sz T w N v L) (hG:w.grownBy w' v.ownBlock):eD enc encV w' it b l seen:=k.grown hG (tE h k.map) (wD h k)
theorem eD.grownMap (k:eD enc encV w it b l seen) (h:du enc' encV' w b' l') (hne:b≠b') (hG:w.grownBy w' (some b')):eD enc encV w' it b l seen:=
 k.grown hG (λe=>hne (Z9 e)) (λe=>acv k h (Z9 e))
theorem acw [DecidableEq α'] {kk:α'} {st:Nat} (k:eD enc encV w it b l seen) (h:OT enc' encV' w b' l' kk st) (hne:b≠b') (hG:w.grownBy w' (some b')):eD enc encV w' it b l seen:=by
 obtain⟨l2,f,cl,_,_,h1,_⟩:=h.out
 exact k.grownMap ⟨f,cl,h1⟩ hne hG
end
end
section
open Go Go.RowKit
def Ac (n:Int):List Value:=[.int .u8 n]
theorem tW (n:Int):(Ac n).length=1:=rfl
theorem B3 {l:List Int}:(l.flatMap Ac).all Value.oneCell'=true:=xI (λ_=>rfl) l
theorem J2 (l:List Int):l.flatMap Ac=l.map (Value.int .u8):=by
 induction l with
 |nil=>rfl
 |cons a l ih=>simp[aaE,ih,Ac]
def eM (l:List UInt8):Value:= .string ⟨l.toArray⟩
theorem DW (a b:List UInt8) (h:eM a=eM b):a=b:=by
 simpa [eM] using h
theorem E0 (a c:List UInt8):((⟨a.toArray⟩:ByteArray)==⟨c.toArray⟩)=true↔a=c:=by
 show (a.toArray==c.toArray)=true↔a=c
 simp
def nK (xs:List Int):List UInt8:=xs.map λn=>UInt8.ofNat n.toNat
theorem zf:∀(ns:List Int) (s:ByteArray),ns.foldl (λr n=>r.push (UInt8.ofNat n.toNat)) s=⟨s.data++(nK ns).toArray⟩
 |[],s=>by simp[nK]
 |n::ns,s=>by
  rw[abO,zf ns]
  simp[ByteArray.push,nK]
section
variable {P:Program} {f:Nat→Value} {w:World} {d:Option Nat} {ty:TypeId} {ps:String} {af:Array Edge} {g:Option (Nat×Bool)} {x y:Operand} {v:Value}
theorem yO {src dst e:TypeId} {xs:List Int} (hx:dg f x=v) (hs:dh Ac 1 w v xs) (h1:P.underlying src=some (.slice e)) (h2:P.underlying e=some (.int .u8)) (h3:P.underlying dst=some .string):
  (execOp (dg f) ⟨d, .convert src dst x,ty,ps,af,g⟩).run P w= .ok (.value (eM (nK xs))) w:=by
 have hsl:Sl w 1 v xs.length (xs.flatMap Ac):=hs
 have hc:=hsl.cell
 obtain⟨hv,hn,h0,ha⟩:=hsl.eqv
 cases hA:CL v with
 |none=>
  have h4:=h0 hA
  have hxs:xs=[]:=aar (by omega)
  rw[hA]at hv
  rw[hv]at hx
  subst hxs
  have hr:=run_convert_bytes_string w src dst e none 0 (iZ v) h1 h2 h3
  rw[show Conv.bytesToString (.slice none 0 (iZ v))=pure (.string .empty) from rfl]at hr
  have hr2:(convert src dst (.slice none 0 (iZ v))).run P w= .ok (.string ⟨#[]⟩) w:=hr
  have hx2:dg f x= .slice none 0 (iZ v):=hx
  simp[execOp,hx2,hr2,eM,nK]
 |some a=>
  rw[hA]at hv
  have hl:=_root_.Go.run_loadCells_list (P:=P) w a (xs.map (Value.int .u8)) (λj u hj=>by
   have hj':j<xs.length:=by
    have:=(aaV.1 hj).1
    simpa using this
   rw[ha a hA (by omega),hU]
   exact hc j u (by rw[J2];exact hj))
  rw[aaD]at hl
  have hr:=run_convert_bytes_string w src dst e (some a) xs.length (iZ v) h1 h2 h3
  rw[run_bytesToString w a xs.length (iZ v) xs hl,zf]at hr
  rw[hv]at hx
  simp[execOp,hx,hr,eM]
end
section
variable {w W:World}
theorem Below.ow {α:Type} {enc:α→List Value} {sz:Nat} {T:TypeId} {N:Nat} {v:Value} {l:List α} (h:Go.RowKit.Below w.heap.size w W) (k:cD enc sz T w N v l):cD enc sz T W N v l:=
 World.ownsRow.kept k (row:=none) ⟨h.os,h.tape,h.output,h.size,λj hj _=>h.block j hj⟩ (by cases v.ownBlock<;>simp)
theorem abt {α β:Type} {enc:α→Value} {encV:β→Value} {b:Nat} {l:List (α×β)} (h:Go.RowKit.Below w.heap.size w W) (k:du enc encV w b l):du enc encV W b l:=k.moved (h.block b k.lt)
end
end
section
open Go Go.RowKit
def Da (l:List UInt8):List Value:=[eM l]
theorem kq (l:List UInt8):(Da l).length=1:=rfl
theorem Hi (s:ByteArray):Value.string s=eM s.data.toList:=by
 unfold eM
 rw[Array.toArray_toList]
def iY (l:List UInt8) (i:Nat):Nat:=(l.getD i 0).toNat
section
variable {P:Program} {f:Nat→Value} {w:World} {d:Option Nat} {ty:TypeId} {ps:String} {af:Array Edge} {g:Option (Nat×Bool)} {x y:Operand} {v:Value} {t t2:TypeId}
theorem iC {a b:List UInt8} (hx:dg f x=eM a) (hy:dg f y=eM b) (hn:a.length+b.length≤9223372036854775807):
  (execOp (dg f) ⟨d, .binOp .add t x y t2,ty,ps,af,g⟩).run P w= .ok (.value (eM (a++b))) w:=by
 have h:=run_string_add_sum (P:=P) w ⟨a.toArray⟩ ⟨b.toArray⟩ (by simpa [ByteArray.size] using hn)
 rw[ByteArray.mk_append_mk]at h
 unfold eM at hx hy ⊢
 simp[execOp,hx,hy,eqGuard,binOp,h]
theorem G1 {a b:List UInt8} (hx:dg f x=eM a) (hy:dg f y=eM b):
  (execOp (dg f) ⟨d, .binOp .eql t x y t2,ty,ps,af,g⟩).run P w= .ok (.value (.bool (decide (a=b)))) w:=by
 unfold eM at hx hy
 have e:(a==b)=decide (a=b):=by by_cases h:a=b<;>simp[h]
 simp[execOp,hx,hy,eqGuard,binOp,Op.stringOp,e]
theorem Pi {a b:List UInt8} (hx:dg f x=eM a) (hy:dg f y=eM b):
  (execOp (dg f) ⟨d, .binOp .neq t x y t2,ty,ps,af,g⟩).run P w= .ok (.value (.bool (decide (¬a=b)))) w:=by
 unfold eM at hx hy
 have e:(a==b)=decide (a=b):=by by_cases h:a=b<;>simp[h]
 simp[execOp,hx,hy,eqGuard,binOp,Op.stringOp,bne,e]
theorem yS {a:List UInt8} (hx:dg f x=eM a) (ht:P.underlying t=some .string):
  (execOp (dg f) ⟨d, .call ⟨.builtin .len,#[x],#[t]⟩,ty,ps,af,g⟩).run P w= .ok (.value (.int .i64 (a.length:Int))) w:=by
 unfold eM at hx
 have h:=run_len_string (P:=P) w t ty ⟨a.toArray⟩ ht
 rw[show (⟨a.toArray⟩:ByteArray).size=a.length from rfl]at h
 simp[execOp,resolve,invoke,builtin,hx,h,goInt]
theorem MF {a:List UInt8} {k:IntKind} {i:Nat} (hx:dg f x=eM a) (hy:dg f y= .int k (i:Int)) (ht:P.underlying t=some .string) (hi:i<a.length):
  (execOp (dg f) ⟨d, .index t x y,ty,ps,af,g⟩).run P w= .ok (.value (.int .u8 ((iY a i:Nat):Int))) w:=by
 unfold eM at hx
 have hs:(i:Int)<((⟨a.toArray⟩:ByteArray).size:Int):=by simp[ByteArray.size];exact hi
 have h:=run_index_string (P:=P) w t ⟨a.toArray⟩ k (i:Int) ht
 rw[dif_pos ⟨by omega,hs⟩]at h
 have e:((⟨a.toArray⟩:ByteArray)[(i:Int).toNat]'(by simpa [ByteArray.size] using hi)).toNat=iY a i:=by
  unfold iY
  rw[me,th hi]
  rfl
 rw[e]at h
 simp[execOp,hx,hy,h]
theorem LU {a:List UInt8} {ki kj:IntKind} {i j:Nat} {xi xj:Operand} (hx:dg f x=eM a) (hi:dg f xi= .int ki (i:Int)) (hj:dg f xj= .int kj (j:Int)) (ht:P.underlying t=some .string) (h1:i≤j) (h2:j≤a.length):
  (execOp (dg f) ⟨d, .slice t x (some xi) (some xj) none,ty,ps,af,g⟩).run P w= .ok (.value (eM ((a.drop i).take (j-i)))) w:=by
 unfold eM at hx
 have h:=run_slice_string (P:=P) w t ⟨a.toArray⟩ ki kj (i:Int) (j:Int) ht (by omega) (by omega) (by simp[ByteArray.size];exact h2)
 rw[so,so,ByteArray.extract_mk]at h
 simp[execOp,hx,hi,hj,run_sliceAt_string w t _ _ _ _ ht,h,eM]
theorem NZ {te:TypeId} {p:Value} (hx:dg f x= .iface te p) (ht:P.isIface t=true):
  (execOp (dg f) ⟨d, .binOp .neq t x (.const .nilIface) t2,ty,ps,af,g⟩).run P w= .ok (.value (.bool true)) w:=by
 have h:=run_neq_iface_nil (P:=P) w t ht te p
 have hy:dg f (.const .nilIface)= .nilIface:=rfl
 simp[execOp,hx,hy,eqGuard,h]
theorem Kb (hx:dg f x= .nilIface) (ht:P.isIface t=true):
  (execOp (dg f) ⟨d, .binOp .neq t x (.const .nilIface) t2,ty,ps,af,g⟩).run P w= .ok (.value (.bool false)) w:=by
 have h:=run_neq_nil_nil_at (P:=P) w t ht
 have hy:dg f (.const .nilIface)= .nilIface:=rfl
 simp[execOp,hx,hy,eqGuard,h]
end
def qi (w:World) (b:Nat) (l:List UInt8) (i:Nat):Prop:=w.heap[b]? =some (.stringIter ⟨l.toArray⟩ i)
section
variable {P:Program} {fr:Nat→Value} {w w':World} {d:Option Nat} {ty:TypeId} {ps:String} {af:Array Edge} {g:Option (Nat×Bool)} {x:Operand} {t:TypeId} {K:Value→World→Prop} {l:List UInt8} {it i:Nat}
theorem qi.lt (h:qi w it l i):it<w.heap.size:=gf h
theorem dz.itW (h:dz w w') (k:qi w it l i):qi w' it l i:=h.block k
theorem qi.grown {row:Option Nat} (k:qi w it l i) (h:w.grownBy w' row) (hne:some it≠row):qi w' it l i:=by
 have hlt:=k.lt
 unfold qi at*
 rw[h.block it hlt hne]
 exact k
theorem qi.neAt {b:Nat} {c:Array Value} {T:TypeId} (k:qi w it l i) (h:At w b c T):it≠b:=λe=>by
 subst e
 unfold qi at k
 unfold At at h
 rw[h]at k
 cases k
theorem yl {N sz n:Nat} {T:TypeId} {v:Value} {xs:List Value} (h:w.ownsRow N T sz v n xs) (k:qi w it l i):some it≠v.ownBlock:=by
 intro e
 rcases h.2 with ⟨rfl,rfl⟩|⟨g,cap,cur,rfl,hg,hh,_⟩
 ·simp[Value.ownBlock]at e
 ·simp[Value.ownBlock]at e
  exact k.neAt (T:=T) (c:=cur) (b:=g) hh e
theorem acz {α:Type} {enc:α→List Value} {sz N:Nat} {T:TypeId} {v:Value} {L:List α} (h:cD enc sz T w N v L) (k:qi w it l i) (hG:w.grownBy w' (some it)):cD enc sz T w' N v L:=World.ownsRow.kept h hG (.inr (λe=>yl h k e.symm))
theorem qi.grownOw {α:Type} {enc:α→List Value} {sz N:Nat} {T:TypeId} {v:Value} {L:List α} (k:qi w it l i) (h:cD enc sz T w N v L) (hG:w.grownBy w' v.ownBlock):qi w' it l i:=k.grown hG (yl h k)
theorem ace {b:Nat} {c:Array Value} {T:TypeId} (h:At w b c T) (k:qi w it l i) (hG:w.grownBy w' (some it)):At w' b c T:=h.grown hG (λe=>k.neAt h (Z9 e).symm)
theorem qi.grownAt {b:Nat} {c:Array Value} {T:TypeId} (k:qi w it l i) (h:At w b c T) (hG:w.grownBy w' (some b)):qi w' it l i:=k.grown hG (λe=>k.neAt h (Z9 e))
theorem dh.grownItW {α:Type} {enc:α→List Value} {sz:Nat} {v:Value} {L:List α} (h:dh enc sz w v L) (k:qi w it l i) (hG:w.grownBy w' (some it)):dh enc sz w' v L:=by
 refine⟨h.form,h.len,λj u hu=> ?_⟩
 have hc:=Sl.cell h j u hu
 have hlt:=World.block_lt_of_cell? w _ hc
 have e:=hG.block (uc v) hlt (λe=>by
  have e2:=Z9 e
  unfold qi at k
  unfold World.cell? at hc
  simp only[e2,k]at hc
  cases hc)
 rw[←hc]
 unfold World.cell?
 simp only[e]
theorem EZ (hx:dg fr x=eM l) (ht:P.underlying t=some .string) (hK:∀it w',it=w.heap.size→dz w w'→qi w' it l 0→K (.pointer (some ⟨it,0,none⟩)) w'):Yd P ⟨d, .range t x,ty,ps,af,g⟩ fr w K:=by
 unfold eM at hx
 refine .val ?_ (hK w.heap.size (w.iter ⟨l.toArray⟩ 0) rfl (dz.alloc w _) (World.iter_heap w _ 0))
 simp[execOp,hx,run_range_string w t _ ht]
theorem ud (w:World) (b:Nat) (o:Obj):w.grownBy {w with heap:=w.heap.setIfInBounds b o} (some b):=by
 refine⟨rfl,rfl,rfl,by simp,λk _ hne=> ?_⟩
 show (w.heap.setIfInBounds b o)[k]? =_
 rw[abd]
 intro e
 exact hne vu
theorem Ia (hx:dg fr x= .pointer (some ⟨it,0,none⟩)) (hm:qi w it l i) (hK0:l.length≤i→K (.tuple #[.bool false]) w)
  (hK:∀(r n:Nat) w',i<l.length→i<n→((iY l i<128∧r=iY l i∧n=i+1)∨(128≤iY l i∧128≤r∧r≤2147483647))→w.grownBy w' (some it)→qi w' it l n→K (.tuple #[.bool true, .int .i64 (i:Int), .int .i32 (r:Int)]) w'):
  Yd P ⟨d, .next x true,ty,ps,af,g⟩ fr w K:=by
 have hm2:w.heap[it]? =some (.stringIter ⟨l.toArray⟩ i):=hm
 have hsz:(⟨l.toArray⟩:ByteArray).size=l.length:=by simp[ByteArray.size]
 by_cases hi:i<l.length
 ·have hi2:i<(⟨l.toArray⟩:ByteArray).size:=by rw[hsz];exact hi
  have e:((⟨l.toArray⟩:ByteArray)[i]'hi2).toNat=iY l i:=by
   unfold iY
   rw[me,th hi]
   rfl
  have hrun:(execOp (dg fr) ⟨d, .next x true,ty,ps,af,g⟩).run P w= .ok (.value (.tuple #[.bool true, .int .i64 i, .int .i32 (Utf8.decode ⟨l.toArray⟩ i).1])) {w with heap:=w.heap.setIfInBounds it (.stringIter ⟨l.toArray⟩ (i+(Utf8.decode ⟨l.toArray⟩ i).2))}:=by
   simp[execOp,hx,Instr.next,getObj,setObj,Sem.run_bind,Sem.run,hm2,Result.andThen,hi2,goInt]
  have hnew:qi {w with heap:=w.heap.setIfInBounds it (.stringIter ⟨l.toArray⟩ (i+(Utf8.decode ⟨l.toArray⟩ i).2))} it l (i+(Utf8.decode ⟨l.toArray⟩ i).2):=by
   show (w.heap.setIfInBounds it _)[it]? =_
   rw[Array.getElem?_setIfInBounds_self_of_lt hm.lt]
  rcases aa0 (iY l i) 128 with h|h
  ·have hd:=decode_ascii ⟨l.toArray⟩ i hi2 (by rw[e];exact h)
   rw[e]at hd
   rw[hd]at hrun hnew
   exact .val hrun (hK _ _ _ hi (abn _) (.inl ⟨h,rfl,rfl⟩) (ud w it _) hnew)
  ·obtain⟨h1,h2⟩:=decode_high ⟨l.toArray⟩ i hi2 (by rw[e];exact h)
   exact .val hrun (hK _ _ _ hi (by omega) (.inr ⟨h,h1,decode_le _ _⟩) (ud w it _) hnew)
 ·refine .val ?_ (hK0 (by omega))
  have hi2:¬i<(⟨l.toArray⟩:ByteArray).size:=by rw[hsz];exact hi
  simp[execOp,hx,Instr.next,getObj,Sem.run_bind,Sem.run,hm2,Result.andThen,hi2]
end
theorem Ep {P:Program} {g:Nat} {vs:Array Value} {w:World} {v:Value} (h:Calls P g vs w λe w'=>e= .returned v∧w'=w):Fn P g vs w λx _=>x=v:=
 ⟨Calls.mono h λe w' ⟨h1,h2⟩=>⟨v,h1,by rw[h2];exact dz.refl w,rfl⟩⟩
theorem dz.drewN (w:World) (n:Nat):dz w (w.drewN n):=act w _
def Yw (g:Nat) (w:World):Prop:=∃m:Int,w.cell? ⟨g,0,none⟩=some (.int .i64 m)
theorem Yw.below {g:Nat} {w W:World} (h:Go.RowKit.Below w.heap.size w W) (k:Yw g w):Yw g W:=by
 obtain⟨m,hm⟩:=k
 exact⟨m,by rw[World.cell?_of_block (h.block g (World.block_lt_of_cell? _ _ hm))];exact hm⟩
end
section
open Go Go.RowKit
def dp:List UInt8→List (List UInt8)
 |[]=>[[]]
 |b::r=>if b=10 then []::dp r else match dp r with
  |[]=>[[b]]
  |h::t=>(b::h)::t
theorem rZ:∀s,dp s≠[]
 |[]=>by simp[dp]
 |b::r=>by
  unfold dp
  split
  ·simp
  ·split<;>simp
theorem AA {b:UInt8} {r:List UInt8} (h:b≠10):Lib.index (b::r) [10]=if Lib.index r [10]= -1 then-1 else Lib.index r [10]+1:=by
 rw[Lib.index]
 have hp:([10]:List UInt8).isPrefixOf (b::r)=false:=by
  simp[List.isPrefixOf,Ne.symm h]
 rw[hp]
 simp only[abq,if_false,beq_iff_eq]
theorem tS:∀s:List UInt8,Lib.splitK [10] 0 (s.count 10) s=dp s
 |[]=>rfl
 |b::r=>by
  have ih:=tS r
  by_cases h:b=10
  ·subst h
   have hp:Lib.index (10::r) [10]=0:=by
    rw[Lib.index]
    simp[List.isPrefixOf]
   rw[List.count_cons_self,Lib.splitK,hp]
   simp only[show ((0:Int)== -1)=false from rfl,abq,if_false]
   rw[dp,if_pos rfl,←ih]
   rfl
  ·rw[List.count_cons_of_ne (by simpa using h),dp,if_neg h,←ih]
   cases hk:r.count 10 with
   |zero=>rfl
   |succ k=>
    rw[Lib.splitK,Lib.splitK,AA h]
    by_cases hi:Lib.index r [10]= -1
    ·simp[hi]
    ·have hge:=Lib.index_ge r [10]
     obtain⟨i,hi2⟩:=aau (show 0≤Lib.index r [10]by omega)
     rw[hi2]
     have e1:((i:Int)+1).toNat=i+1:=by omega
     have e2:¬((i:Int)+1== -1)=true:=by rw[beq_iff_eq];omega
     have e3:¬((i:Int)== -1)=true:=by rw[beq_iff_eq];omega
     have e4:¬(i:Int)= -1:=by omega
     simp only[if_neg e4,if_neg e2,if_neg e3,e1,so,abl]
     rfl
theorem IE {α:Type} {enc:α→List Value} {w:World} {T:TypeId} {N b:Nat} {l:List α} (k:w.heap[b]? =some (.cells (l.flatMap enc).toArray T (0,0))) (hN:N≤b) (hs:∀a,(enc a).length=1) (hm:l.length≤maxLen):
  cD enc 1 T w N (.slice (some ⟨b,0,none⟩) l.length l.length) l:=by
 have hl:=kn hs l
 rw[abB]at hl
 exact⟨by rw[hl,abB], .inr ⟨b,l.length,_,rfl,hN,k,am _,hm,by simp[hl],by
  show (l.flatMap enc).toArray.toList.take _=_
  rw[abB,←hl]
  exact aan⟩⟩
end
section
open Go Go.RowKit
def jo (n:Nat):List UInt8:=if n<10 then [UInt8.ofNat (48+n)]else [UInt8.ofNat (48+n/10),UInt8.ofNat (48+n%10)]
theorem AD {n:Nat} (h:n<10):Lib.decDigits n=[UInt8.ofNat (48+n)]:=by rw[Lib.decDigits,dif_pos h]
theorem M2 {n:Nat} (h:n<100):Lib.decDigits n=jo n:=by
 unfold jo
 split
 ·rename_i h1;exact AD h1
 ·rename_i h1
  rw[Lib.decDigits,dif_neg h1,AD (by omega)]
  rfl
theorem vZ {n:Nat} (h:n<100):Lib.itoa (n:Int)=jo n:=by
 unfold Lib.itoa
 rw[if_neg (by omega),so,M2 h]
theorem rM:∀n,n<100→Lib.atoiAll (jo n)= .ok (n:Int):=by decide+kernel
theorem rg (n:Nat):(jo n).length≤2:=by unfold jo;split<;>simp
theorem NU {n:Int} (h:n<0):Lib.itoa n=45::Lib.decDigits n.natAbs:=by unfold Lib.itoa;rw[if_pos h]
theorem Oc {n:Nat} (h:100≤n):3≤(Lib.decDigits n).length:=by
 rw[Lib.decDigits,dif_neg (by omega),An]
 have:2≤(Lib.decDigits (n/10)).length:=by
  rw[Lib.decDigits]
  split
  ·omega
  ·rw[An]
   have:Lib.decDigits (n/10/10)≠[]:=by
    rw[Lib.decDigits]
    split<;>simp
   have:=abz.2 this
   simp
   omega
 simp
 omega
theorem Ha {s:List UInt8} {n:Int} (h:Lib.atoiAll s= .ok n): -9223372036854775808≤n∧n≤9223372036854775807:=by
 cases s with
 |nil=>cases h
 |cons c r=>
  simp only[Lib.atoiAll]at h
  split at h
  ·cases h
  ·cases h
  ·rename_i u _
   split at h
   ·cases h
   ·split at h
    ·cases h
    ·split at h<;>injection h with h<;>omega
def ED (line word:List UInt8):Option Nat:=(List.range 100).find? λn=>decide (line=word++32::jo n)
def iS (line word:List UInt8) (lo hi:Int):Int:=
 match ED line word with
 |some n=>if lo≤n∧(n:Int)≤hi then n else-1
 |none=> -1
section
variable {line word:List UInt8} {lo hi n:Int} {k:Nat}
theorem Po {a b:Nat} (ha:a<100) (hb:b<100) (h:jo a=jo b):a=b:=by
 have h1:=rM a ha
 rw[h,rM b hb]at h1
 injection h1 with h1
 omega
theorem AL (hk:k<100) (h:line=word++32::jo k):ED line word=some k:=by
 unfold ED
 cases hf:(List.range 100).find? λn=>decide (line=word++32::jo n)with
 |none=>
  have:=List.find?_eq_none.1 hf k (aam.2 hk)
  exact absurd (decide_eq_true h) this
 |some j=>
  have h1:=List.find?_some hf
  have h2:=aam.1 (List.mem_of_find?_eq_some hf)
  have h3:line=word++32::jo j:=of_decide_eq_true h1
  rw[h]at h3
  have h4:=List.append_cancel_left h3
  injection h4 with _ h4
  rw[Po hk h2 h4]
theorem nt (h:∀k,k<100→line≠word++32::jo k):ED line word=none:=by
 unfold ED
 exact List.find?_eq_none.2 λk hk hd=>h k (aam.1 hk) (of_decide_eq_true hd)
theorem xM {p:List UInt8}:Lib.hasPrefix line p=true↔∃r,line=p++r:=by
 unfold Lib.hasPrefix
 rw[List.isPrefixOf_iff_prefix]
 constructor
 ·rintro⟨r,rfl⟩;exact⟨r,rfl⟩
 ·rintro⟨r,rfl⟩;exact⟨r,rfl⟩
theorem ut {p r:List UInt8}:Lib.trimPrefix (p++r) p=r:=by
 unfold Lib.trimPrefix
 rw[if_pos (xM.2 ⟨r,rfl⟩),List.drop_left]
theorem TE (h:(!Lib.hasPrefix line (word++[32]))=true):Value.int .i64 (-1)= .int .i64 (iS line word lo hi):=by
 unfold iS
 rw[nt λk _ e=> ?_]
 rw[xM.2 ⟨jo k,by rw[e];simp⟩]at h
 cases h
theorem XH (h:∀n,Lib.atoiAll (Lib.trimPrefix line (word++[32]))≠ .ok n):Value.int .i64 (-1)= .int .i64 (iS line word lo hi):=by
 unfold iS
 rw[nt λk hk e=> ?_]
 have e2:line=(word++[32])++jo k:=by rw[e];simp
 exact h _ (by rw[e2,ut];exact rM k hk)
theorem XL (h:((Lib.trimPrefix line (word++[32])).length:Int)>2):Value.int .i64 (-1)= .int .i64 (iS line word lo hi):=by
 unfold iS
 rw[nt λk hk e=> ?_]
 have e2:line=(word++[32])++jo k:=by rw[e];simp
 rw[e2,ut]at h
 have:=rg k
 omega
theorem Xj (ha:Lib.atoiAll (Lib.trimPrefix line (word++[32]))= .ok n) (h:¬Lib.itoa n=Lib.trimPrefix line (word++[32])):Value.int .i64 (-1)= .int .i64 (iS line word lo hi):=by
 unfold iS
 rw[nt λk hk e=> ?_]
 have e2:line=(word++[32])++jo k:=by rw[e];simp
 rw[e2,ut]at h ha
 rw[rM k hk]at ha
 injection ha with ha
 subst ha
 exact h (vZ hk)
theorem HG (hp:(!Lib.hasPrefix line (word++[32]))=false) (h2:¬((Lib.trimPrefix line (word++[32])).length:Int)>2) (hi:Lib.itoa n=Lib.trimPrefix line (word++[32])):(n<0∧ED line word=none)∨(0≤n∧ED line word=some n.toNat):=by
 have hp2:Lib.hasPrefix line (word++[32])=true:=by cases h:Lib.hasPrefix line (word++[32])<;>simp_all
 obtain⟨r,rfl⟩:=xM.1 hp2
 rw[ut]at h2 hi
 rcases Int.lt_or_le n 0 with h0|h0
 ·refine .inl ⟨h0,nt λk hk e=> ?_⟩
  have e2:word++[32]++r=word++[32]++jo k:=by rw[e];simp
  have e3:=List.append_cancel_left e2
  rw[e3,NU h0]at hi
  have:∀k,k<100→(jo k).head?≠some 45:=by decide+kernel
  exact this k hk (by rw[←hi];rfl)
 ·refine .inr ⟨h0,?_⟩
  obtain⟨k,rfl⟩:=aau h0
  have hk:k<100:=by
   rcases aa0 k 100 with h|h
   ·exact h
   ·have h3:=Oc h
    have e:Lib.itoa (k:Int)=Lib.decDigits k:=by unfold Lib.itoa;rw[if_neg (by omega),so]
    rw[←hi,e]at h2
    omega
  rw[vZ hk]at hi
  rw[so]
  exact AL hk (by rw[←hi];simp)
theorem Ye (h0:0≤lo) (hp:(!Lib.hasPrefix line (word++[32]))=false) (h2:¬((Lib.trimPrefix line (word++[32])).length:Int)>2) (hi':¬¬Lib.itoa n=Lib.trimPrefix line (word++[32])) (h:n<lo):Value.int .i64 (-1)= .int .i64 (iS line word lo hi):=by
 unfold iS
 rcases HG hp h2 (aaa hi')with ⟨_,e⟩|⟨h3,e⟩<;>rw[e]
 simp only[]
 rw[if_neg (by omega)]
theorem XA (hp:(!Lib.hasPrefix line (word++[32]))=false) (h2:¬((Lib.trimPrefix line (word++[32])).length:Int)>2) (hi':¬¬Lib.itoa n=Lib.trimPrefix line (word++[32])) (h:n>hi):Value.int .i64 (-1)= .int .i64 (iS line word lo hi):=by
 unfold iS
 rcases HG hp h2 (aaa hi')with ⟨_,e⟩|⟨h3,e⟩<;>rw[e]
 simp only[]
 rw[if_neg (by omega)]
theorem Yj (h0:0≤lo) (hp:(!Lib.hasPrefix line (word++[32]))=false) (h2:¬((Lib.trimPrefix line (word++[32])).length:Int)>2) (hi':¬¬Lib.itoa n=Lib.trimPrefix line (word++[32])) (h:¬n<lo) (h':¬n>hi):Value.int .i64 n= .int .i64 (iS line word lo hi):=by
 unfold iS
 rcases HG hp h2 (aaa hi')with ⟨_,e⟩|⟨h3,e⟩
 ·omega
 ·rw[e]
  simp only[]
  rw[if_pos (by omega),Int.toNat_of_nonneg h3]
end
end
section
open Go Go.RowKit
section
variable {P:Program} {f:Nat→Value} {w:World} {d:Option Nat} {ty t t2:TypeId} {ps:String} {af:Array Edge} {g:Option (Nat×Bool)} {x y:Operand} {m n:Nat} {b:Int}
theorem WY (m:Nat):IntKind.u8.wrap (m:Int)=((m%256:Nat):Int):=by simp[IntKind.wrap,IntKind.signed,IntKind.bits]
theorem Jv (hx:dg f x= .int .u8 (m:Int)) (hy:dg f y= .int .u8 b) (hb:b=(n:Int)):
  (execOp (dg f) ⟨d, .binOp .mul t x y t2,ty,ps,af,g⟩).run P w= .ok (.value (.int .u8 ((m*n%256:Nat):Int))) w:=by
 subst hb
 rw[Oh hx hy,←Int.natCast_mul,WY]
end
theorem xE (m k:Nat):m/2^k/2=m/2^(k+1):=by rw[Nat.div_div_eq_div_mul,aa4]
theorem Yg {k:Nat} (h:k≤62):2^k*2<ip .u64:=by
 have h2:2^(k+1)≤2^63:=aaf (by decide) (by omega)
 rw[aa4]at h2
 simp only[ip]
 omega
theorem YM {k:Nat} (h:k≤8):2^k≤256:=by
 have h2:2^k≤2^8:=aaf (by decide) h
 simpa using h2
theorem Al {k:Nat} (h:k<8):2^k≤128:=by
 have h2:2^k≤2^7:=aaf (by decide) (by omega)
 simpa using h2
theorem kC (x k:Nat):x.testBit k=decide (x/2^k%2=1):=aaL
theorem Ah {α:Type} (f:Nat→α) (d:α) {k p:Nat} (h:p<k):((List.range k).map f).getD p d=f p:=by
 simp[me,h]
theorem Ay {α:Type} (f g:Nat→α) {k p:Nat} (h:∀q,q<k→q≠p→f q=g q) (a:α) (ha:a=g p):((List.range k).map f).set p a=(List.range k).map g:=by
 refine List.ext_getElem? λq=> ?_
 rw[List.getElem?_set]
 split
 ·subst_vars
  split
  ·rename_i hl
   simp at hl
   simp[hl]
  ·rename_i hl
   simp at hl
   simp[hl]
 ·rename_i hq
  by_cases hk:q<k
  ·simp[hk,h q hk (λe=>hq e.symm)]
  ·simp[hk]
def Ih (s k:Nat):List Bool:=(List.range k).map λp=>s.testBit p
theorem E4 (s k:Nat):(Ih s k).length=k:=by simp[Ih]
theorem NE {s t i:Nat} (hi:i<4) (h:∀p,p<256→s.testBit p=t.testBit p):wd s i=wd t i:=by
 refine kI (wl t i) λj hj=> ?_
 rw[jn,h (64*i+j) (by omega)]
 simp[hj]
def l4 (k:Nat):List Bool:=(List.range 256).map λp=>decide (p<k)
theorem pL (k:Nat):(l4 k).length=256:=by simp[l4]
theorem DZ:List.replicate 256 false=l4 0:=by
 unfold l4
 rw[show (λp:Nat=>decide (p<0))=λ_=>false from funext λp=>by simp]
 rw[List.map_const',abQ]
theorem HZ (k:Nat):(l4 k).set (k:Int).toNat true=l4 (k+1):=by
 rw[so]
 exact Ay _ _ (λq _ h=>by rw[aaA];simp;omega) _ gj
def lit (m v i:Nat):Int:=if m/2^i%2=0 then 2 else ((v/2^i%2:Nat):Int)
def rr (m v k:Nat):List Int:=(List.range k).map (lit m v)
abbrev nP (m v:Nat):List Int:=rr m v 8
theorem wu (m v k:Nat):rr m v (k+1)=rr m v k++[lit m v k]:=by simp[rr,abN]
theorem l9 (m v k:Nat):(rr m v k).length=k:=by simp[rr]
theorem kH {m v k p:Nat} (h:p<k):(rr m v k).getD p 0=lit m v p:=Ah _ _ h
theorem Lv (m v i:Nat):lit m v i=0∨lit m v i=1∨lit m v i=2:=by
 unfold lit
 split
 ·exact .inr (.inr rfl)
 ·have:v/2^i%2<2:=aaS _ (by decide)
  omega
def P4 (l:List Int):Prop:=l.length≤8∧∀i,i<l.length→l.getD i 0=0∨l.getD i 0=1∨l.getD i 0=2
theorem GK (m v:Nat):P4 (nP m v):=⟨by rw[l9];exact am _,λi hi=>by rw[kH (by rwa [l9]at hi)];exact Lv m v i⟩
def jQ (l:List Int):Nat→Nat
 |0=>0
 |k+1=>if l.getD k 0<2 then jQ l k+2^k else jQ l k
def mv (l:List Int):Nat→Nat
 |0=>0
 |k+1=>if l.getD k 0<2 then mv l k+2^k*(l.getD k 0).toNat else mv l k
theorem Bf (l:List Int):∀k,jQ l k<2^k
 |0=>by simp[jQ]
 |k+1=>by
  have ih:=Bf l k
  simp only[jQ,aa4]
  split<;>omega
theorem Fd (l:List Int):∀k,mv l k<2^k
 |0=>by simp[mv]
 |k+1=>by
  have ih:=Fd l k
  have hp:0<2^k:=aaz k
  simp only[mv,aa4]
  split
  ·rename_i h
   have:(l.getD k 0).toNat≤1:=by omega
   have h2:2^k*(l.getD k 0).toNat≤2^k*1:=Nat.mul_le_mul_left _ this
   omega
  ·omega
theorem Bo (m v:Nat):∀k,k≤8→jQ (nP m v) k=m%2^k
 |0,_=>by simp[jQ,Nat.mod_one]
 |k+1,h=>by
  have ih:=Bo m v k (by omega)
  have hb:m/2^k%2<2:=aaS _ (by decide)
  simp only[jQ,kH (show k<8 by omega),ih,Nat.mod_pow_succ]
  unfold lit
  by_cases e:m/2^k%2=0
  ·simp[e]
  ·have e1:m/2^k%2=1:=by omega
   have hv:v/2^k%2<2:=aaS _ (by decide)
   rw[if_neg e,if_pos (by omega),e1,abB]
theorem QM (v m k:Nat):(v &&& m)/2^k%2=if m/2^k%2=0 then 0 else v/2^k%2:=by
 have h:=aad v m k
 rw[kC,kC,kC]at h
 have h1:(v &&& m)/2^k%2<2:=aaS _ (by decide)
 have h2:v/2^k%2<2:=aaS _ (by decide)
 have h3:m/2^k%2<2:=aaS _ (by decide)
 rw[aaA]at h
 simp at h
 split<;>omega
theorem Fa (m v:Nat):∀k,k≤8→mv (nP m v) k=(v &&& m)%2^k
 |0,_=>by simp[mv,Nat.mod_one]
 |k+1,h=>by
  have ih:=Fa m v k (by omega)
  have hb:m/2^k%2<2:=aaS _ (by decide)
  simp only[mv,kH (show k<8 by omega),ih,Nat.mod_pow_succ,QM]
  unfold lit
  by_cases e:m/2^k%2=0
  ·simp[e]
  ·have hv:v/2^k%2<2:=aaS _ (by decide)
   rw[if_neg e,if_neg e,if_pos (by omega),so]
theorem zK {m v:Nat} (hm:m<256) {n:Nat}:(∀i,n≤i→i<8→lit m v i=2)↔m<2^n:=by
 constructor
 ·intro h
  refine Nat.lt_pow_two_of_testBit _ λj hj=> ?_
  rw[kC]
  by_cases h8:j<8
  ·have:=h j hj h8
   unfold lit at this
   split at this
   ·rename_i e;simp[e]
   ·have:v/2^j%2<2:=aaS _ (by decide)
    omega
  ·have h2:2^8≤2^j:=aaf (by decide) (by omega)
   rw[Nat.div_eq_of_lt (by omega)]
   simp
 ·intro h i hi _
  have h2:2^n≤2^i:=aaf (by decide) hi
  simp[lit,Nat.div_eq_of_lt (aao h h2)]
theorem qC {v m:Nat}:andNot v m=0↔v &&& m=v:=by
 constructor
 ·intro h
  refine Z7 λi=> ?_
  have h2:=congrArg (λx=>x.testBit i) h
  simp only[dU,aaF]at h2
  rw[aad]
  cases hv:v.testBit i<;>simp_all
 ·intro h
  refine Z7 λi=> ?_
  have h2:=congrArg (λx=>x.testBit i) h
  simp only[aad]at h2
  rw[dU,aaF]
  cases hv:v.testBit i<;>simp_all
def mE (m v p:Nat):Bool:=decide (p &&& m=v &&& m)
theorem Bt {m v p:Nat} (hm:m<256):(∀i,i<8→lit m v i=2∨lit m v i=((p/2^i%2:Nat):Int))↔p &&& m=v &&& m:=by
 constructor
 ·intro h
  refine Z7 λi=> ?_
  rw[aad,aad,kC p,kC v,kC m]
  by_cases h8:i<8
  ·have h2:v/2^i%2<2:=aaS _ (by decide)
   have h1:=h i h8
   unfold lit at h1
   split at h1
   ·rename_i e;simp[e]
   ·have:p/2^i%2=v/2^i%2:=by omega
    rw[this]
  ·have h2:2^8≤2^i:=aaf (by decide) (by omega)
   rw[show m/2^i=0 from Nat.div_eq_of_lt (by omega)]
   simp
 ·intro h i _
  unfold lit
  have h2:=congrArg (λx=>x.testBit i) h
  simp only[aad]at h2
  rw[kC p,kC v,kC m]at h2
  have h3:v/2^i%2<2:=aaS _ (by decide)
  have h4:p/2^i%2<2:=aaS _ (by decide)
  split
  ·exact .inl rfl
  ·rename_i e
   have:m/2^i%2=1:=by have:=aaS (m/2^i) (show 0<2 by decide);omega
   right
   rw[aaA]at h2
   simp[this]at h2
   omega
def ZP (m v n k:Nat):List Bool:=(List.range 256).map λp=>decide (p<2^n)&&(decide (¬p<k)||mE m v p)
theorem SE (m v n k:Nat):(ZP m v n k).length=256:=by simp[ZP]
theorem P4.get {l:List Int} (h:P4 l) {k:Nat} (hk:k<l.length) (h2:l.getD k 0<2):∃q:Nat,q≤1∧l.getD k 0=(q:Int):=by
 rcases h.2 k hk with e|e|e
 ·exact⟨0,by decide,e⟩
 ·exact⟨1,by decide,e⟩
 ·omega
theorem zd {l:List Int} {k q:Nat} (hq:l.getD k 0=(q:Int)) (h1:q≤1):jQ l (k+1)=jQ l k+2^k∧mv l (k+1)=mv l k+2^k*q:=by
 simp only[jQ,mv,hq,so]
 rw[if_pos (by omega),if_pos (by omega)]
 exact⟨rfl,rfl⟩
theorem yw {l:List Int} {k:Nat} (h:¬l.getD k 0<2):jQ l (k+1)=jQ l k∧mv l (k+1)=mv l k:=by
 simp only[jQ,mv,if_neg h,and_self]
theorem Gi {m v n i:Nat} (hw:∀q,n≤q→q<i→lit m v q=2) (hi:i<8) (h:(nP m v).getD (i:Int).toNat 0=2):∀q,n≤q→q<i+1→lit m v q=2:=λq h1 h2=>by
 rcases aac.1 h2 with h2|rfl
 ·exact hw q h1 h2
 ·rwa [so,kH hi]at h
theorem rS {m v:Nat} {n:Int} (h:n<0∨8<n):dC m v n=false:=by
 unfold dC
 rcases h with h|h
 ·rw[decide_eq_false (show ¬0≤n by omega)];rfl
 ·rw[decide_eq_false (show ¬n≤8 by omega)];simp
theorem Kr {m v i:Nat} {n:Int} (hm:m<256) (hi:n.toNat≤i∧i<8) (h:¬(nP m v).getD (i:Int).toNat 0=2):dC m v n=false:=by
 rw[so,kH hi.2]at h
 have:¬m<2^n.toNat:=λhlt=>h ((zK hm).2 hlt i hi.1 hi.2)
 unfold dC
 rw[decide_eq_false this];simp
theorem KW {m v:Nat} {n:Int} (hm:m<256) (hv:v<256) (hn:0≤n∧n≤8) (hw:∀q,n.toNat≤q→q<8→lit m v q=2):
  decide (((jQ (nP m v) (nP m v).length:Nat):Int)=(m:Int)∧((mv (nP m v) (nP m v).length:Nat):Int)=(v:Int))=dC m v n:=by
 have h1:=(zK hm).1 hw
 have h2:v &&& m≤v:=Nat.and_le_left
 rw[l9,Bo m v 8 (am _),Fa m v 8 (am _),abo (by simpa using hm),abo iq]
 unfold dC
 rw[decide_eq_true hn.1,decide_eq_true hn.2,decide_eq_true h1,aax,aax,aax,aaA]
 simp only[decide_eq_true_eq]
 exact⟨λh=>qC.2 (by exact_mod_cast h.2),λh=>⟨trivial,by rw[qC.1 h]⟩⟩
theorem FX {m v k p:Nat} (hk:k<8) (h:¬(¬(nP m v).getD (k:Int).toNat 0=2)∨¬(¬(nP m v).getD (k:Int).toNat 0=((p/2^k%2:Nat):Int))):lit m v k=2∨lit m v k=((p/2^k%2:Nat):Int):=by
 rw[so,kH hk]at h
 rcases h with h|h
 ·exact .inl (Decidable.not_not.1 h)
 ·exact .inr (Decidable.not_not.1 h)
theorem So {m v k p:Nat} (hm:m<256) (hk:k<8) (h1:¬(nP m v).getD (k:Int).toNat 0=2) (h2:¬(nP m v).getD (k:Int).toNat 0=((p/2^k%2:Nat):Int)):mE m v p=false:=by
 rw[so,kH hk]at h1 h2
 refine decide_eq_false λh=> ?_
 rcases(Bt hm).2 h k hk with e|e
 ·exact h1 e
 ·exact h2 e
theorem QE {m v p:Nat} (hm:m<256) (hw:∀q,q<8→lit m v q=2∨lit m v q=((p/2^q%2:Nat):Int)):true=mE m v p:=
 (decide_eq_true ((Bt hm).1 hw)).symm
end
section
open Go Go.RowKit
section
variable {P:Program} {f:Nat→Value} {w w':World} {d:Option Nat} {ty:TypeId} {ps:String} {af:Array Edge} {g:Option (Nat×Bool)} {x y:Operand}
variable {t:TypeId} {b o:Nat} {v u:Value} {c nw:Array Value} {T e:TypeId} {K:Value→World→Prop} {n sz by_ N k:Nat} {xs ys:List Value}
theorem km (hx:dg f x= .pointer (some ⟨b,o,none⟩)) (hy:dg f y= .agg nw) (hT:j8 P t=some k) (hk:k=nw.size) (hm:At w b c T) (hs0:o+k≤c.size) (hv0:nw.toList.all Value.oneCell'=true)
  (hK:∀w',w.grownBy w' (some b)→At w' b (c.toList.take o++nw.toList++c.toList.drop (o+nw.toList.length)).toArray T→K undef w'):Yd P ⟨d, .store t x y,ty,ps,af,g⟩ f w K:=by
 subst hk
 have h2:=congrFun (lX hT).2 w
 have hst:=run_storeCells_at P b o T nw.toList 0 c w hm iq (λv h=>aaj.1 hv0 v h)
 rw[abl]at hst
 refine .skip (w':=w.setRow b (c.toList.take o++nw.toList++c.toList.drop (o+nw.toList.length)).toArray) ?_ (hK _ ⟨rfl,rfl,rfl,by simp,λj _ hj=>setRow_other w b j _ (λe=>hj vu)⟩ (setRow_heap w b c _ T (0,0) hm))
 simp[execOp,hx,hy,Instr.storeAt,Instr.sureAddr,storeVar,h2,Value.cells,hst]
theorem gW {K:(Nat→Value)→World→Prop} {Q:Exit→(Nat→Value)→World→Prop} {F:Nat→Value} {W:World} {id:Nat} (h:Q (.exit id) F W):xY K Q (.exit id) F W:=h
theorem f7 {Q:Exit→(Nat→Value)→World→Prop} {F:Nat→Value} {W:World} {id:Nat} (h:Q .normal F W):tq id Q (.exit id) F W:=by
 simp only[tq,if_true];exact h
theorem HX (off:Nat) (l:List Value):∀(k:Nat) (cs:Array Value),off+k+l.length≤cs.size→
  (l.zipIdx k).foldl (λcs (p:Value×Nat)=>cs.setIfInBounds (off+p.2) p.1) cs=(cs.toList.take (off+k)++l++cs.toList.drop (off+k+l.length)).toArray:=by
 induction l with
 |nil=>intro k cs _;simp
 |cons u r ih=>
  intro k cs h
  simp only[aak]at h
  rw[List.zipIdx_cons,abO,ih (k+1) _ iq]
  have:=list_seg_step cs.toList (off+k) u r (by simpa using h)
  simp only[Array.toList_setIfInBounds]
  rw[show off+(k+1)=off+k+1 from rfl,this]
  rfl
theorem gR (sz i:Nat) (u:Value) (rest:List (Nat×Value)) (cs:Array Value) (hu:u.cells.size=sz) (hc:i*sz+sz≤cs.size):
  Instr.fill (λi=>some (i*sz,sz)) cs ((i,u)::rest)=Instr.fill (λi=>some (i*sz,sz)) (cs.toList.take (i*sz)++u.cells.toList++cs.toList.drop (i*sz+sz)).toArray rest:=by
 have h:=HX (i*sz) u.cells.toList 0 cs (by simp[hu];omega)
 have hn:¬cs.size<i*sz+sz:=by omega
 simp only[Instr.fill,hu,ne_eq,not_true_eq_false,decide_false,gt_iff_lt,hn,Bool.or_self,abq,if_false]
 rw[←Array.foldl_toList,Array.toList_zipIdx,h]
 simp[hu]
theorem NQ (u0 u1:Value) (z:Array Value) (sz:Nat) (hu0:u0.cells.size=sz) (hu1:u1.cells.size=sz) (hz:z.size=2*sz):Instr.fill (λi=>some (i*sz,sz)) z [(0,u0),(1,u1)]=some (u0.cells++u1.cells):=by
 rw[gR sz 0 u0 _ z hu0 (by omega),gR sz 1 u1 _ _ hu1 (by simp[hu0];omega),Instr.fill]
 congr 1
 apply Array.ext'
 simp only[abb,List.take_zero,aaM,aa1,aap,List.toList_toArray,Array.toList_append]
 have h0:u0.cells.toList.length=sz:=by simp[hu0]
 rw[abT (by omega),abe (by omega),List.drop_eq_nil_of_le (by simp[hu0,hz];omega),aaT]
theorem Gg {x0 x1:Operand} {u0 u1:Value} (hx0:dg f x0=u0) (hx1:dg f x1=u1) (hT:fj P t=some (e,sz,by_)) (hz:(dT P e).map (λz=>z.cells.size)=some sz) (hu0:u0.cells.size=sz) (hu1:u1.cells.size=sz) (hsz:0<sz) (hsz2:sz≤100)
  (hK:∀b w',b=w.heap.size→dz w w'→At w' b (u0.cells++u1.cells) e→K (.slice (some ⟨b,0,none⟩) 2 2) w'):Yd P ⟨d, .buildSlice t 2 #[(0,x0),(1,x1)],ty,ps,af,g⟩ f w K:=by
 obtain⟨z,hz,hzs⟩:=go.1 hz
 unfold dT at hz
 obtain⟨i,hi,hzz⟩:=Do.1 hz
 unfold fj at hT
 cases hun:P.underlying t with
 |none=>simp[hun]at hT
 |some desc=>
  cases desc<;>simp[hun]at hT
  rename_i e'
  obtain⟨i',hi',rfl,h1,rfl⟩:=hT
  obtain rfl:i'=i:=by rw[hi]at hi';exact(Z9 hi').symm
  refine .val (w':=w.alloc (.cells (u0.cells++u1.cells) e')) ?_ (hK w.heap.size _ rfl (dz.alloc w _) (mz w _ _))
  have hbig:¬16777216<2*sz:=by omega
  have hne:¬sz=0:=by omega
  have hf:=NQ u0 u1 ((Array.range (2*sz)).map (z.cells[·%z.cells.size]!)) sz hu0 hu1 gj
  simp[execOp,hx0,hx1,Instr.buildSlice,run_underlying hun,sizeOf,typeInfo,hi,h1,zeroValue,hzz,hne,hbig,newRow,hf]
  intro h
  omega
theorem yH {α:Type} {enc:α→List Value} {b:Nat} {u0 u1:Value} {a0 a1:α} (k:At w b (u0.cells++u1.cells) T) (h0:u0.cells.toList=enc a0) (h1:u1.cells.toList=enc a1) (hs0:u0.cells.size=sz) (hs1:u1.cells.size=sz) (hN:N≤b):cD enc sz T w N (.slice (some ⟨b,0,none⟩) 2 2) [a0,a1]:=
 ⟨by simp[←h0,←h1,hs0,hs1];omega, .inr ⟨b,2,_,rfl,hN,k,am _,by decide,by simp[hs0,hs1];omega,by
  rw[abe (by simp[hs0,hs1];omega)]
  simp[h0,h1]⟩⟩
theorem Cp (hT:fj P t=some (e,sz,by_))
  (hK:∀b w',b=w.heap.size→dz w w'→At w' b #[] e→K (.slice (some ⟨b,0,none⟩) 0 0) w'):Yd P ⟨d, .buildSlice t 0 #[],ty,ps,af,g⟩ f w K:=by
 unfold fj at hT
 cases hun:P.underlying t with
 |none=>simp[hun]at hT
 |some desc=>
  cases desc<;>simp[hun]at hT
  rename_i e'
  obtain⟨i',hi',rfl,h1,rfl⟩:=hT
  refine .val (w':=w.alloc (.cells #[] e')) ?_ (hK w.heap.size _ rfl (dz.alloc w _) (mz w _ _))
  simp[execOp,Instr.buildSlice,run_underlying hun,sizeOf,typeInfo,hi',newRow,Instr.fill]
  have e0:Array.range 0= #[]:=by simp[Array.range]
  rw[e0,List.map_toArray]
  rfl
theorem uq {α:Type} {enc:α→List Value} {b:Nat} (k:At w b #[] T) (hN:N≤b):cD enc sz T w N (.slice (some ⟨b,0,none⟩) 0 0) ([]:List α):=
 ⟨by simp, .inr ⟨b,0,_,rfl,hN,k,am _,my _,by simp,by simp⟩⟩
def fl (v v':Value):Prop:=∀b,v.ownBlock=some b→v'.ownBlock=some b→False
theorem fl.symm {v v':Value} (h:fl v v'):fl v' v:=λb h1 h2=>h b h2 h1
theorem acs {v:Value}:fl (.slice none 0 0) v:=λb h=>by cases h
theorem fl.kept {v v':Value} (h:fl v v'):v'.ownBlock=none∨v'.ownBlock≠v.ownBlock:=by
 cases hv:v'.ownBlock with
 |none=>exact .inl rfl
 |some b=>exact .inr λe=>h b e.symm hv
theorem fl.app {α:Type} {enc:α→List Value} {v v1 v2:Value} {l:List α} (h:fl v v2) (hob:v1.ownBlock=v.ownBlock∨v1.ownBlock=some w.heap.size) (k:cD enc sz T w N v2 l):fl v1 v2:=λb h1 h2=>by
 rcases hob with e|e
 ·exact h b (e▸h1) h2
 ·rw[e]at h1
  cases h1
  have:=(World.ownsRow.lt k _ h2).2
  omega
section
variable {α β:Type} {enc:α→List Value} {Qe:β→List Value} {l:List α} {l':List β} {v':Value} {N' sz':Nat} {T':TypeId}
theorem abU (k:cD enc sz T w N v l):∀j,v.ownBlock=some j→j<w.heap.size:=λj hj=>(World.ownsRow.lt k j hj).2
theorem fl.new {M:Nat} (h:∀j,v.ownBlock=some j→j<M) (k:cD enc sz T w M v' l):fl v v':=λb h1 h2=>by
 have h3:=(World.ownsRow.lt k b h2).1
 have h4:=h b h1
 omega
theorem cD.grownAp (k:cD enc sz T w N v l) (h:fl v' v) (hG:w.grownBy w' v'.ownBlock):cD enc sz T w' N v l:=World.ownsRow.kept k hG h.kept
def TP {α:Type} (v:Value) (l:List α) (b:Nat):Prop:=l=[]∨uc v≠b
theorem acf {b:Nat} (k:dh enc sz w v l) (hb:w.heap.size≤b) (hsz:0<sz:=by decide) (he:∀a,(enc a).length=sz:=by intro a;rfl):TP v l b:=by
 cases l with
 |nil=>exact .inl rfl
 |cons a r=>
  right
  have h0:∃u,((a::r).flatMap enc)[0]? =some u:=by
   rw[aaE]
   have:=he a
   cases hc:enc a with
   |nil=>rw[hc]at this;simp at this;omega
   |cons u q=>exact⟨u,rfl⟩
  obtain⟨u,hu⟩:=h0
  have hc:=Sl.cell k 0 u hu
  have:=World.block_lt_of_cell? w _ hc
  have h2:uc v<w.heap.size:=this
  omega
theorem ab4 {b:Nat} (k:dh enc sz w v l) (h:TP v l b) (hG:w.grownBy w' (some b)):dh enc sz w' v l:=by
 refine⟨k.form,k.len,λj u hu=> ?_⟩
 rcases h with rfl|h
 ·simp at hu
 ·have hc:=Sl.cell k j u hu
  have hlt:=World.block_lt_of_cell? w _ hc
  have e:=hG.block (uc v) hlt (λe=>h (Z9 e))
  rw[←hc]
  unfold World.cell?
  simp only[e]
theorem dh.one (k:dh enc sz w v l):v.oneCell'=true:=by
 obtain⟨a,h,_⟩:=k.form
 rw[h];rfl
theorem cD.one (k:cD enc sz T w N v l):v.oneCell'=true:=k.sl.one
theorem dh.cells (k:dh enc sz w v l):v.cells= #[v]:=by
 obtain⟨a,h,_⟩:=k.form
 rw[h];rfl
end
theorem i6 {m:Nat} {v2:Value} (hx:dg f x=v) (hy:dg f y=v2) (hT:fj P t=some (e,sz,by_)) (hz:(dT P e).map (λz=>z.cells.size)=some sz) (hsz:0<sz)
  (ho:w.ownsRow N e sz v n xs) (hs:Sl w sz v2 m ys) (h10:ys.all Value.oneCell'=true) (hN:N≤w.heap.size) (hb:(n+m)*by_≤140737488355328) (hm:n+m≤9223372036854775807)
  (hK:∀v' w',w.grownBy w' v.ownBlock→w'.ownsRow N e sz v' (n+m) (xs++ys)→(v'.ownBlock=v.ownBlock∨v'.ownBlock=some w.heap.size)→K v' w'):Yd P ⟨d, .call ⟨.builtin .append,#[x,y],#[t,t]⟩,ty,ps,af,g⟩ f w K:=by
 have h1:∀u∈ys,u.oneCell'=true:=λu h=>aaj.1 h10 u h
 obtain⟨z,hz,hzs⟩:=go.1 hz
 unfold dT at hz
 obtain⟨i,hi,hzz⟩:=Do.1 hz
 unfold fj at hT
 cases hun:P.underlying t with
 |none=>simp[hun]at hT
 |some desc=>
  cases desc<;>simp[hun]at hT
  rename_i e'
  obtain⟨i',hi',rfl,h3,rfl⟩:=hT
  obtain rfl:i'=i:=by rw[hi]at hi';exact(Z9 hi').symm
  by_cases hm0:m=0
  ·subst hm0
   have hys:ys=[]:=aar (by simpa using hs.len)
   subst hys
   have hrun:(Builtin.append_ #[t,t] ty #[v,v2]).run P w= .ok v w:=by
    obtain⟨a2,hv2,_⟩:=hs.form
    generalize iZ v2=c2 at hv2
    subst hv2
    rcases ho.2 with ⟨rfl,rfl⟩|⟨q,cap,cur,rfl,hg,hh,hnc,hcm,hcs,ht⟩
    ·simp[Builtin.append_,run_underlying hun,sizeOf,typeInfo,hi,Builtin.lenOf,Builtin.firstCells]
     cases a2<;>simp[loadCells,loadCellsFrom]
    ·cases a2<;>simp[Builtin.append_,run_underlying hun,sizeOf,typeInfo,hi,Builtin.lenOf,Builtin.firstCells,loadCells,loadCellsFrom,hnc,storeCells]
   refine .val (v:=v) (w':=w) ?_ (hK v w (World.grownBy.refl w _) (by simpa using ho) (.inl rfl))
   simp[execOp,resolve,invoke,builtin,hx,hy,hrun]
  ·have hv2:=hs.eqn (by omega)
   have hcell:=hs.cell
   generalize uc v2=B at*
   generalize D6 v2=O at*
   generalize iZ v2=C at*
   subst hv2
   obtain⟨v',w',hr,h4,h5,_,h6⟩:=run_append_own_at (P:=P) (w:=w) N t ty e' i' z sz i'.bytes hun hi hzz h3 rfl hzs hsz v n xs ho ⟨B,O,none⟩ m C ys hs.len
    (λj u hu=>by rw[hU];exact hcell j u hu) h1 (by simpa [maxLen] using hm) hb hN
   refine .val (v:=v') (w':=w') ?_ (hK v' w' h5 h4 h6)
   simp[execOp,resolve,invoke,builtin,hx,hy,hr]
end
structure wY (r1 r2:Option Nat) (w w':World):Prop where
 os:w'.os=w.os
 tape:w'.tape=w.tape
 output:w'.output=w.output
 size:w.heap.size≤w'.heap.size
 block:∀k,k<w.heap.size→some k≠r1→some k≠r2→w'.heap[k]? =w.heap[k]?
section
variable {r1 r2:Option Nat} {a w w':World}
theorem wY.refl:wY r1 r2 w w:=⟨rfl,rfl,rfl,am _,λ_ _ _ _=>rfl⟩
theorem wY.ext (h:wY r1 r2 a w) (k:dz w w'):wY r1 r2 a w':=
 ⟨(Below.os k).trans h.os,(Below.tape k).trans h.tape,(Below.output k).trans h.output,an h.size (Below.size k),λj hj q1 q2=>(Below.block k j (aao hj h.size)).trans (h.block j hj q1 q2)⟩
theorem wY.one (h:wY r1 r2 a w) (k:w.grownBy w' r1):wY r1 r2 a w':=
 ⟨k.os.trans h.os,k.tape.trans h.tape,k.output.trans h.output,an h.size k.size,λj hj q1 q2=>(k.block j (aao hj h.size) q1).trans (h.block j hj q1 q2)⟩
theorem wY.two (h:wY r1 r2 a w) (k:w.grownBy w' r2):wY r1 r2 a w':=
 ⟨k.os.trans h.os,k.tape.trans h.tape,k.output.trans h.output,an h.size k.size,λj hj q1 q2=>(k.block j (aao hj h.size) q2).trans (h.block j hj q1 q2)⟩
theorem acl {b:Nat} {c:Array Value} {T:TypeId} (k:At w b c T) (h:wY r1 r2 w w') (n1:some b≠r1) (n2:some b≠r2):At w' b c T:=by
 unfold At at*
 rw[h.block b (gf k) n1 n2]
 exact k
theorem BG {N:Nat} (h:Go.RowKit.Below N a w) (k:wY r1 r2 w w') (hN:N≤a.heap.size) (h1:∀j,r1=some j→N≤j) (h2:∀j,r2=some j→N≤j):Go.RowKit.Below N a w':=
 ⟨k.os.trans h.os,k.tape.trans h.tape,k.output.trans h.output,an h.size k.size,λj hj=>(k.block j (by have:=h.size;omega) (λe=>by have:=h1 j e.symm;omega) (λe=>by have:=h2 j e.symm;omega)).trans (h.block j hj)⟩
end
end
end Go.Proofs.YtedeonkjellcpaaGreatDoor
