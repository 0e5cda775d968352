/- More operations on memory: new rows of a size, elements that are written, parts of slices, appends onto what has no room. Maps of the call's own: what a map's block holds, as a list of keys and values; one law for each operation on maps; ranges over a map in any order. Parts of slices, and appends o -/
import Derived.Test.YtedeonkjellcpaaGreatDoorLift1
import Derived.Maps.RangeRun
import Derived.MapKept
import Derived.Laws.Strings2
import Derived.Laws.Strings3
import Derived.Laws.Concat
import Derived.Laws.BytesString
import Derived.Laws.RangeAny
import Derived.Deep.Draws
import Derived.Stop.IfaceNil
import Derived.Lib.Split
import Derived.Lib.SplitLaws
import Derived.Lib.IndexMore
import Derived.Lib.ItoaNum
import Derived.Lib.AtoiAllCases
import Derived.Lib.ConvBytes
import Derived.WalkSmall
import Derived.Lib.Strings
import Derived.Maps.AppendAt
namespace Go.Proofs.YtedeonkjellcpaaGreatDoor
set_option linter.unusedVariables false
set_option linter.unusedSimpArgs false
section
open Go Go.RowKit
def Z1 (S:List Nat) (a b:Nat):Bool:=
 match S with
 |c::d::r=>cond (cond (Nat.ble c a) (Nat.ble b d) false) true (Z1 r a b)
 |_=>false
def Sq (l S:List Nat):Bool:=
 match l with
 |a::b::r=>cond (Z1 S a b) (Sq r S) false
 |_=>true
theorem Jp:∀(S:List Nat) {a b t:Nat},Z1 S a b=true→a≤t→t≤b→pc S t=true
 |[],_,_,_,h,_,_=>by cases h
 |[_],_,_,_,h,_,_=>by cases h
 |c::d::r,a,b,t,h,h1,h2=>by
  have ih:=Jp r (a:=a) (b:=b) (t:=t)
  simp only[Z1,pc,Bool.cond_eq_ite,Bool.if_true_left,Bool.if_false_right,abF,th,Nat.ble_eq,Bool.decide_eq_true]at h ⊢
  grind
theorem EQ {t:Nat}:∀(l S:List Nat),Sq l S=true→pc l t=true→pc S t=true
 |[],_,_,h=>by cases h
 |[_],_,_,h=>by cases h
 |a::b::r,S,h,k=>by
  have ih:=EQ (t:=t) r S
  have q:=Jp S (a:=a) (b:=b) (t:=t)
  simp only[Sq,pc,Bool.cond_eq_ite,Bool.if_true_left,Bool.if_false_right,abF,th,Nat.ble_eq,Bool.decide_eq_true]at h k
  grind
theorem acg {S S':List Nat} {f g h:Nat→Value} (hs:Sq S' S=true) (k:dD S f h):dD S (Go.Proofs.YtedeonkjellcpaaGreatDoor.mask S' f g) h:=by
 intro t ht
 have hm:pc S' t=false:=by
  cases e:pc S' t with
  |false=>rfl
  |true=>have:=EQ S' S hs e;rw[ht]at this;cases this
 simp only[Go.Proofs.YtedeonkjellcpaaGreatDoor.mask,hm,cond_false]
 exact k t ht
theorem adc {P:Program} {o:Oper} {f:Nat→Value} {w:World} {g:Nat} {vs:Array Value} {K Post:Value→World→Prop}
  (h:(execOp (dk f) o).run P w= .ok (.enter g vs) w) (hc:lc P g vs w Post) (hK:∀v w',Post v w'→K v w'):Yd P o f w K:=by
 refine⟨λa ha Q=> ?_⟩
 unfold Oper.wp
 rw[ha,h]
 refine Calls.mono hc.out λe w' ⟨v,he,hq⟩=> ?_
 subst he
 exact⟨v,rfl,hK v w' hq⟩
theorem mQ {P:Program} {n:Nat} {ops:Array Oper} {Q:(Nat→Value)→World→Prop} {o:Oper} {rest:List Oper} {f:Nat→Value} {w:World} {dd:Option Nat} {g:Nat} {vs:Array Value} {Post:Value→World→Prop}
  (hg:gf ops f o=true) (he:o.dst=dd) (hd:jU n dd=true) (hr:(execOp (dk f) o).run P w= .ok (.enter g vs) w)
  (hc:lc P g vs w Post) (h:∀v w',Post v w'→WL P n ops Q rest (updo f dd v) w'):WL P n ops Q (o::rest) f w:=gM hg he hd (adc hr hc h)
theorem cB {a b c:World} {row:Option Nat} (h:a.grownBy b row) (k:b.grownBy c row):a.grownBy c row:=
 ⟨k.os.trans h.os,k.tape.trans h.tape,k.output.trans h.output,go h.size k.size,λi hi hne=>(k.block i (abe hi h.size) hne).trans (h.block i hi hne)⟩
theorem d7 (cs:Array Value):(Value.agg cs).cells=cs:=rfl
theorem d6 {Q:Nat→Prop} {k:Nat} (h:∀p,p<k→Q p) (hk:Q k):∀p,p<k+1→Q p:=λp hp=>by
 rcases aaK.1 hp with hp|rfl
 ·exact h p hp
 ·exact hk
theorem eT {Q:Nat→Prop}:∀p,p<0→Q p:=λp h=>absurd h (Nat.not_lt_zero p)
section
variable {P:Program} {f:Nat→Value} {w:World} {d:Option Nat} {ty:TypeId} {ps:String} {af:Array Edge} {g:Option (Nat×Bool)} {x y:Operand}
variable {t:TypeId} {b o:Nat} {v u:Value} {c:Array Value} {T e:TypeId} {K:Value→World→Prop} {n sz by_ N:Nat} {xs ys:List Value}
theorem UG {k kk:IntKind} {z:Value} (hx:dk f x= .int k (n:Int)) (hy:dk f y= .int kk (n:Int)) (hT:fl P t=some (e,sz,by_)) (hz:dW P e=some z)
  (hby:by_*n≤281474976710656) (hn:n≤maxLen) (hN:N≤w.heap.size)
  (hK:∀v' w',dC w w'→w'.ownsRow N e sz v' n (madeCells z.cells (n*sz)).toList→K v' w'):Yd P ⟨d, .makeSlice t x y,ty,ps,af,g⟩ f w K:=by
 unfold dW at hz
 obtain⟨i,hi,hzz⟩:=Do.1 hz
 unfold fl at hT
 cases hun:P.underlying t with
 |none=>simp[hun]at hT
 |some desc=>
  cases desc<;>simp[hun]at hT
  rename_i e'
  obtain⟨i',hi',rfl,h3,rfl⟩:=hT
  obtain rfl:i'=i:=by rw[hi]at hi';exact(aaY hi').symm
  obtain⟨w',hr,ho,hg⟩:=run_make_full (P:=P) w N t e' i' z sz hun hi hzz h3 k kk n hby hn hN
  refine .val (w':=w') ?_ (hK _ w' (adp hg) ho)
  simp[execOp,hx,hy,hr]
theorem Ax {α:Type} {enc:α→List Value} (he:∀a,(enc a).length=sz) (a:α) (z:Value) (hz:z.cells.toList=enc a) (hsz:0<sz) (n:Nat):
  (madeCells z.cells (n*sz)).toList=(List.replicate n a).flatMap enc:=by
 have hs:z.cells.size=sz:=by rw[←acr,hz,he]
 refine List.ext_getElem? λj=> ?_
 by_cases hj:j<n*sz
 ·have h1:j/sz<n:=Nat.div_lt_of_lt_mul (by rwa [ab2]at hj)
  have h2:j%sz<sz:=Nat.mod_lt _ hsz
  have e1:j=j/sz*sz+j%sz:=by rw[ab2];exact(Nat.div_add_mod j sz).symm
  have h3:=zo he (List.replicate n a) (j/sz) (j%sz) a (by simpa using h1) h2
  rw[←e1]at h3
  have h4:(List.replicate n a).getD (j/sz) a=a:=by simp[h1]
  rw[h3,h4,←hz]
  simp[madeCells,hj,hs,h2]
 ·rw[List.getElem?_eq_none (by simp[size_madeCells];omega),List.getElem?_eq_none (by rw[mE he];simp;omega)]
theorem cH.made {α:Type} {enc:α→List Value} (he:∀a,(enc a).length=sz) (a:α) {z:Value} (hz:z.cells.toList=enc a) (hsz:0<sz) (h:w.ownsRow N e sz v n (madeCells z.cells (n*sz)).toList):
  cH enc sz e w N v (List.replicate n a):=by
 unfold cH
 rw[List.length_replicate,←Ax he a z hz hsz n]
 exact h
theorem vr {α:Type} {enc:α→List Value} (he:∀a,(enc a).length=sz) (a:α):∀(l:List α) (k:Nat),k<l.length→
  (l.set k a).flatMap enc=(l.flatMap enc).take (k*sz)++enc a++(l.flatMap enc).drop (k*sz+sz)
 |[],k,h=>by simp at h
 |b::l,0,_=>by
  simp only[List.set_cons_zero,abv,ach,List.take_zero,abG,abP]
  rw[List.drop_append_of_le_length (by rw[he];exact am _),List.drop_of_length_le (by rw[he];exact am _),abG]
 |b::l,k+1,h=>by
  have ih:=vr he a l k (by simpa using h)
  have e1:(k+1)*sz=(enc b).length+k*sz:=by rw[he,abJ];omega
  simp only[List.set_cons_succ,abv,ih,e1]
  rw[List.take_length_add_append,show (enc b).length+k*sz+sz=(enc b).length+(k*sz+sz) from by omega,List.drop_length_add_append]
  simp only[abm]
theorem Bs {g cap o:Nat} {cur:Array Value} {new:List Value} (hl:xs.length=n*sz) (hg:N≤g) (hh:w.heap[g]? =some (.cells cur e (0,0))) (hnc:n≤cap) (hcm:cap≤maxLen) (hcs:cur.size=cap*sz) (ht:cur.toList.take (n*sz)=xs)
  (ho:o+new.length≤n*sz):
  (w.setRow g (cur.toList.take o++new++cur.toList.drop (o+new.length)).toArray).ownsRow N e sz (.slice (some ⟨g,0,none⟩) n cap) n (xs.take o++new++xs.drop (o+new.length)):=by
 have hle:n*sz≤cap*sz:=abn _ hnc
 refine⟨by simp;omega, .inr ⟨g,cap,_,rfl,hg,setRow_heap w g cur _ e (0,0) hh,hnc,hcm,by simp;omega,?_⟩⟩
 subst ht
 refine List.ext_getElem? λj=> ?_
 simp only[List.getElem?_take,List.getElem?_append,acO,aa4,An,acr]
 by_cases h1:j<o
 ·rw[if_pos (by omega),if_pos (by omega),if_pos (by omega),if_pos h1,if_pos (by omega),if_pos (by omega),if_pos h1,if_pos (by omega)]
 ·by_cases h2:j<o+new.length
  ·have e1:min o cur.size=o:=by omega
   have e2:min o (min (n*sz) cur.size)=o:=by omega
   rw[if_pos (by omega),if_pos (by omega),if_neg (by omega),if_pos (by omega),if_neg (by omega),e1,e2]
  ·by_cases h3:j<n*sz
   ·have e1:min o cur.size=o:=by omega
    have e2:min o (min (n*sz) cur.size)=o:=by omega
    rw[if_pos h3,if_neg (by omega),if_neg (by omega),if_pos (by omega),e1,e2]
   ·rw[if_neg h3,if_neg (by omega),if_neg (by omega)]
theorem yT {α:Type} {enc:α→List Value} {a:α} {l:List α} {j:Int} (hx:dk f x= .pointer (some ⟨AH v,FG v+j.toNat*sz,none⟩)) (hy:dk f y=u) (hT:(eJ P t=true∧sz=1)∨kf P t=some sz) (he:∀a,(enc a).length=sz)
  (hu:u.cells.toList=enc a) (h1:u.cells.toList.all Value.oneCell'=true) (ho:cH enc sz e w N v l) (h0:0≤j) (hj:j<l.length)
  (hK:∀w',w.grownBy w' v.ownBlock→cH enc sz e w' N v (l.set j.toNat a)→K undef w'):Yd P ⟨d, .store t x y,ty,ps,af,g⟩ f w K:=by
 obtain⟨hl,hor⟩:=ho
 rcases hor with ⟨_,h⟩|⟨q,cap,cur,rfl,hg,hh,hnc,hcm,hcs,ht⟩
 ·omega
 have hul:u.cells.toList.length=sz:=by rw[hu,he]
 have hle:l.length*sz≤cap*sz:=abn _ hnc
 have hjs:j.toNat*sz+sz≤l.length*sz:=by rw[←Nat.succ_mul];exact abn _ (by omega)
 have hst:=run_storeCells_at P q (j.toNat*sz) e u.cells.toList 0 cur w hh (by rw[hul];omega) (λv h=>aa2.1 h1 v h)
 rw[ab7]at hst
 have hw:=Bs (N:=N) (e:=e) (o:=j.toNat*sz) (new:=u.cells.toList) hl hg hh hnc hcm hcs ht (by rw[hul];exact hjs)
 have hgr:∀r,w.grownBy (w.setRow q r) (some q):=λr=>⟨rfl,rfl,rfl,by simp,λk _ hk=>setRow_other w q k r (λe=>hk A3)⟩
 refine .skip (w':=w.setRow q (cur.toList.take (j.toNat*sz)++u.cells.toList++cur.toList.drop (j.toNat*sz+u.cells.toList.length)).toArray) ?_ (hK _ (hgr _) ?_)
 ·have hcs2:(storeVar t ⟨q,j.toNat*sz,none⟩ u).run P w= .ok () (w.setRow q (cur.toList.take (j.toNat*sz)++u.cells.toList++cur.toList.drop (j.toNat*sz+u.cells.toList.length)).toArray):=by
   have hus:u.cells.size=sz:=by simpa using hul
   rcases hT with ⟨hT,h1⟩|hT
   ·have h2:=congrFun (nb hT).2 w
    rw[h1]at hus
    simp[storeVar,h2,hst,hus]
   ·have h2:=congrFun (mg hT).2 w
    simp[storeVar,h2,hst,hus]
  have hx':dk f x= .pointer (some ⟨q,j.toNat*sz,none⟩):=by rw[hx];simp[AH,FG]
  simp[execOp,hx',hy,Instr.storeAt,Instr.sureAddr,hcs2]
 ·unfold cH
  rw[List.length_set,vr he a l j.toNat (by omega),←hu]
  have e2:j.toNat*sz+sz=j.toNat*sz+u.cells.toList.length:=by rw[hul]
  rw[e2]
  exact hw
end
theorem ya {α:Type} {enc:α→List Value} (h:∀a,(enc a).all Value.oneCell'=true) (l:List α):(l.flatMap enc).all Value.oneCell'=true:=by
 induction l with
 |nil=>rfl
 |cons a l ih=>rw[abv,List.all_append,h a,ih];rfl
theorem lN {l:List Int}:(l.flatMap dT).all Value.oneCell'=true:=ya (λ_=>rfl) l
theorem qe {l:List Cb}:(l.flatMap iD).all Value.oneCell'=true:=ya (λ_=>rfl) l
theorem lC {l:List Rw}:(l.flatMap gx).all Value.oneCell'=true:=ya (λ_=>rfl) l
section
variable {α:Type} {enc:α→List Value} {sz:Nat} {T:TypeId} {w w':World} {N b:Nat} {v:Value} {l:List α}
theorem abE (k:cH enc sz T w N v l) (hb:w.heap.size≤b):v.ownBlock≠some b:=λe=>by
 have:=(World.ownsRow.lt k b e).2
 omega
theorem abg (k:cH enc sz T w N v l) (hne:v.ownBlock≠some b) (hG:w.grownBy w' (some b)):cH enc sz T w' N v l:=World.ownsRow.kept k hG (.inr hne)
theorem adm {c:Array Value} {T':TypeId} (hm:At w b c T') (hne:v.ownBlock≠some b) (hG:w.grownBy w' v.ownBlock):At w' b c T':=hm.grown hG (λe=>hne e.symm)
end
end
section
open Go Go.RowKit
open Go.ChangeMaps (setBlock)
section
variable {α β:Type} [DecidableEq α]
def iH:List (α×β)→α→Option β
 |[],_=>none
 |(a,b)::r,k=>if a=k then some b else iH r k
def iJ (l:List (α×β)) (k:α) (v:β):List (α×β):=if k∈l.map (·.1)then l.map (λp=>if p.1=k then (k,v)else p)else l++[(k,v)]
def ji (l:List α) (k:α):List α:=if k∈l then l else l++[k]
def fz (l:List α):List (α×Bool):=l.map λa=>(a,true)
theorem pK {l:List (α×β)} {k:α}:iH l k=none↔k∉l.map (·.1):=by
 induction l with
 |nil=>simp[iH]
 |cons p r ih=>
  obtain⟨a,b⟩:=p
  simp only[iH,ab8,abl,not_or]
  by_cases e:a=k
  ·subst e;simp
  ·simp only[if_neg e,ih]
   exact⟨λh=>⟨λh2=>e h2.symm,h⟩,λh=>h.2⟩
theorem ny {l:List (α×β)} {k:α} {v:β} (hn:(l.map (·.1)).Nodup):iH l k=some v↔(k,v)∈l:=by
 induction l with
 |nil=>simp[iH]
 |cons p r ih=>
  obtain⟨a,b⟩:=p
  rw[ab8,List.nodup_cons]at hn
  simp only[iH,abl,Prod.mk.injEq]
  by_cases e:a=k
  ·subst e
   simp only[if_true,Option.some.injEq,true_and]
   constructor
   ·intro h;exact .inl h.symm
   ·rintro(h|h)
    ·exact h.symm
    ·exact absurd (acq (f:=(·.1)) h) hn.1
  ·rw[if_neg e,ih hn.2]
   constructor
   ·intro h;exact .inr h
   ·rintro(⟨h,_⟩|h)
    ·exact absurd h.symm e
    ·exact h
theorem lp (l:List (α×β)) (k:α) (v:β):(iJ l k v).map (·.1)=ji (l.map (·.1)) k:=by
 unfold iJ ji
 split
 ·rw[List.map_map]
  refine acd λp _=> ?_
  simp only[Function.comp]
  split
  ·rename_i h;exact h.symm
  ·rfl
 ·simp
theorem BV {α:Type} (l:List α):(fz l).map (·.1)=l:=by
 unfold fz
 rw[List.map_map]
 exact List.map_id l
theorem BN {γ:Type} {l:List γ} (hn:l.Nodup) {i j:Nat} {a:γ} (hi:l[i]? =some a) (hj:l[j]? =some a):i=j:=by
 have h:=abY.1 hn
 obtain⟨hi',h1⟩:=abX.1 hi
 obtain⟨hj',h2⟩:=abX.1 hj
 rcases Nat.lt_trichotomy i j with hlt|rfl|hlt
 ·exact absurd (h1.trans h2.symm) (h i j hi' hj' hlt)
 ·rfl
 ·exact absurd (h2.trans h1.symm) (h j i hj' hi' hlt)
theorem jX (l:List α) (k:α):iJ (fz l) k true=fz (ji l k):=by
 unfold iJ ji
 rw[BV]
 split
 ·unfold fz
  rw[List.map_map]
  refine acd λa _=> ?_
  simp only[Function.comp]
  split
  ·rename_i h;rw[h]
  ·rfl
 ·simp[fz]
theorem mL (l:List α) (k:α):(iH (fz l) k).getD false=decide (k∈l):=by
 induction l with
 |nil=>rfl
 |cons a r ih=>
  unfold fz at*
  simp only[ab8,iH,abl]
  by_cases e:a=k
  ·subst e;simp
  ·rw[if_neg e,ih,abA]
   simp only[decide_eq_true_eq]
   exact⟨λh=> .inr h,λh=>h.resolve_left (λh2=>e h2.symm)⟩
theorem gy {l:List α} {k a:α}:a∈ji l k↔a∈l∨a=k:=by
 unfold ji
 split
 ·rename_i h
  exact⟨.inl,λh2=>h2.elim id λe=>e▸h⟩
 ·simp
theorem jT {l:List α} (h:l.Nodup) (k:α):(ji l k).Nodup:=by
 unfold ji
 split
 ·exact h
 ·rename_i hk
  rw[List.nodup_append]
  exact⟨h,by simp,λa ha b hb=>by simp at hb;subst hb;exact λe=>hk (e▸ha)⟩
theorem rD (l:List α) (k:α):(ji l k).length≤l.length+1:=by
 unfold ji
 split<;>simp
end
structure qJ (P:Program) (k:TypeId) (S:Value→Prop):Prop where
 check:∀(w:World) (em:Bool) {v:Value},S v→(Instr.checkKey em 10000 k v).run P w= .ok () w
 find:∀(w:World) {x:Value},S x→∀es:List MapEntry,(∀e∈es,S e.key)→
  ((Instr.findKey k x es).run P w= .ok none w∧∀e∈es,e.key≠x)∨∃j e,(Instr.findKey k x es).run P w= .ok (some (j,e.val)) w∧es[j]? =some e∧e.key=x
 stays:∀(w:World) {v:Value},S v→(Instr.keyThatStays v v).run P w= .ok v w
theorem qI {P:Program} {k:TypeId} {S:Value→Prop} (hE:∀(w:World) {a b:Value},S a→S b→∃r,(Op.equal k a b).run P w= .ok r w∧(r=true↔a=b)) (w:World) {x:Value} (hx:S x):
  ∀(es:List MapEntry) (i:Nat),(∀e∈es,S e.key)→
  ((Instr.findAsking k x es i).run P w= .ok none w∧∀e∈es,e.key≠x)∨∃j e,(Instr.findAsking k x es i).run P w= .ok (some (i+j,e.val)) w∧es[j]? =some e∧e.key=x
 |[],i,_=> .inl ⟨by simp[Instr.findAsking],by simp⟩
 |e::es,i,h=>by
  obtain⟨r,h1,h2⟩:=hE w hx (h e fD)
  cases r with
  |true=>
   refine .inr ⟨0,e,?_,rfl,(h2.1 rfl).symm⟩
   simp[Instr.findAsking,h1]
  |false=>
   have hne:e.key≠x:=λh=>by have:=h2.2 h.symm;cases this
   rcases qI hE w hx es (i+1) (λe he=>h e (by simp[he]))with ⟨g1,g2⟩|⟨j,e',g1,g2,g3⟩
   ·refine .inl ⟨?_,λe' he'=> ?_⟩
    ·simp[Instr.findAsking,h1,g1]
    ·rcases abl.1 he' with rfl|he'
     ·exact hne
     ·exact g2 e' he'
   ·refine .inr ⟨j+1,e',?_,by simpa using g2,g3⟩
    simp[Instr.findAsking,h1,g1]
    omega
theorem tq {desc:TypeDesc} {S:Value→Prop} (hN:∀a b,S a→S b→Instr.sameNow desc a b=none∨∃r,Instr.sameNow desc a b=some r∧(r=true↔a=b)) {x:Value} (hx:S x):
  ∀(es:List MapEntry) (i:Nat),(∀e∈es,S e.key)→Instr.findNow desc x es i=none∨(Instr.findNow desc x es i=some none∧∀e∈es,e.key≠x)∨∃j e,Instr.findNow desc x es i=some (some (i+j,e.val))∧es[j]? =some e∧e.key=x
 |[],i,_=> .inr (.inl ⟨rfl,by simp⟩)
 |e::es,i,h=>by
  rcases hN x e.key hx (h e fD)with h1|⟨r,h1,h2⟩
  ·left;simp[Instr.findNow,h1]
  ·cases r with
   |true=>exact .inr (.inr ⟨0,e,by simp[Instr.findNow,h1],rfl,(h2.1 rfl).symm⟩)
   |false=>
    have hne:e.key≠x:=λh=>by have:=h2.2 h.symm;cases this
    rcases tq hN hx es (i+1) (λe he=>h e (by simp[he]))with g|⟨g1,g2⟩|⟨j,e',g1,g2,g3⟩
    ·left;simp[Instr.findNow,h1,g]
    ·refine .inr (.inl ⟨by simp[Instr.findNow,h1,g1],λe' he'=> ?_⟩)
     rcases abl.1 he' with rfl|he'
     ·exact hne
     ·exact g2 e' he'
    ·refine .inr (.inr ⟨j+1,e',?_,by simpa using g2,g3⟩)
     simp[Instr.findNow,h1,g1]
     omega
theorem pz {P:Program} {k:TypeId} {desc:TypeDesc} {S:Value→Prop} (hu:P.underlying k=some desc)
  (hE:∀(w:World) {a b:Value},S a→S b→∃r,(Op.equal k a b).run P w= .ok r w∧(r=true↔a=b))
  (hN:∀a b,S a→S b→Instr.sameNow desc a b=none∨∃r,Instr.sameNow desc a b=some r∧(r=true↔a=b))
  (hC:∀(w:World) (em:Bool) {v:Value},S v→(Instr.checkKey em 10000 k v).run P w= .ok () w)
  (hS:∀v,S v→Instr.sameBits 10000 v v=true):qJ P k S:=by
 refine⟨hC,λw x hx es hes=> ?_,λw v hv=>by simp[Instr.keyThatStays,hS v hv]⟩
 rcases tq hN hx es 0 hes with g|⟨g1,g2⟩|⟨j,e',g1,g2,g3⟩
 ·rcases qI hE w hx es 0 hes with ⟨h1,h2⟩|⟨j,e,h1,h2,h3⟩
  ·exact .inl ⟨by simp[Instr.findKey,run_underlying hu,g,h1],h2⟩
  ·exact .inr ⟨j,e,by simpa [Instr.findKey,run_underlying hu,g] using h1,h2,h3⟩
 ·exact .inl ⟨by simp[Instr.findKey,run_underlying hu,g1],g2⟩
 ·exact .inr ⟨j,e',by simp[Instr.findKey,run_underlying hu,g1],g2,g3⟩
def kR {α β:Type} (enc:α→Value) (encV:β→Value) (f:α→Nat) (l:List (α×β)):List MapEntry:=l.map λp=>⟨enc p.1,encV p.2,f p.1⟩
structure vE {α β:Type} (enc:α→Value) (encV:β→Value) (w:World) (b:Nat) (l:List (α×β)) (f:α→Nat) (clock:Nat):Prop where
 heap:w.heap[b]? =some (.map (kR enc encV f l).toArray clock)
 born:∀p∈l,f p.1<clock
 inj:∀p∈l,∀q∈l,f p.1=f q.1→p.1=q.1
 nodup:(l.map (·.1)).Nodup
def dy {α β:Type} (enc:α→Value) (encV:β→Value) (w:World) (b:Nat) (l:List (α×β)):Prop:=∃f clock,vE enc encV w b l f clock
structure eO {α β:Type} (enc:α→Value) (encV:β→Value) (w:World) (it b:Nat) (l:List (α×β)) (seen:List α):Prop where
 out:∃f clock since c0 sn,vE enc encV w b l f clock∧w.heap[it]? =some (.mapIter (some b) since sn c0)∧since≤c0∧since≤clock∧(∀p∈l,f p.1<since)∧sn.toList=(seen.map f).reverse∧(seen=[]∨c0=clock)
 sub:∀k∈seen,k∈l.map (·.1)
 nodup:seen.Nodup
section
variable {α β:Type} {enc:α→Value} {encV:β→Value} {w w':World} {b it:Nat} {l:List (α×β)} {f:α→Nat} {clock:Nat} {seen:List α}
theorem vE.lt (h:vE enc encV w b l f clock):b<w.heap.size:=gQ h.heap
theorem dy.lt (h:dy enc encV w b l):b<w.heap.size:=by obtain⟨f,c,h⟩:=h;exact h.lt
theorem vE.moved (h:vE enc encV w b l f clock) (e:w'.heap[b]? =w.heap[b]?):vE enc encV w' b l f clock:=⟨by rw[e];exact h.heap,h.born,h.inj,h.nodup⟩
theorem dy.moved (h:dy enc encV w b l) (e:w'.heap[b]? =w.heap[b]?):dy enc encV w' b l:=by
 obtain⟨f,c,h⟩:=h;exact⟨f,c,h.moved e⟩
theorem dC.mapT (h:dC w w') (k:dy enc encV w b l):dy enc encV w' b l:=k.moved (Below.block h b k.lt)
instance {w w':World}:Kp w w' (dy enc encV w b l) (dy enc encV w' b l):=⟨dC.mapT⟩
theorem dy.grown {row:Option Nat} (k:dy enc encV w b l) (h:w.grownBy w' row) (hne:some b≠row):dy enc encV w' b l:=k.moved (h.block b k.lt hne)
theorem eO.map (h:eO enc encV w it b l seen):dy enc encV w b l:=by
 obtain⟨f,c,_,_,_,h,_⟩:=h.out;exact⟨f,c,h⟩
theorem eO.lt (h:eO enc encV w it b l seen):it<w.heap.size:=by
 obtain⟨_,_,_,_,_,_,h,_⟩:=h.out;exact gQ h
theorem eO.ltB (h:eO enc encV w it b l seen):b<w.heap.size:=h.map.lt
theorem eO.moved (h:eO enc encV w it b l seen) (e:w'.heap[b]? =w.heap[b]?) (e2:w'.heap[it]? =w.heap[it]?):eO enc encV w' it b l seen:=by
 obtain⟨f,c,s,c0,sn,h1,h2,r⟩:=h.out
 exact⟨⟨f,c,s,c0,sn,h1.moved e,by rw[e2];exact h2,r⟩,h.sub,h.nodup⟩
theorem dC.iterT (h:dC w w') (k:eO enc encV w it b l seen):eO enc encV w' it b l seen:=k.moved (Below.block h b k.ltB) (Below.block h it k.lt)
theorem eO.grown {row:Option Nat} (k:eO enc encV w it b l seen) (h:w.grownBy w' row) (hne:some b≠row) (hne2:some it≠row):eO enc encV w' it b l seen:=
 k.moved (h.block b k.ltB hne) (h.block it k.lt hne2)
theorem eO.ne (h:eO enc encV w it b l seen):it≠b:=by
 obtain⟨f,c,s,c0,sn,h1,h2,_⟩:=h.out
 rintro rfl
 rw[h1.heap]at h2
 cases h2
theorem acZ {c:Array Value} {T:TypeId} {a:Nat} (h:At w a c T) (k:dy enc encV w b l):a≠b:=by
 rintro rfl
 obtain⟨f,c,k⟩:=k
 unfold At at h
 rw[k.heap]at h
 cases h
theorem ade {c:Array Value} {T:TypeId} {a:Nat} (h:At w a c T) (k:eO enc encV w it b l seen):a≠it:=by
 rintro rfl
 obtain⟨_,_,_,_,_,_,h2,_⟩:=k.out
 unfold At at h
 rw[h2]at h
 cases h
theorem zW {N sz n:Nat} {T:TypeId} {v:Value} {xs:List Value} (h:w.ownsRow N T sz v n xs) (k:dy enc encV w b l):some b≠v.ownBlock:=by
 intro e
 rcases h.2 with ⟨rfl,rfl⟩|⟨g,cap,cur,rfl,hg,hh,_⟩
 ·simp[Value.ownBlock]at e
 ·simp[Value.ownBlock]at e
  exact acZ (T:=T) (c:=cur) (a:=g) hh k e.symm
theorem Gf {N sz n:Nat} {T:TypeId} {v:Value} {xs:List Value} (h:w.ownsRow N T sz v n xs) (k:eO enc encV w it b l seen):some it≠v.ownBlock:=by
 intro e
 rcases h.2 with ⟨rfl,rfl⟩|⟨g,cap,cur,rfl,hg,hh,_⟩
 ·simp[Value.ownBlock]at e
 ·simp[Value.ownBlock]at e
  exact ade (T:=T) (c:=cur) (a:=g) hh k e.symm
theorem adl {β':Type} {α':Type} {enc':α'→Value} {encV':β'→Value} {l':List (α'×β')} {b':Nat} (h:eO enc encV w it b l seen) (k:dy enc' encV' w b' l'):it≠b':=by
 rintro rfl
 obtain⟨_,_,_,_,_,_,h2,_⟩:=h.out
 obtain⟨f,c,k⟩:=k
 rw[k.heap]at h2
 cases h2
theorem jk {o:Obj} (w:World) (b:Nat):w.grownBy (setBlock w b o) (some b):=
 ⟨rfl,rfl,rfl,by simp[setBlock],λi _ hi=>by
  show (w.heap.setIfInBounds b o)[i]? =w.heap[i]?
  rw[ab9 (λe=>hi A3)]⟩
theorem kV {o:Obj} (h:b<w.heap.size):(setBlock w b o).heap[b]? =some o:=by
 show (w.heap.setIfInBounds b o)[b]? =_
 simp[h]
end
section
variable {α β:Type} [DecidableEq α] {enc:α→Value} {encV:β→Value} {S:Value→Prop}
variable {P:Program} {fr:Nat→Value} {w w':World} {d:Option Nat} {ty:TypeId} {ps:String} {af:Array Edge} {g:Option (Nat×Bool)} {x y z:Operand}
variable {t kt et:TypeId} {b it:Nat} {l:List (α×β)} {K:Value→World→Prop} {k:α} {v:β}
theorem rG {α β:Type} {enc:α→Value} {encV:β→Value} {l:List (α×β)} {f:α→Nat} {j:Nat}:(kR enc encV f l)[j]? =(l[j]?).map λp=>⟨enc p.1,encV p.2,f p.1⟩:=by simp[kR]
theorem iX (h:m3 P t=some (kt,et)):P.underlying t=some (.map kt et):=by
 unfold m3 at h
 cases hu:P.underlying t with
 |none=>simp[hu]at h
 |some desc=>
  cases desc<;>simp[hu]at h
  obtain⟨rfl,rfl⟩:=h
  rfl
theorem uu (KO:qJ P kt S) (hS:∀a,S (enc a)) (hi:∀a a',enc a=enc a'→a=a') {f:α→Nat} (hn:(l.map (·.1)).Nodup) (w:World) (k:α):
  ((Instr.findKey kt (enc k) (kR enc encV f l)).run P w= .ok none w∧k∉l.map (·.1))∨∃j v,(Instr.findKey kt (enc k) (kR enc encV f l)).run P w= .ok (some (j,encV v)) w∧l[j]? =some (k,v)∧iH l k=some v:=by
 rcases KO.find w (hS k) (kR enc encV f l) (λe he=>by simp[kR]at he;obtain⟨a,_,_,rfl⟩:=he;exact hS _)with ⟨h1,h2⟩|⟨j,e,h1,h2,h3⟩
 ·refine .inl ⟨h1,λhk=> ?_⟩
  obtain⟨p,hp,rfl⟩:=aa6.1 hk
  exact h2 ⟨enc p.1,encV p.2,f p.1⟩ (aa6.2 ⟨p,hp,rfl⟩) rfl
 ·rw[rG]at h2
  obtain⟨p,hp,rfl⟩:=an.1 h2
  obtain⟨a,v⟩:=p
  obtain rfl:=hi _ _ h3
  exact .inr ⟨j,v,h1,hp,(ny hn).2 (List.mem_of_getElem? hp)⟩
theorem g7 {α β:Type} {enc:α→Value} {encV:β→Value} (hK:∀b w',b=w.heap.size→dC w w'→dy enc encV w' b ([]:List (α×β))→K (.map (some b)) w'):Yd P ⟨d, .makeMap t none,ty,ps,af,g⟩ fr w K:=by
 refine .val (w':=w.alloc (.map #[] 0)) ?_ (hK w.heap.size _ rfl (dC.alloc w _) ⟨λ_=>0,0,⟨heap_alloc_new w _,by simp,by simp,by simp⟩⟩)
 simp[execOp,Instr.makeMap,newObj,Sem.run]
theorem fR {z0:Value} {v0:β} (hx:dk fr x= .map (some b)) (hy:dk fr y=enc k) (hT:m3 P t=some (kt,et)) (KO:qJ P kt S) (hS:∀a,S (enc a)) (hi:∀a a',enc a=enc a'→a=a')
  (hz:dW P et=some z0) (hz0:z0=encV v0) (hm:dy enc encV w b l):
  (execOp (dk fr) ⟨d, .lookup t x y false,ty,ps,af,g⟩).run P w= .ok (.value (encV ((iH l k).getD v0))) w:=by
 subst hz0
 obtain⟨f,clock,hm⟩:=hm
 unfold dW at hz
 obtain⟨i,hi2,hzz⟩:=Do.1 hz
 rcases uu (P:=P) (kt:=kt) (encV:=encV) KO hS hi (f:=f) hm.nodup w k with ⟨h1,h2⟩|⟨j,v,h1,h2,h3⟩
 ·rw[pK.2 h2]
  simp[execOp,hx,hy,Instr.lookup,run_underlying (iX hT),getObj,Sem.run,hm.heap,Result.andThen,KO.check w _ (hS k),h1,zeroValue,typeInfo,hi2,hzz]
 ·rw[h3]
  simp[execOp,hx,hy,Instr.lookup,run_underlying (iX hT),getObj,Sem.run,hm.heap,Result.andThen,KO.check w _ (hS k),h1]
theorem ON {α β:Type} {enc:α→Value} {encV:β→Value} {l:List (α×β)} (hx:dk fr x= .map (some b)) (hT:m3 P t=some (kt,et)) (hm:dy enc encV w b l):
  (execOp (dk fr) ⟨d, .call ⟨.builtin .len,#[x],#[t]⟩,ty,ps,af,g⟩).run P w= .ok (.value (.int .i64 (l.length:Int))) w:=by
 obtain⟨f,clock,hm⟩:=hm
 simp[execOp,resolve,invoke,builtin,hx,Builtin.len_,run_underlying (iX hT),getObj,Sem.run,hm.heap,goInt,Result.andThen,kR]
theorem DO {f:α→Nat} {clock:Nat} (hk:k∉l.map (·.1)):(kR enc encV f l).toArray.push ⟨enc k,encV v,clock⟩=(kR enc encV (λa=>if a=k then clock else f a) (iJ l k v)).toArray:=by
 have e1:∀p∈l,p.1≠k:=λp hp e=>hk (e▸acq (f:=(·.1)) hp)
 unfold iJ
 rw[if_neg hk]
 unfold kR
 rw[ace]
 simp only[List.push_toArray,ab8,List.map_nil,if_true]
 congr 2
 refine acd λp hp=> ?_
 rw[if_neg (e1 p hp)]
theorem CX {f:α→Nat} {j:Nat} {v0:β} (hj:l[j]? =some (k,v0)) (hn:(l.map (·.1)).Nodup) (F:MapEntry→MapEntry) (hF:F ⟨enc k,encV v0,f k⟩=⟨enc k,encV v,f k⟩):
  (kR enc encV f l).toArray.modify j F=(kR enc encV f (iJ l k v)).toArray:=by
 have hk:k∈l.map (·.1):=aa6.2 ⟨_,List.mem_of_getElem? hj,rfl⟩
 unfold iJ
 rw[if_pos hk]
 apply Array.ext'
 rw[Array.toList_modify]
 refine List.ext_getElem? λi=> ?_
 rw[List.getElem?_modify]
 simp only[rG,ab0]
 by_cases e:j=i
 ·subst e
  simp[hj,hF]
 ·simp only[e,if_false]
  cases hi:l[i]? with
  |none=>simp
  |some p=>
   have hne:p.1≠k:=λhpk=>by
    have h1:(l.map (·.1))[i]? =some k:=by rw[ab0,hi];simp[hpk]
    have h2:(l.map (·.1))[j]? =some k:=by rw[ab0,hj];rfl
    exact e (BN hn h2 h1)
   simp[hne]
theorem vE.put_new {f:α→Nat} {clock:Nat} (hm:vE enc encV w b l f clock) (hk:k∉l.map (·.1)) (v:β):
  vE enc encV (setBlock w b (.map ((kR enc encV f l).toArray.push ⟨enc k,encV v,clock⟩) (clock+1))) b (iJ l k v) (λa=>if a=k then clock else f a) (clock+1):=by
 have e1:∀p∈l,p.1≠k:=λp hp e=>hk (e▸acq (f:=(·.1)) hp)
 have hmem:∀p∈iJ l k v,p∈l∨p=(k,v):=λp hp=>by
  unfold iJ at hp
  rw[if_neg hk]at hp
  simpa using hp
 have hb2:∀p∈iJ l k v,(p∈l∧(if p.1=k then clock else f p.1)=f p.1∧f p.1<clock)∨(p=(k,v)∧(if p.1=k then clock else f p.1)=clock):=λp hp=>by
  rcases hmem p hp with h|h
  ·exact .inl ⟨h,by rw[if_neg (e1 p h)],hm.born p h⟩
  ·subst h;exact .inr ⟨rfl,by simp⟩
 refine⟨?_,λp hp=> ?_,λp hp q hq e=> ?_,?_⟩
 ·rw[kV hm.lt,DO hk]
 ·rcases hb2 p hp with ⟨_,h1,h2⟩|⟨_,h1⟩<;>simp only[h1]<;>omega
 ·replace e:(if p.1=k then clock else f p.1)=(if q.1=k then clock else f q.1):=e
  rcases hb2 p hp with ⟨hp',h1,h2⟩|⟨rfl,h1⟩<;>rcases hb2 q hq with ⟨hq',h3,h4⟩|⟨rfl,h3⟩
  ·rw[h1,h3]at e;exact hm.inj p hp' q hq' e
  ·rw[h1,h3]at e;omega
  ·rw[h1,h3]at e;omega
  ·rfl
 ·rw[lp];exact jT hm.nodup k
theorem vE.put_old {f:α→Nat} {clock j:Nat} {v0:β} (hm:vE enc encV w b l f clock) (hj:l[j]? =some (k,v0)) (F:MapEntry→MapEntry) (hF:F ⟨enc k,encV v0,f k⟩=⟨enc k,encV v,f k⟩):
  vE enc encV (setBlock w b (.map ((kR enc encV f l).toArray.modify j F) clock)) b (iJ l k v) f clock:=by
 have hk:k∈l.map (·.1):=aa6.2 ⟨_,List.mem_of_getElem? hj,rfl⟩
 have hkeys:(iJ l k v).map (·.1)=l.map (·.1):=by rw[lp,ji,if_pos hk]
 have hmem:∀p∈iJ l k v,∃q∈l,q.1=p.1:=λp hp=>by
  have:p.1∈(iJ l k v).map (·.1):=acq hp
  rw[hkeys]at this
  obtain⟨q,hq,e⟩:=aa6.1 this
  exact⟨q,hq,e⟩
 refine⟨?_,λp hp=> ?_,λp hp q hq e=> ?_,?_⟩
 ·rw[kV hm.lt,CX hj hm.nodup F hF]
 ·obtain⟨q,hq,e⟩:=hmem p hp;rw[←e];exact hm.born q hq
 ·obtain⟨p',hp',e1⟩:=hmem p hp
  obtain⟨q',hq',e2⟩:=hmem q hq
  rw[←e1,←e2]at e ⊢
  exact hm.inj p' hp' q' hq' e
 ·rw[hkeys];exact hm.nodup
theorem fK (hx:dk fr x= .map (some b)) (hy:dk fr y=enc k) (hz:dk fr z=encV v) (hT:m3 P t=some (kt,et)) (KO:qJ P kt S) (hS:∀a,S (enc a)) (hi:∀a a',enc a=enc a'→a=a') (hm:dy enc encV w b l)
  (hK:∀w',w.grownBy w' (some b)→dy enc encV w' b (iJ l k v)→K undef w'):Yd P ⟨d, .mapUpdate t x y z,ty,ps,af,g⟩ fr w K:=by
 obtain⟨f,clock,hm⟩:=hm
 rcases uu (P:=P) (kt:=kt) (encV:=encV) KO hS hi (f:=f) hm.nodup w k with ⟨h1,h2⟩|⟨j,v0,h1,h2,h3⟩
 ·refine .skip ?_ (hK _ (jk w b) ⟨_,_,hm.put_new h2 v⟩)
  have hg:=λo=>MapKept.run_setObj_map (P:=P) o hm.heap
  simp only[execOp,hx,hy,hz,Instr.mapUpdate,Sem.run_bind,run_underlying (iX hT),Result.andThen_ok,MapKept.run_getObj_map hm.heap,KO.check w _ (hS k),h1,hg]
  rfl
 ·have hF:=hm.put_old h2 (v:=v) (λe=>⟨enc k,encV v,e.born⟩) rfl
  refine .skip ?_ (hK _ (jk w b) ⟨_,_,hF⟩)
  have hg:=λo=>MapKept.run_setObj_map (P:=P) o hm.heap
  have hkey:(((kR enc encV f l).toArray[j]?).map (·.key)).getD (enc k)=enc k:=by simp[rG,h2]
  simp only[execOp,hx,hy,hz,Instr.mapUpdate,Sem.run_bind,run_underlying (iX hT),Result.andThen_ok,MapKept.run_getObj_map hm.heap,KO.check w _ (hS k),h1,hkey,KO.stays w (hS k),hg]
  rfl
structure OQ (enc:α→Value) (encV:β→Value) (w:World) (b:Nat) (l:List (α×β)) (k:α) (stamp:Nat):Prop where
 out:∃(l2:List (α×β)) (f:α→Nat) (clock j:Nat) (v0:β),vE enc encV w b l2 f clock∧l2[j]? =some (k,v0)∧f k=stamp∧∀v,iJ l2 k v=iJ l k v
theorem PA (l:List (α×β)) (k:α) (v v':β):iJ (iJ l k v) k v'=iJ l k v':=by
 have hk:k∈(iJ l k v).map (·.1):=by rw[lp,gy];exact .inr rfl
 rw[iJ,if_pos hk]
 unfold iJ
 split
 ·rw[List.map_map]
  refine acd λp _=> ?_
  simp only[Function.comp]
  by_cases e:p.1=k<;>simp[e]
 ·rename_i h
  have e1:∀p∈l,p.1≠k:=λp hp e=>h (e▸acq (f:=(·.1)) hp)
  rw[ace]
  simp only[ab8,List.map_nil,if_true]
  congr 1
  conv=>rhs;rw[←List.map_id l]
  refine acd λp hp=> ?_
  simp[e1 p hp]
theorem H3 {z0:Value} {v0:β} (hx:dk fr x= .map (some b)) (hy:dk fr y=enc k) (hT:m3 P t=some (kt,et)) (KO:qJ P kt S) (hS:∀a,S (enc a)) (hi:∀a a',enc a=enc a'→a=a')
  (hz:dW P et=some z0) (hz0:z0=encV v0) (hm:dy enc encV w b l)
  (hK:∀st w',w.grownBy w' (some b)→OQ enc encV w' b l k st→K (.tuple #[encV ((iH l k).getD v0), .int .i64 (st:Int)]) w'):Yd P ⟨d, .mapEntry t x y,ty,ps,af,g⟩ fr w K:=by
 subst hz0
 obtain⟨f,clock,hm⟩:=hm
 unfold dW at hz
 obtain⟨i,hi2,hzz⟩:=Do.1 hz
 have hg:=λo=>MapKept.run_setObj_map (P:=P) o hm.heap
 rcases uu (P:=P) (kt:=kt) (encV:=encV) KO hS hi (f:=f) hm.nodup w k with ⟨h1,h2⟩|⟨j,v,h1,h2,h3⟩
 ·have hm2:=hm.put_new h2 v0
  have hj:(iJ l k v0)[l.length]? =some (k,v0):=by unfold iJ;rw[if_neg h2];simp
  have:=hK clock _ (jk w b) ⟨⟨iJ l k v0,_,_,l.length,v0,hm2,hj,by simp,λv=>PA l k v0 v⟩⟩
  rw[pK.2 h2]at this
  refine .val ?_ this
  simp only[execOp,hx,hy,Instr.mapEntry,Sem.run_bind,run_underlying (iX hT),Result.andThen_ok,MapKept.run_getObj_map hm.heap,KO.check w _ (hS k),h1,zeroValue,typeInfo]
  simp[hi2,hzz,hg,goInt,setBlock]
 ·have hm2:=hm.put_old h2 (v:=v) (λe=>⟨enc k,e.val,e.born⟩) rfl
  have hl2:iJ l k v=l:=by
   have hk:k∈l.map (·.1):=aa6.2 ⟨_,List.mem_of_getElem? h2,rfl⟩
   unfold iJ
   rw[if_pos hk]
   conv=>rhs;rw[←List.map_id l]
   refine acd λp hp=> ?_
   by_cases e:p.1=k
   ·obtain⟨a,u⟩:=p
    obtain rfl:a=k:=e
    have:=(ny hm.nodup).2 hp
    rw[h3]at this
    cases this
    simp
   ·simp[e]
  rw[hl2]at hm2
  have:=hK (f k) _ (jk w b) ⟨⟨l,_,_,j,v,hm2,h2,rfl,λv=>rfl⟩⟩
  rw[h3]at this
  refine .val ?_ this
  have hkey:(((kR enc encV f l).toArray[j]?).map (·.key)).getD (enc k)=enc k:=by simp[rG,h2]
  have hborn:(((kR enc encV f l).toArray[j]?).map (λx=>((x.born:Nat):Int))).getD 0=(f k:Int):=by simp[rG,h2]
  simp only[execOp,hx,hy,Instr.mapEntry,Sem.run_bind,run_underlying (iX hT),Result.andThen_ok,MapKept.run_getObj_map hm.heap,KO.check w _ (hS k),h1,hkey,hborn,KO.stays w (hS k),hg]
  rfl
theorem Db {st:Nat} (hx:dk fr x= .map (some b)) (hy:dk fr y= .int .i64 (st:Int)) (hz:dk fr z=encV v) (hm:OQ enc encV w b l k st)
  (hK:∀w',w.grownBy w' (some b)→dy enc encV w' b (iJ l k v)→K undef w'):Yd P ⟨d, .entryStore t x y z,ty,ps,af,g⟩ fr w K:=by
 obtain⟨l2,f,clock,j,v0,hm2,hj,rfl,hp⟩:=hm.out
 have hg:=λo=>MapKept.run_setObj_map (P:=P) o hm2.heap
 have hF:=hm2.put_old hj (v:=v) (λe=>{e with val:=encV v}) rfl
 rw[hp]at hF
 refine .skip ?_ (hK _ (jk w b) ⟨_,_,hF⟩)
 have hfind:(kR enc encV f l2).toArray.findIdx? (λe=>(e.born:Int)==(f k:Int))=some j:=by
  rw[Array.findIdx?_eq_some_iff_getElem]
  have hjl:j<l2.length:=(abX.1 hj).1
  have hjv:l2[j]=(k,v0):=(abX.1 hj).2
  refine⟨by simpa [kR] using hjl,?_,λi hi=> ?_⟩
  ·simp[kR,hjv]
  ·have hil:i<l2.length:=Nat.lt_trans hi hjl
   simp only[kR,List.getElem_toArray,List.getElem_map,beq_iff_eq]
   intro e
   have e2:f l2[i].1=f l2[j].1:=by rw[hjv];exact_mod_cast e
   have e3:=hm2.inj _ (List.getElem_mem hil) _ (List.getElem_mem hjl) e2
   have h8:(l2.map (·.1))[i]? =some (l2[i].1):=by simp[hil]
   have h9:(l2.map (·.1))[j]? =some (l2[i].1):=by rw[e3];simp[hjl]
   have:=BN hm2.nodup h8 h9
   omega
 simp only[execOp,hx,hy,hz,Instr.entryStore,Sem.run_bind,Result.andThen_ok,MapKept.run_getObj_map hm2.heap,asInt,asIntOf]
 have hfind2:(kR enc encV f l2).findIdx? (λe=>(e.born:Int)==(f k:Int))=some j:=by simpa using hfind
 simp[hfind2,hg,setBlock]
theorem CA {α β:Type} {enc:α→Value} {encV:β→Value} {l:List (α×β)} (hx:dk fr x= .map (some b)) (hT:m3 P t=some (kt,et)) (hm:dy enc encV w b l)
  (hK:∀it w',it=w.heap.size→dC w w'→eO enc encV w' it b l []→K (.pointer (some ⟨it,0,none⟩)) w'):Yd P ⟨d, .range t x,ty,ps,af,g⟩ fr w K:=by
 obtain⟨f,clock,hm⟩:=hm
 have hE:=dC.alloc w (.mapIter (some b) clock #[] clock)
 refine .val ?_ (hK w.heap.size _ rfl hE ⟨⟨f,clock,clock,clock,#[],hm.moved (Below.block hE b hm.lt),heap_alloc_new w _,am _,am _,hm.born,by simp, .inl rfl⟩,by simp,by simp⟩)
 simp only[execOp,hx,Instr.range,Sem.run_bind,run_underlying (iX hT),Result.andThen_ok,MapKept.run_getObj_map hm.heap]
 simp[newObj,Sem.run]
theorem GZ {seen:List α} (hx:dk fr x= .pointer (some ⟨it,0,none⟩)) (hm:eO enc encV w it b l seen)
  (hK0:(∀p∈l,p.1∈seen)→K (.tuple #[.bool false]) w)
  (hK:∀k v w',(k,v)∈l→k∉seen→w.grownBy w' (some it)→eO enc encV w' it b l (k::seen)→K (.tuple #[.bool true,enc k,encV v]) w'):Yd P ⟨d, .next x false,ty,ps,af,g⟩ fr w K:=by
 obtain⟨f,clock,since,c0,sn,h1,h2,h3,h3',h4,h5,h6⟩:=hm.out
 have hsn:∀p∈l,(sn.contains (f p.1)=true↔p.1∈seen):=λp hp=>by
  rw[Array.contains_iff_mem,←Array.mem_toList_iff,h5,List.mem_reverse,aa6]
  constructor
  ·rintro⟨a,ha,e⟩
   obtain⟨q,hq,rfl⟩:=aa6.1 (hm.sub a ha)
   rw[←h1.inj q hq p hp e];exact ha
  ·intro h;exact⟨_,h,rfl⟩
 have hleft:∀e,e∈(leftOf (kR enc encV f l).toArray sn).toList↔∃p∈l,e=⟨enc p.1,encV p.2,f p.1⟩∧p.1∉seen:=λe=>by
  unfold leftOf
  simp only[Array.toList_filter,abQ,kR,aa6]
  constructor
  ·rintro⟨⟨p,hp,rfl⟩,h⟩
   refine⟨p,hp,rfl,λhs=> ?_⟩
   have:=(hsn p hp).2 hs
   replace h:(!sn.contains (f p.1))=true:=h
   rw[this]at h
   cases h
  ·rintro⟨p,hp,rfl,hs⟩
   refine⟨⟨p,hp,rfl⟩,?_⟩
   have:sn.contains (f p.1)=false:=aa0.2 λh=>hs ((hsn p hp).1 h)
   show (!sn.contains (f p.1))=true
   rw[this];rfl
 rcases run_next_at (P:=P) w ty it b since c0 sn (kR enc encV f l).toArray clock h2 h1.heap (λe he=>by simp only[kR,aa6]at he;obtain⟨p,hp,rfl⟩:=he;exact h4 p hp) h3 with ⟨g1,g2⟩|⟨e,he,w1,hw1,g2⟩
 ·refine .val (w':=w) (v:= .tuple #[.bool false]) (by simp[execOp,hx,g2]) (hK0 λp hp=> ?_)
  refine Decidable.byContradiction λhs=> ?_
  have:=(hleft ⟨enc p.1,encV p.2,f p.1⟩).2 ⟨p,hp,rfl,hs⟩
  have h0:(leftOf (kR enc encV f l).toArray sn).toList=[]:=abk (by simpa using g1)
  rw[h0]at this
  cases this
 ·obtain⟨p,hp,rfl,hs⟩:=(hleft e).1 he
  have hw:w1.heap=w.heap∧w1.os=w.os∧w1.tape=w.tape∧w1.output=w.output:=by rcases hw1 with rfl|rfl<;>exact⟨rfl,rfl,rfl,rfl⟩
  have hne:=hm.ne
  have hg:w.grownBy (setBlock w1 it (.mapIter (some b) since (sn.push (f p.1)) clock)) (some it):=
   ⟨hw.2.1,hw.2.2.1,hw.2.2.2,by simp[setBlock,hw.1],λi hi hne=>by
    show (w1.heap.setIfInBounds it _)[i]? =_
    rw[ab9 (λe=>hne A3),hw.1]⟩
  refine .val (by simp[execOp,hx,g2]) (hK p.1 p.2 _ hp hs hg ⟨⟨f,clock,since,clock,sn.push (f p.1),h1.moved (hg.block b h1.lt (λe=>hne (aaY e).symm)),?_,h3',h3',h4,by simp[h5], .inr rfl⟩,?_,?_⟩)
  ·refine kV ?_
   rw[hw.1];exact hm.lt
  ·intro a ha
   rcases abl.1 ha with rfl|ha
   ·exact acq hp
   ·exact hm.sub a ha
  ·exact List.nodup_cons.2 ⟨hs,hm.nodup⟩
theorem Dr {α β:Type} {enc:α→Value} {encV:β→Value} {l:List (α×β)} {k:α} {v:β} {seen:List α} (hx:dk fr x= .pointer (some ⟨it,0,none⟩)) (hm:eO enc encV w it b l (k::seen)) (hk:(k,v)∈l):
  (execOp (dk fr) ⟨d, .entry x,ty,ps,af,g⟩).run P w= .ok (.value (.tuple #[enc k,encV v])) w:=by
 obtain⟨f,clock,since,c0,sn,h1,h2,h3,h3',h4,h5,h6⟩:=hm.out
 obtain rfl:c0=clock:=by
  rcases h6 with h6|h6
  ·cases h6
  ·exact h6
 have e1:sn=(List.reverse (seen.map f)).toArray.push (f k):=by
  apply Array.ext'
  rw[h5];simp
 rw[e1]at h2
 have hr:=run_entry_at (P:=P) w it b since _ (kR enc encV f l).toArray c0 ⟨enc k,encV v,f k⟩ h2 h1.heap (aa6.2 ⟨_,hk,rfl⟩) (by
  have:(kR enc encV f l).toArray.toList.map (·.born)=(l.map (·.1)).map f:=by simp[kR]
  rw[this]
  refine List.pairwise_map.2 (h1.nodup.imp_of_mem λ{a c} ha hc hne e=> ?_)
  obtain⟨p,hp,rfl⟩:=aa6.1 ha
  obtain⟨q,hq,rfl⟩:=aa6.1 hc
  exact hne (h1.inj p hp q hq e))
 simp[execOp,hx,hr]
end
theorem sd {P:Program} {f:Nat→Value} {w:World} {d:Option Nat} {ty:TypeId} {ps:String} {af:Array Edge} {g:Option (Nat×Bool)} {x:Operand} {v0:Value} (h:dk f x= .tuple #[v0]):
  (execOp (dk f) ⟨d, .extract x 0,ty,ps,af,g⟩).run P w= .ok (.value v0) w:=by simp[execOp,h,Instr.extract]
def jo (c:Cb):Value:= .agg #[.int .u8 (c.m:Int), .int .u8 (c.v:Int)]
def s9 (r:Rw):Value:= .agg #[.int .u8 (r.c.m:Int), .int .u8 (r.c.v:Int), .int .u8 (r.o:Int)]
def eM (z:Int):Value:= .int .i64 z
theorem nV (a b:Cb) (h:jo a=jo b):a=b:=by
 obtain⟨m,v⟩:=a
 obtain⟨m',v'⟩:=b
 simp only[jo,Value.agg.injEq,Array.mk.injEq,List.cons.injEq,Value.int.injEq,true_and,and_true]at h
 obtain⟨h1,h2⟩:=h
 simp only[Cb.mk.injEq]
 omega
theorem uz (a b:Rw) (h:s9 a=s9 b):a=b:=by
 obtain⟨⟨m,v⟩,o⟩:=a
 obtain⟨⟨m',v'⟩,o'⟩:=b
 simp only[s9,Value.agg.injEq,Array.mk.injEq,List.cons.injEq,Value.int.injEq,true_and,and_true]at h
 obtain⟨h1,h2,h3⟩:=h
 simp only[Rw.mk.injEq,Cb.mk.injEq]
 omega
theorem fU (a b:Int) (h:eM a=eM b):a=b:=by
 simpa [eM] using h
theorem wy {P:Program} {w:World} {s:Sem Bool} {r:Bool} (h:((s.run P w).andThen (λb w'=>Result.ok (Value.bool b) w')).andThen (λa w'=>Result.ok (Next.value a) w')= .ok (.value (.bool r)) w):s.run P w= .ok r w:=by
 cases hr:s.run P w<;>rw[hr]at h<;>simp[Result.andThen]at h
 obtain⟨rfl,rfl⟩:=h
 rfl
theorem sQ {P:Program} {w:World} {t:TypeId} {A B:Array Value} {r:Bool} (hg:P.eqGuardType P.depth t=false)
  (h:(execOp (dk λ_=>undef) ⟨none, .binOp .eql t (.const (.agg A)) (.const (.agg B)) 0,0,"",#[],none⟩).run P w= .ok (.value (.bool r)) w):(Op.equal t (.agg A) (.agg B)).run P w= .ok r w:=by
 have e:∀v:Value,dk (λ_=>undef) (.const v)=v:=λ_=>rfl
 simp only[execOp,e,Sem.run_bind,run_eqGuard_agg _ _ _ _ _ _ _ hg,Result.andThen_ok,run_eql_struct]at h
 refine wy (P:=P) (w:=w) (s:=Op.equal t (.agg A) (.agg B)) (r:=r) ?_
 simpa [Op.equal,Op.maxDepth] using h
end
section
open Go Go.RowKit
def fV (sz:Nat) (v:Value) (l h m:Nat):Value:= .slice (if m=l then Eb v else (Eb v).map (·.add (l*sz))) (h-l) (m-l)
section
variable {P:Program} {f:Nat→Value} {w:World} {d:Option Nat} {ty:TypeId} {ps:String} {af:Array Edge} {g:Option (Nat×Bool)} {x y:Operand}
variable {t:TypeId} {v u:Value} {T e:TypeId} {K:Value→World→Prop} {n sz by_ N l h m:Nat} {xs ys:List Value}
theorem Sl.eqv (k:Sl w sz v n xs):v= .slice (Eb v) n (jn v)∧n≤jn v∧(Eb v=none→jn v=0)∧∀a',Eb v=some a'→0<jn v→a'=⟨AH v,FG v,none⟩:=by
 obtain⟨a,hv,h1,h2,h3⟩:=k.form
 generalize hc:jn v=c at*
 subst hv
 exact⟨rfl,h1,h2,h3⟩
theorem Sl.part (k:Sl w sz v n xs) (h1:l≤h) (h2:h≤n) (h3:h≤m) (h4:m≤jn v):Sl w sz (fV sz v l h m) (h-l) ((xs.drop (l*sz)).take ((h-l)*sz)):=by
 obtain⟨hv,hn,h0,ha⟩:=k.eqv
 have hC:jn (fV sz v l h m)=m-l:=rfl
 have hle:h*sz≤n*sz:=abn _ h2
 have hle2:l*sz≤h*sz:=abn _ h1
 have hsub:(h-l)*sz=h*sz-l*sz:=Nat.sub_mul _ _ _
 have hlen:=k.len
 refine⟨⟨_,rfl,by rw[hC];omega,λhnone=> ?_,λa' ha' hpos=> ?_⟩,?_,?_⟩
 ·rw[hC]
  by_cases e:m=l
  ·omega
  ·rw[if_neg e,Option.map_eq_none_iff]at hnone
   have:=h0 hnone
   omega
 ·have hB:∀a'',(if m=l then Eb v else (Eb v).map (·.add (l*sz)))=some a''→AH (fV sz v l h m)=a''.block∧FG (fV sz v l h m)=a''.off:=λa'' h=>by
   unfold fV
   rw[h]
   exact⟨rfl,rfl⟩
  obtain⟨e1,e2⟩:=hB a' ha'
  rw[e1,e2]
  rw[hC]at hpos
  split at ha'
  ·rw[ha a' ha' (by omega)]
  ·obtain⟨a0,h5,rfl⟩:=an.1 ha'
   rw[ha a0 h5 (by omega),iu]
 ·rw[aa4,abw,hlen]
  omega
 ·intro j u hu
  rw[List.getElem?_take]at hu
  split at hu
  ·rename_i hj
   rw[acO]at hu
   have hc:=k.cell _ u hu
   have hne:¬m=l:=by
    intro e
    have:h-l=0:=by omega
    rw[this,ach]at hj
    omega
   have hn0:Eb v≠none:=λe=>by
    have:=h0 e
    have h9:h-l=0:=by omega
    rw[h9,ach]at hj
    omega
   obtain⟨a0,ha0⟩:=Option.ne_none_iff_exists'.1 hn0
   have hs:fV sz v l h m= .slice (some (a0.add (l*sz))) (h-l) (m-l):=by unfold fV;rw[if_neg hne,ha0];rfl
   rw[hs]
   have hpos:0<jn v:=Nat.pos_of_ne_zero λe=>by
    have h9:h-l=0:=by omega
    rw[h9,ach]at hj
    omega
   rw[ha a0 ha0 hpos,iu]
   show w.cell? ⟨AH v,FG v+l*sz+j,none⟩=some u
   rw[Nat.add_assoc]
   exact hc
  ·cases hu
theorem sv {α:Type} {enc:α→List Value} (he:∀a,(enc a).length=sz):∀(L:List α) (q:Nat),(L.drop q).flatMap enc=(L.flatMap enc).drop (q*sz)
 |[],q=>by simp
 |a::L,0=>by simp
 |a::L,q+1=>by
  rw[List.drop_succ_cons,sv he L q,abv,show (q+1)*sz=(enc a).length+q*sz from by rw[he,abJ];omega,List.drop_length_add_append]
theorem sJ {α:Type} {enc:α→List Value} (he:∀a,(enc a).length=sz):∀(L:List α) (q:Nat),(L.take q).flatMap enc=(L.flatMap enc).take (q*sz)
 |[],q=>by simp
 |a::L,0=>by simp
 |a::L,q+1=>by
  rw[List.take_succ_cons,abv,sJ he L q,abv,show (q+1)*sz=(enc a).length+q*sz from by rw[he,abJ];omega,List.take_length_add_append]
theorem acQ {α:Type} {enc:α→List Value} {L:List α} (he:∀a,(enc a).length=sz) (k:dp enc sz w v L) (h1:l≤h) (h2:h≤L.length) (h3:h≤m) (h4:m≤jn v):dp enc sz w (fV sz v l h m) ((L.drop l).take (h-l)):=by
 have hp:=Sl.part k h1 h2 h3 h4
 unfold dp
 rw[sJ he,sv he,aa4,abw,acF (by omega)]
 exact hp
theorem nt {j k:Int} {kj kk:IntKind} {xj xk:Operand} (hx:dk f x=v) (hs:Sl w sz v n xs) (hT:fl P t=some (e,sz,by_)) (hj:dk f xj= .int kj j) (hk:dk f xk= .int kk k)
  (h1:0≤j) (h2:j≤k) (h3:k≤jn v):
  (execOp (dk f) ⟨d, .slice t x none (some xj) (some xk),ty,ps,af,g⟩).run P w= .ok (.value (fV sz v 0 j.toNat k.toNat)) w:=by
 obtain⟨hv,hn,_,_⟩:=hs.eqv
 unfold fl at hT
 cases hu:P.underlying t with
 |none=>simp[hu]at hT
 |some desc=>
  cases desc<;>simp[hu]at hT
  obtain⟨i',hi',rfl,rfl,rfl⟩:=hT
  unfold fV
  rw[hv]at hx
  generalize Eb v=A at*
  generalize jn v=C at*
  have hC:k≤(C:Int):=h3
  simp[execOp,hx,hj,hk,Instr.sliceAt,Instr.slice,run_underlying hu,Instr.sliceBounds,Instr.sliceBound,asIntOf,sizeOf,typeInfo,hi',show 0≤k from by omega,h1,hC,show j≤max k 0 from by omega]
theorem nD {i:Int} {ki:IntKind} {xi:Operand} (hx:dk f x=v) (hs:Sl w sz v n xs) (hT:fl P t=some (e,sz,by_)) (hi:dk f xi= .int ki i) (h0:0≤i) (h1:i≤n):
  (execOp (dk f) ⟨d, .slice t x (some xi) none none,ty,ps,af,g⟩).run P w= .ok (.value (fV sz v i.toNat n (jn v))) w:=by
 obtain⟨hv,hn,_,_⟩:=hs.eqv
 unfold fl at hT
 cases hu:P.underlying t with
 |none=>simp[hu]at hT
 |some desc=>
  cases desc<;>simp[hu]at hT
  obtain⟨i',hi',rfl,rfl,rfl⟩:=hT
  unfold fV
  rw[hv]at hx
  generalize Eb v=A at*
  generalize jn v=C at*
  simp[execOp,hx,hi,Instr.sliceAt,Instr.slice,run_underlying hu,Instr.sliceBounds,Instr.sliceBound,asIntOf,sizeOf,typeInfo,hi',h0,h1]
theorem B5 {j:Int} {kj:IntKind} {xj:Operand} (hx:dk f x=v) (hs:Sl w sz v n xs) (hT:fl P t=some (e,sz,by_)) (hj:dk f xj= .int kj j) (h0:0≤j) (h1:j≤jn v):
  (execOp (dk f) ⟨d, .slice t x none (some xj) none,ty,ps,af,g⟩).run P w= .ok (.value (fV sz v 0 j.toNat (jn v))) w:=by
 obtain⟨hv,hn,_,_⟩:=hs.eqv
 unfold fl at hT
 cases hu:P.underlying t with
 |none=>simp[hu]at hT
 |some desc=>
  cases desc<;>simp[hu]at hT
  obtain⟨i',hi',rfl,rfl,rfl⟩:=hT
  unfold fV
  rw[hv]at hx
  generalize Eb v=A at*
  generalize jn v=C at*
  have hC:j≤(C:Int):=h1
  simp[execOp,hx,hj,Instr.sliceAt,Instr.slice,run_underlying hu,Instr.sliceBounds,Instr.sliceBound,asIntOf,sizeOf,typeInfo,hi',h0,hC]
theorem kb {v2:Value} (hx:dk f x=v) (hy:dk f y=v2) (hT:fl P t=some (e,sz,by_)) (hz:(dW P e).map (λz=>z.cells.size)=some sz)
  (hs:Sl w sz v n xs) (hfull:jn v=n) (hs2:Sl w sz v2 m ys) (hm0:0<m) (hN:N≤w.heap.size) (hb:(n+m)*by_≤140737488355328) (hm:n+m≤9223372036854775807)
  (hK:∀v' w',dC w w'→w'.ownsRow N e sz v' (n+m) (xs++ys)→K v' w'):Yd P ⟨d, .call ⟨.builtin .append,#[x,y],#[t,t]⟩,ty,ps,af,g⟩ f w K:=by
 obtain⟨z,hz,hzs⟩:=an.1 hz
 unfold dW at hz
 obtain⟨i,hi,hzz⟩:=Do.1 hz
 unfold fl at hT
 cases hun:P.underlying t with
 |none=>simp[hun]at hT
 |some desc=>
  cases desc<;>simp[hun]at hT
  rename_i e'
  obtain⟨i',hi',rfl,rfl,rfl⟩:=hT
  obtain rfl:i'=i:=by rw[hi]at hi';exact(aaY hi').symm
  have hv2:=hs2.eqn hm0
  have hcell2:=hs2.cell
  generalize AH v2=B2 at*
  generalize FG v2=O2 at*
  generalize jn v2=C2 at*
  subst hv2
  have h63:n+m≤maxLen:=by simpa [maxLen] using hm
  have grown:∀(old:Nat),old<n+m→
    (w.drew.alloc (.cells (xs.toArray++ys.toArray++Builtin.zeroCells z.cells (grownCap w (n+m) old e'-(n+m))) e')).ownsRow N e' i'.size
     (.slice (some ⟨w.heap.size,0,none⟩) (n+m) (grownCap w (n+m) old e')) (n+m) (xs++ys)∧
    dC w (w.drew.alloc (.cells (xs.toArray++ys.toArray++Builtin.zeroCells z.cells (grownCap w (n+m) old e'-(n+m))) e')):=by
   intro old ho
   have hlen:(xs++ys).length=(n+m)*i'.size:=by rw[An,hs.len,hs2.len,abJ]
   have hge:=grownCap_ge w (n+m) old e'
   have hcm:grownCap w (n+m) old e'≤maxLen:=grownCap_le_maxLen w (n+m) old e' h63
   refine⟨⟨hlen, .inr ⟨w.heap.size,_,_,rfl,hN,heap_alloc_new w.drew _,hge,hcm,?_,?_⟩⟩,⟨rfl,rfl,rfl,by simp,λk hk=>heap_alloc_old w.drew _ hk⟩⟩
   ·simp only[Array.size_append,List.size_toArray,size_zeroCells,hzs,hs.len,hs2.len,←abJ]
    congr 1
    omega
   ·simp only[Array.toList_append,abm]
    rw[←abm,←hlen]
    exact List.take_left
  have hn2:∀j u,ys[j]? =some u→w.cell? ((⟨B2,O2,none⟩:Addr).add j)=some u:=λj u hu=>by rw[iu];exact hcell2 j u hu
  obtain⟨hv,hn,h0,ha⟩:=hs.eqv
  cases hA:Eb v with
  |none=>
   have h9:=h0 hA
   rw[hfull]at h9
   subst h9
   have hxs:xs=[]:=abk (by simpa using hs.len)
   subst hxs
   have hr:=run_append_nil (P:=P) w t ty e' i' z hun hi hzz ⟨B2,O2,none⟩ m C2 ys hs2.len hn2 hm0 (by omega) (by rw[abP]at hb;omega)
   have hg:=grown 0 (by omega)
   simp only[abP,abG,Array.empty_append]at hg
   rw[hA,hfull]at hv
   refine .val ?_ (hK _ _ hg.2 (by simpa using hg.1))
   simp[execOp,resolve,invoke,builtin,hx,hy,hv,hr]
  |some a0=>
   rw[hA,hfull]at hv
   have hr:=run_append_grow (P:=P) w t ty e' i' z hun hi hzz a0 n n xs hs.len (λj u hu=>by
    have hpos:0<jn v:=Nat.pos_of_ne_zero λe=>by
     have h0:n=0:=hfull.symm.trans e
     have hx0:xs=[]:=abk (by rw[hs.len,h0,ach])
     rw[hx0]at hu
     cases hu
    rw[ha a0 hA hpos,iu];exact hs.cell j u hu) ⟨B2,O2,none⟩ m C2 ys hs2.len hn2 (by omega) (by omega) (growslice_fits (by omega) hb)
   have hg:=grown n (by omega)
   refine .val ?_ (hK _ _ hg.2 hg.1)
   rw[hv]at hx
   simp[execOp,resolve,invoke,builtin,hx,hy,hr]
theorem jf {α:Type} {enc:α→List Value} {b:Nat} {c:Array Value} {a:α} (k:At w b c T) (hc:c.toList=enc a) (hs:c.size=sz) (hN:N≤b):cH enc sz T w N (.slice (some ⟨b,0,none⟩) 1 1) [a]:=
 ⟨by simp[←hc,hs], .inr ⟨b,1,c,rfl,hN,k,am _,by decide,by rw[hs,abd],by
  show c.toList.take (1*sz)=_
  rw[abd,←hs,←acr,aa7,hc];simp⟩⟩
end
section
variable {α β:Type} {enc:α→Value} {encV:β→Value} {w w':World} {b it:Nat} {l:List (α×β)} {seen:List α}
variable {α' β':Type} {enc':α'→Value} {encV':β'→Value} {b' it':Nat} {l':List (α'×β')} {seen':List α'}
variable {γ:Type} {encE:γ→List Value} {sz N:Nat} {T:TypeId} {v:Value} {L:List γ} {a:Nat} {c:Array Value}
theorem At.grownMap (h:At w a c T) (k:dy enc encV w b l) (hG:w.grownBy w' (some b)):At w' a c T:=h.grown hG (λe=>acZ h k (aaY e))
theorem ac7 [DecidableEq α] {k:α} {st:Nat} (h:At w a c T) (m:OQ enc encV w b l k st) (hG:w.grownBy w' (some b)):At w' a c T:=by
 obtain⟨l2,f,cl,_,_,h1,_⟩:=m.out
 exact h.grownMap ⟨f,cl,h1⟩ hG
theorem acY (h:At w a c T) (k:eO enc encV w it b l seen) (hG:w.grownBy w' (some it)):At w' a c T:=h.grown hG (λe=>ade h k (aaY e))
theorem cH.grownMap (h:cH encE sz T w N v L) (k:dy enc encV w b l) (hG:w.grownBy w' (some b)):cH encE sz T w' N v L:=World.ownsRow.kept h hG (.inr (λe=>zW h k e.symm))
theorem adf [DecidableEq α] {k:α} {st:Nat} (h:cH encE sz T w N v L) (m:OQ enc encV w b l k st) (hG:w.grownBy w' (some b)):cH encE sz T w' N v L:=by
 obtain⟨l2,f,cl,_,_,h1,_⟩:=m.out
 exact h.grownMap ⟨f,cl,h1⟩ hG
theorem ac2 (h:cH encE sz T w N v L) (k:eO enc encV w it b l seen) (hG:w.grownBy w' (some it)):cH encE sz T w' N v L:=World.ownsRow.kept h hG (.inr (λe=>Gf h k e.symm))
theorem dy.grownAt (k:dy enc encV w b l) (h:At w a c T) (hG:w.grownBy w' (some a)):dy enc encV w' b l:=k.grown hG (λe=>acZ h k (aaY e).symm)
theorem dy.grownOw (k:dy enc encV w b l) (h:cH encE sz T w N v L) (hG:w.grownBy w' v.ownBlock):dy enc encV w' b l:=k.grown hG (zW h k)
theorem dy.grownNe (k:dy enc encV w b l) (hne:b≠b') (hG:w.grownBy w' (some b')):dy enc encV w' b l:=k.grown hG (λe=>hne (aaY e))
theorem acT (k:dy enc encV w b l) (h:eO enc' encV' w it' b' l' seen') (hG:w.grownBy w' (some it')):dy enc encV w' b l:=k.grown hG (λe=>adl h k (aaY e).symm)
theorem eO.grownAt (k:eO enc encV w it b l seen) (h:At w a c T) (hG:w.grownBy w' (some a)):eO enc encV w' it b l seen:=
 k.grown hG (λe=>acZ h k.map (aaY e).symm) (λe=>ade h k (aaY e).symm)
theorem eO.grownMap (k:eO enc encV w it b l seen) (h:dy enc' encV' w b' l') (hne:b≠b') (hG:w.grownBy w' (some b')):eO enc encV w' it b l seen:=
 k.grown hG (λe=>hne (aaY e)) (λe=>adl k h (aaY e))
theorem adn [DecidableEq α'] {kk:α'} {st:Nat} (k:eO enc encV w it b l seen) (h:OQ enc' encV' w b' l' kk st) (hne:b≠b') (hG:w.grownBy w' (some b')):eO enc encV w' it b l seen:=by
 obtain⟨l2,f,cl,_,_,h1,_⟩:=h.out
 exact k.grownMap ⟨f,cl,h1⟩ hne hG
end
end
section
open Go Go.RowKit
def xx (n:Int):List Value:=[.int .u8 n]
theorem vh (n:Int):(xx n).length=1:=rfl
theorem C3 {l:List Int}:(l.flatMap xx).all Value.oneCell'=true:=ya (λ_=>rfl) l
theorem KE (l:List Int):l.flatMap xx=l.map (Value.int .u8):=by
 induction l with
 |nil=>rfl
 |cons a l ih=>simp[abv,ih,xx]
def dY (l:List UInt8):Value:= .string ⟨l.toArray⟩
theorem ED (a b:List UInt8) (h:dY a=dY b):a=b:=by
 simpa [dY] using h
theorem Em (a c:List UInt8):((⟨a.toArray⟩:ByteArray)==⟨c.toArray⟩)=true↔a=c:=by
 show (a.toArray==c.toArray)=true↔a=c
 simp
def kU (xs:List Int):List UInt8:=xs.map λn=>UInt8.ofNat n.toNat
theorem Ae:∀(ns:List Int) (s:ByteArray),ns.foldl (λr n=>r.push (UInt8.ofNat n.toNat)) s=⟨s.data++(kU ns).toArray⟩
 |[],s=>by simp[kU]
 |n::ns,s=>by
  rw[acG,Ae ns]
  simp[ByteArray.push,kU]
section
variable {P:Program} {f:Nat→Value} {w:World} {d:Option Nat} {ty:TypeId} {ps:String} {af:Array Edge} {g:Option (Nat×Bool)} {x y:Operand} {v:Value}
theorem qq {src dst e:TypeId} {xs:List Int} (hx:dk f x=v) (hs:dp xx 1 w v xs) (h1:P.underlying src=some (.slice e)) (h2:P.underlying e=some (.int .u8)) (h3:P.underlying dst=some .string):
  (execOp (dk f) ⟨d, .convert src dst x,ty,ps,af,g⟩).run P w= .ok (.value (dY (kU xs))) w:=by
 have hsl:Sl w 1 v xs.length (xs.flatMap xx):=hs
 have hc:=hsl.cell
 obtain⟨hv,hn,h0,ha⟩:=hsl.eqv
 cases hA:Eb v with
 |none=>
  have h4:=h0 hA
  have hxs:xs=[]:=abk (by omega)
  rw[hA]at hv
  rw[hv]at hx
  subst hxs
  have hr:=run_convert_bytes_string w src dst e none 0 (jn v) h1 h2 h3
  rw[show Conv.bytesToString (.slice none 0 (jn v))=pure (.string .empty) from rfl]at hr
  have hr2:(convert src dst (.slice none 0 (jn v))).run P w= .ok (.string ⟨#[]⟩) w:=hr
  have hx2:dk f x= .slice none 0 (jn v):=hx
  simp[execOp,hx2,hr2,dY,kU]
 |some a=>
  rw[hA]at hv
  have hl:=_root_.Go.run_loadCells_list (P:=P) w a (xs.map (Value.int .u8)) (λj u hj=>by
   have hj':j<xs.length:=by
    have:=(abX.1 hj).1
    simpa using this
   rw[ha a hA (by omega),iu]
   exact hc j u (by rw[KE];exact hj))
  rw[aby]at hl
  have hr:=run_convert_bytes_string w src dst e (some a) xs.length (jn v) h1 h2 h3
  rw[run_bytesToString w a xs.length (jn v) xs hl,Ae]at hr
  rw[hv]at hx
  simp[execOp,hx,hr,dY]
end
section
variable {w W:World}
theorem Below.ow {α:Type} {enc:α→List Value} {sz:Nat} {T:TypeId} {N:Nat} {v:Value} {l:List α} (h:Go.RowKit.Below w.heap.size w W) (k:cH enc sz T w N v l):cH enc sz T W N v l:=
 World.ownsRow.kept k (row:=none) ⟨h.os,h.tape,h.output,h.size,λj hj _=>h.block j hj⟩ (by cases v.ownBlock<;>simp)
theorem acl {α β:Type} {enc:α→Value} {encV:β→Value} {b:Nat} {l:List (α×β)} (h:Go.RowKit.Below w.heap.size w W) (k:dy enc encV w b l):dy enc encV W b l:=k.moved (h.block b k.lt)
end
end
section
open Go Go.RowKit
def xC (l:List UInt8):List Value:=[dY l]
theorem iN (l:List UInt8):(xC l).length=1:=rfl
theorem Ac (s:ByteArray):Value.string s=dY s.data.toList:=by
 unfold dY
 rw[Array.toArray_toList]
def fZ (l:List UInt8) (i:Nat):Nat:=(l.getD i 0).toNat
theorem uc (l:List UInt8) (i:Nat):fZ l i<256:=UInt8.toNat_lt _
section
variable {P:Program} {f:Nat→Value} {w:World} {d:Option Nat} {ty:TypeId} {ps:String} {af:Array Edge} {g:Option (Nat×Bool)} {x y:Operand} {v:Value} {t t2:TypeId}
theorem gK {a b:List UInt8} (hx:dk f x=dY a) (hy:dk f y=dY b) (hn:a.length+b.length≤9223372036854775807):
  (execOp (dk f) ⟨d, .binOp .add t x y t2,ty,ps,af,g⟩).run P w= .ok (.value (dY (a++b))) w:=by
 have h:=run_string_add_sum (P:=P) w ⟨a.toArray⟩ ⟨b.toArray⟩ (by simpa [ByteArray.size] using hn)
 rw[ByteArray.mk_append_mk]at h
 unfold dY at hx hy ⊢
 simp[execOp,hx,hy,eqGuard,binOp,h]
theorem pV {a b:List UInt8} (hx:dk f x=dY a) (hy:dk f y=dY b):
  (execOp (dk f) ⟨d, .binOp .eql t x y t2,ty,ps,af,g⟩).run P w= .ok (.value (.bool (decide (a=b)))) w:=by
 unfold dY at hx hy
 have e:(a==b)=decide (a=b):=by by_cases h:a=b<;>simp[h]
 simp[execOp,hx,hy,eqGuard,binOp,Op.stringOp,e]
theorem H9 {a b:List UInt8} (hx:dk f x=dY a) (hy:dk f y=dY b):
  (execOp (dk f) ⟨d, .binOp .neq t x y t2,ty,ps,af,g⟩).run P w= .ok (.value (.bool (decide (¬a=b)))) w:=by
 unfold dY at hx hy
 have e:(a==b)=decide (a=b):=by by_cases h:a=b<;>simp[h]
 simp[execOp,hx,hy,eqGuard,binOp,Op.stringOp,bne,e]
theorem mZ {a:List UInt8} (hx:dk f x=dY a) (ht:P.underlying t=some .string):
  (execOp (dk f) ⟨d, .call ⟨.builtin .len,#[x],#[t]⟩,ty,ps,af,g⟩).run P w= .ok (.value (.int .i64 (a.length:Int))) w:=by
 unfold dY at hx
 have h:=run_len_string (P:=P) w t ty ⟨a.toArray⟩ ht
 rw[show (⟨a.toArray⟩:ByteArray).size=a.length from rfl]at h
 simp[execOp,resolve,invoke,builtin,hx,h,goInt]
theorem lF {a:List UInt8} {k:IntKind} {i:Nat} (hx:dk f x=dY a) (hy:dk f y= .int k (i:Int)) (ht:P.underlying t=some .string) (hi:i<a.length):
  (execOp (dk f) ⟨d, .index t x y,ty,ps,af,g⟩).run P w= .ok (.value (.int .u8 ((fZ a i:Nat):Int))) w:=by
 unfold dY at hx
 have hs:(i:Int)<((⟨a.toArray⟩:ByteArray).size:Int):=by simp[ByteArray.size];exact hi
 have h:=run_index_string (P:=P) w t ⟨a.toArray⟩ k (i:Int) ht
 rw[dif_pos ⟨by omega,hs⟩]at h
 have e:((⟨a.toArray⟩:ByteArray)[(i:Int).toNat]'(by simpa [ByteArray.size] using hi)).toNat=fZ a i:=by
  unfold fZ
  rw[me,we hi]
  rfl
 rw[e]at h
 simp[execOp,hx,hy,h]
theorem zu {a:List UInt8} {ki kj:IntKind} {i j:Nat} {xi xj:Operand} (hx:dk f x=dY a) (hi:dk f xi= .int ki (i:Int)) (hj:dk f xj= .int kj (j:Int)) (ht:P.underlying t=some .string) (h1:i≤j) (h2:j≤a.length):
  (execOp (dk f) ⟨d, .slice t x (some xi) (some xj) none,ty,ps,af,g⟩).run P w= .ok (.value (dY ((a.drop i).take (j-i)))) w:=by
 unfold dY at hx
 have h:=run_slice_string (P:=P) w t ⟨a.toArray⟩ ki kj (i:Int) (j:Int) ht (by omega) (by omega) (by simp[ByteArray.size];exact h2)
 rw[so,so,ByteArray.extract_mk]at h
 simp[execOp,hx,hi,hj,run_sliceAt_string w t _ _ _ _ ht,h,dY]
theorem MN {te:TypeId} {p:Value} (hx:dk f x= .iface te p) (ht:P.isIface t=true):
  (execOp (dk f) ⟨d, .binOp .neq t x (.const .nilIface) t2,ty,ps,af,g⟩).run P w= .ok (.value (.bool true)) w:=by
 have h:=run_neq_iface_nil (P:=P) w t ht te p
 have hy:dk f (.const .nilIface)= .nilIface:=rfl
 simp[execOp,hx,hy,eqGuard,h]
theorem LY (hx:dk f x= .nilIface) (ht:P.isIface t=true):
  (execOp (dk f) ⟨d, .binOp .neq t x (.const .nilIface) t2,ty,ps,af,g⟩).run P w= .ok (.value (.bool false)) w:=by
 have h:=run_neq_nil_nil_at (P:=P) w t ht
 have hy:dk f (.const .nilIface)= .nilIface:=rfl
 simp[execOp,hx,hy,eqGuard,h]
end
def qZ (w:World) (b:Nat) (l:List UInt8) (i:Nat):Prop:=w.heap[b]? =some (.stringIter ⟨l.toArray⟩ i)
section
variable {P:Program} {fr:Nat→Value} {w w':World} {d:Option Nat} {ty:TypeId} {ps:String} {af:Array Edge} {g:Option (Nat×Bool)} {x:Operand} {t:TypeId} {K:Value→World→Prop} {l:List UInt8} {it i:Nat}
theorem qZ.lt (h:qZ w it l i):it<w.heap.size:=gQ h
theorem dC.itW (h:dC w w') (k:qZ w it l i):qZ w' it l i:=h.block k
theorem qZ.grown {row:Option Nat} (k:qZ w it l i) (h:w.grownBy w' row) (hne:some it≠row):qZ w' it l i:=by
 have hlt:=k.lt
 unfold qZ at*
 rw[h.block it hlt hne]
 exact k
theorem qZ.neAt {b:Nat} {c:Array Value} {T:TypeId} (k:qZ w it l i) (h:At w b c T):it≠b:=λe=>by
 subst e
 unfold qZ at k
 unfold At at h
 rw[h]at k
 cases k
theorem y8 {N sz n:Nat} {T:TypeId} {v:Value} {xs:List Value} (h:w.ownsRow N T sz v n xs) (k:qZ w it l i):some it≠v.ownBlock:=by
 intro e
 rcases h.2 with ⟨rfl,rfl⟩|⟨g,cap,cur,rfl,hg,hh,_⟩
 ·simp[Value.ownBlock]at e
 ·simp[Value.ownBlock]at e
  exact k.neAt (T:=T) (c:=cur) (b:=g) hh e
theorem ado {α:Type} {enc:α→List Value} {sz N:Nat} {T:TypeId} {v:Value} {L:List α} (h:cH enc sz T w N v L) (k:qZ w it l i) (hG:w.grownBy w' (some it)):cH enc sz T w' N v L:=World.ownsRow.kept h hG (.inr (λe=>y8 h k e.symm))
theorem qZ.grownOw {α:Type} {enc:α→List Value} {sz N:Nat} {T:TypeId} {v:Value} {L:List α} (k:qZ w it l i) (h:cH enc sz T w N v L) (hG:w.grownBy w' v.ownBlock):qZ w' it l i:=k.grown hG (y8 h k)
theorem ac3 {b:Nat} {c:Array Value} {T:TypeId} (h:At w b c T) (k:qZ w it l i) (hG:w.grownBy w' (some it)):At w' b c T:=h.grown hG (λe=>k.neAt h (aaY e).symm)
theorem qZ.grownAt {b:Nat} {c:Array Value} {T:TypeId} (k:qZ w it l i) (h:At w b c T) (hG:w.grownBy w' (some b)):qZ w' it l i:=k.grown hG (λe=>k.neAt h (aaY e))
theorem FU (hx:dk fr x=dY l) (ht:P.underlying t=some .string) (hK:∀it w',it=w.heap.size→dC w w'→qZ w' it l 0→K (.pointer (some ⟨it,0,none⟩)) w'):Yd P ⟨d, .range t x,ty,ps,af,g⟩ fr w K:=by
 unfold dY at hx
 refine .val ?_ (hK w.heap.size (w.iter ⟨l.toArray⟩ 0) rfl (dC.alloc w _) (World.iter_heap w _ 0))
 simp[execOp,hx,run_range_string w t _ ht]
theorem vM (w:World) (b:Nat) (o:Obj):w.grownBy {w with heap:=w.heap.setIfInBounds b o} (some b):=by
 refine⟨rfl,rfl,rfl,by simp,λk _ hne=> ?_⟩
 show (w.heap.setIfInBounds b o)[k]? =_
 rw[ab9]
 intro e
 exact hne A3
theorem IQ (hx:dk fr x= .pointer (some ⟨it,0,none⟩)) (hm:qZ w it l i) (hK0:l.length≤i→K (.tuple #[.bool false]) w)
  (hK:∀(r n:Nat) w',i<l.length→i<n→((fZ l i<128∧r=fZ l i∧n=i+1)∨(128≤fZ l i∧128≤r∧r≤2147483647))→w.grownBy w' (some it)→qZ w' it l n→K (.tuple #[.bool true, .int .i64 (i:Int), .int .i32 (r:Int)]) w'):
  Yd P ⟨d, .next x true,ty,ps,af,g⟩ fr w K:=by
 have hm2:w.heap[it]? =some (.stringIter ⟨l.toArray⟩ i):=hm
 have hsz:(⟨l.toArray⟩:ByteArray).size=l.length:=by simp[ByteArray.size]
 by_cases hi:i<l.length
 ·have hi2:i<(⟨l.toArray⟩:ByteArray).size:=by rw[hsz];exact hi
  have e:((⟨l.toArray⟩:ByteArray)[i]'hi2).toNat=fZ l i:=by
   unfold fZ
   rw[me,we hi]
   rfl
  have hrun:(execOp (dk fr) ⟨d, .next x true,ty,ps,af,g⟩).run P w= .ok (.value (.tuple #[.bool true, .int .i64 i, .int .i32 (Utf8.decode ⟨l.toArray⟩ i).1])) {w with heap:=w.heap.setIfInBounds it (.stringIter ⟨l.toArray⟩ (i+(Utf8.decode ⟨l.toArray⟩ i).2))}:=by
   simp[execOp,hx,Instr.next,getObj,setObj,Sem.run_bind,Sem.run,hm2,Result.andThen,hi2,goInt]
  have hnew:qZ {w with heap:=w.heap.setIfInBounds it (.stringIter ⟨l.toArray⟩ (i+(Utf8.decode ⟨l.toArray⟩ i).2))} it l (i+(Utf8.decode ⟨l.toArray⟩ i).2):=by
   show (w.heap.setIfInBounds it _)[it]? =_
   rw[Array.getElem?_setIfInBounds_self_of_lt hm.lt]
  rcases abO (fZ l i) 128 with h|h
  ·have hd:=decode_ascii ⟨l.toArray⟩ i hi2 (by rw[e];exact h)
   rw[e]at hd
   rw[hd]at hrun hnew
   exact .val hrun (hK _ _ _ hi (acj _) (.inl ⟨h,rfl,rfl⟩) (vM w it _) hnew)
  ·obtain⟨h1,h2⟩:=decode_high ⟨l.toArray⟩ i hi2 (by rw[e];exact h)
   exact .val hrun (hK _ _ _ hi (by omega) (.inr ⟨h,h1,decode_le _ _⟩) (vM w it _) hnew)
 ·refine .val ?_ (hK0 (by omega))
  have hi2:¬i<(⟨l.toArray⟩:ByteArray).size:=by rw[hsz];exact hi
  simp[execOp,hx,Instr.next,getObj,Sem.run_bind,Sem.run,hm2,Result.andThen,hi2]
end
theorem FR {P:Program} {g:Nat} {vs:Array Value} {w:World} {v:Value} (h:Calls P g vs w λe w'=>e= .returned v∧w'=w):Fn P g vs w λx _=>x=v:=
 ⟨Calls.mono h λe w' ⟨h1,h2⟩=>⟨v,h1,by rw[h2];exact dC.refl w,rfl⟩⟩
theorem dC.drewN (w:World) (n:Nat):dC w (w.drewN n):=adj w _
def ZY (g:Nat) (w:World):Prop:=∃m:Int,w.cell? ⟨g,0,none⟩=some (.int .i64 m)
theorem ZY.below {g:Nat} {w W:World} (h:Go.RowKit.Below w.heap.size w W) (k:ZY g w):ZY g W:=by
 obtain⟨m,hm⟩:=k
 exact⟨m,by rw[World.cell?_of_block (h.block g (World.block_lt_of_cell? _ _ hm))];exact hm⟩
end
section
open Go Go.RowKit
def cN:List UInt8→List (List UInt8)
 |[]=>[[]]
 |b::r=>if b=10 then []::cN r else match cN r with
  |[]=>[[b]]
  |h::t=>(b::h)::t
theorem l7:∀s,cN s≠[]
 |[]=>by simp[cN]
 |b::r=>by
  unfold cN
  split
  ·simp
  ·split<;>simp
theorem AZ {b:UInt8} {r:List UInt8} (h:b≠10):Lib.index (b::r) [10]=if Lib.index r [10]= -1 then-1 else Lib.index r [10]+1:=by
 rw[Lib.index]
 have hp:([10]:List UInt8).isPrefixOf (b::r)=false:=by
  simp[List.isPrefixOf,Ne.symm h]
 rw[hp]
 simp only[ack,if_false,beq_iff_eq]
theorem vw:∀s:List UInt8,Lib.splitK [10] 0 (s.count 10) s=cN s
 |[]=>rfl
 |b::r=>by
  have ih:=vw r
  by_cases h:b=10
  ·subst h
   have hp:Lib.index (10::r) [10]=0:=by
    rw[Lib.index]
    simp[List.isPrefixOf]
   rw[List.count_cons_self,Lib.splitK,hp]
   simp only[show ((0:Int)== -1)=false from rfl,ack,if_false]
   rw[cN,if_pos rfl,←ih]
   rfl
  ·rw[List.count_cons_of_ne (by simpa using h),cN,if_neg h,←ih]
   cases hk:r.count 10 with
   |zero=>rfl
   |succ k=>
    rw[Lib.splitK,Lib.splitK,AZ h]
    by_cases hi:Lib.index r [10]= -1
    ·simp[hi]
    ·have hge:=Lib.index_ge r [10]
     obtain⟨i,hi2⟩:=abj (show 0≤Lib.index r [10]by omega)
     rw[hi2]
     have e1:((i:Int)+1).toNat=i+1:=by omega
     have e2:¬((i:Int)+1== -1)=true:=by rw[beq_iff_eq];omega
     have e3:¬((i:Int)== -1)=true:=by rw[beq_iff_eq];omega
     have e4:¬(i:Int)= -1:=by omega
     simp only[if_neg e4,if_neg e2,if_neg e3,e1,so,ab7]
     rfl
theorem xM {α:Type} {enc:α→List Value} {w:World} {T:TypeId} {N b:Nat} {l:List α} (k:w.heap[b]? =some (.cells (l.flatMap enc).toArray T (0,0))) (hN:N≤b) (hs:∀a,(enc a).length=1) (hm:l.length≤maxLen):
  cH enc 1 T w N (.slice (some ⟨b,0,none⟩) l.length l.length) l:=by
 have hl:=mE hs l
 rw[ab4]at hl
 exact⟨by rw[hl,ab4], .inr ⟨b,l.length,_,rfl,hN,k,am _,hm,by simp[hl],by
  show (l.flatMap enc).toArray.toList.take _=_
  rw[ab4,←hl]
  exact aa7⟩⟩
end
section
open Go Go.RowKit
def ir (n:Nat):List UInt8:=if n<10 then [UInt8.ofNat (48+n)]else [UInt8.ofNat (48+n/10),UInt8.ofNat (48+n%10)]
theorem Bx {n:Nat} (h:n<10):Lib.decDigits n=[UInt8.ofNat (48+n)]:=by rw[Lib.decDigits,dif_pos h]
theorem N9 {n:Nat} (h:n<100):Lib.decDigits n=ir n:=by
 unfold ir
 split
 ·rename_i h1;exact Bx h1
 ·rename_i h1
  rw[Lib.decDigits,dif_neg h1,Bx (by omega)]
  rfl
theorem wC {n:Nat} (h:n<100):Lib.itoa (n:Int)=ir n:=by
 unfold Lib.itoa
 rw[if_neg (by omega),so,N9 h]
theorem sC:∀n,n<100→Lib.atoiAll (ir n)= .ok (n:Int):=by decide+kernel
theorem pM (n:Nat):(ir n).length≤2:=by unfold ir;split<;>simp
theorem PI {n:Int} (h:n<0):Lib.itoa n=45::Lib.decDigits n.natAbs:=by unfold Lib.itoa;rw[if_pos h]
theorem NN {n:Nat} (h:100≤n):3≤(Lib.decDigits n).length:=by
 rw[Lib.decDigits,dif_neg (by omega),An]
 have:2≤(Lib.decDigits (n/10)).length:=by
  rw[Lib.decDigits]
  split
  ·omega
  ·rw[An]
   have:Lib.decDigits (n/10/10)≠[]:=by
    rw[Lib.decDigits]
    split<;>simp
   have:=acp.2 this
   simp
   omega
 simp
 omega
theorem Hr {s:List UInt8} {n:Int} (h:Lib.atoiAll s= .ok n): -9223372036854775808≤n∧n≤9223372036854775807:=by
 cases s with
 |nil=>cases h
 |cons c r=>
  simp only[Lib.atoiAll]at h
  split at h
  ·cases h
  ·cases h
  ·rename_i u _
   split at h
   ·cases h
   ·split at h
    ·cases h
    ·split at h<;>injection h with h<;>omega
def xB (line word:List UInt8):Option Nat:=(List.range 100).find? λn=>decide (line=word++32::ir n)
def fG (line word:List UInt8) (lo hi:Int):Int:=
 match xB line word with
 |some n=>if lo≤n∧(n:Int)≤hi then n else-1
 |none=> -1
section
variable {line word:List UInt8} {lo hi n:Int} {k:Nat}
theorem Ma {a b:Nat} (ha:a<100) (hb:b<100) (h:ir a=ir b):a=b:=by
 have h1:=sC a ha
 rw[h,sC b hb]at h1
 injection h1 with h1
 omega
theorem sm (hk:k<100) (h:line=word++32::ir k):xB line word=some k:=by
 unfold xB
 cases hf:(List.range 100).find? λn=>decide (line=word++32::ir n)with
 |none=>
  have:=List.find?_eq_none.1 hf k (aba.2 hk)
  exact absurd (decide_eq_true h) this
 |some j=>
  have h1:=List.find?_some hf
  have h2:=aba.1 (List.mem_of_find?_eq_some hf)
  have h3:line=word++32::ir j:=of_decide_eq_true h1
  rw[h]at h3
  have h4:=List.append_cancel_left h3
  injection h4 with _ h4
  rw[Ma hk h2 h4]
theorem nu (h:∀k,k<100→line≠word++32::ir k):xB line word=none:=by
 unfold xB
 exact List.find?_eq_none.2 λk hk hd=>h k (aba.1 hk) (of_decide_eq_true hd)
theorem FA:xB line word=some k↔k<100∧line=word++32::ir k:=by
 constructor
 ·intro h
  unfold xB at h
  have h1:=List.find?_some h
  exact⟨aba.1 (List.mem_of_find?_eq_some h),of_decide_eq_true h1⟩
 ·rintro⟨h1,h2⟩;exact sm h1 h2
theorem mt {p:List UInt8}:Lib.hasPrefix line p=true↔∃r,line=p++r:=by
 unfold Lib.hasPrefix
 rw[List.isPrefixOf_iff_prefix]
 constructor
 ·rintro⟨r,rfl⟩;exact⟨r,rfl⟩
 ·rintro⟨r,rfl⟩;exact⟨r,rfl⟩
theorem pO {p r:List UInt8}:Lib.trimPrefix (p++r) p=r:=by
 unfold Lib.trimPrefix
 rw[if_pos (mt.2 ⟨r,rfl⟩),List.drop_left]
theorem TE (h:(!Lib.hasPrefix line (word++[32]))=true):Value.int .i64 (-1)= .int .i64 (fG line word lo hi):=by
 unfold fG
 rw[nu λk _ e=> ?_]
 rw[mt.2 ⟨ir k,by rw[e];simp⟩]at h
 cases h
theorem Yj (h:∀n,Lib.atoiAll (Lib.trimPrefix line (word++[32]))≠ .ok n):Value.int .i64 (-1)= .int .i64 (fG line word lo hi):=by
 unfold fG
 rw[nu λk hk e=> ?_]
 have e2:line=(word++[32])++ir k:=by rw[e];simp
 exact h _ (by rw[e2,pO];exact sC k hk)
theorem X9 (h:((Lib.trimPrefix line (word++[32])).length:Int)>2):Value.int .i64 (-1)= .int .i64 (fG line word lo hi):=by
 unfold fG
 rw[nu λk hk e=> ?_]
 have e2:line=(word++[32])++ir k:=by rw[e];simp
 rw[e2,pO]at h
 have:=pM k
 omega
theorem YD (ha:Lib.atoiAll (Lib.trimPrefix line (word++[32]))= .ok n) (h:¬Lib.itoa n=Lib.trimPrefix line (word++[32])):Value.int .i64 (-1)= .int .i64 (fG line word lo hi):=by
 unfold fG
 rw[nu λk hk e=> ?_]
 have e2:line=(word++[32])++ir k:=by rw[e];simp
 rw[e2,pO]at h ha
 rw[sC k hk]at ha
 injection ha with ha
 subst ha
 exact h (wC hk)
theorem Hi (hp:(!Lib.hasPrefix line (word++[32]))=false) (h2:¬((Lib.trimPrefix line (word++[32])).length:Int)>2) (hi:Lib.itoa n=Lib.trimPrefix line (word++[32])):(n<0∧xB line word=none)∨(0≤n∧xB line word=some n.toNat):=by
 have hp2:Lib.hasPrefix line (word++[32])=true:=by cases h:Lib.hasPrefix line (word++[32])<;>simp_all
 obtain⟨r,rfl⟩:=mt.1 hp2
 rw[pO]at h2 hi
 rcases Int.lt_or_le n 0 with h0|h0
 ·refine .inl ⟨h0,nu λk hk e=> ?_⟩
  have e2:word++[32]++r=word++[32]++ir k:=by rw[e];simp
  have e3:=List.append_cancel_left e2
  rw[e3,PI h0]at hi
  have:∀k,k<100→(ir k).head?≠some 45:=by decide+kernel
  exact this k hk (by rw[←hi];rfl)
 ·refine .inr ⟨h0,?_⟩
  obtain⟨k,rfl⟩:=abj h0
  have hk:k<100:=by
   rcases abO k 100 with h|h
   ·exact h
   ·have h3:=NN h
    have e:Lib.itoa (k:Int)=Lib.decDigits k:=by unfold Lib.itoa;rw[if_neg (by omega),so]
    rw[←hi,e]at h2
    omega
  rw[wC hk]at hi
  rw[so]
  exact sm hk (by rw[←hi];simp)
theorem Y3 (h0:0≤lo) (hp:(!Lib.hasPrefix line (word++[32]))=false) (h2:¬((Lib.trimPrefix line (word++[32])).length:Int)>2) (hi':¬¬Lib.itoa n=Lib.trimPrefix line (word++[32])) (h:n<lo):Value.int .i64 (-1)= .int .i64 (fG line word lo hi):=by
 unfold fG
 rcases Hi hp h2 (aaN hi')with ⟨_,e⟩|⟨h3,e⟩<;>rw[e]
 simp only[]
 rw[if_neg (by omega)]
theorem X4 (hp:(!Lib.hasPrefix line (word++[32]))=false) (h2:¬((Lib.trimPrefix line (word++[32])).length:Int)>2) (hi':¬¬Lib.itoa n=Lib.trimPrefix line (word++[32])) (h:n>hi):Value.int .i64 (-1)= .int .i64 (fG line word lo hi):=by
 unfold fG
 rcases Hi hp h2 (aaN hi')with ⟨_,e⟩|⟨h3,e⟩<;>rw[e]
 simp only[]
 rw[if_neg (by omega)]
theorem Yg (h0:0≤lo) (hp:(!Lib.hasPrefix line (word++[32]))=false) (h2:¬((Lib.trimPrefix line (word++[32])).length:Int)>2) (hi':¬¬Lib.itoa n=Lib.trimPrefix line (word++[32])) (h:¬n<lo) (h':¬n>hi):Value.int .i64 n= .int .i64 (fG line word lo hi):=by
 unfold fG
 rcases Hi hp h2 (aaN hi')with ⟨_,e⟩|⟨h3,e⟩
 ·omega
 ·rw[e]
  simp only[]
  rw[if_pos (by omega),Int.toNat_of_nonneg h3]
end
end
section
open Go Go.RowKit
section
variable {P:Program} {f:Nat→Value} {w:World} {d:Option Nat} {ty t t2:TypeId} {ps:String} {af:Array Edge} {g:Option (Nat×Bool)} {x y:Operand} {m n:Nat} {b:Int}
theorem Ye (m:Nat):IntKind.u8.wrap (m:Int)=((m%256:Nat):Int):=by simp[IntKind.wrap,IntKind.signed,IntKind.bits]
theorem JK (hx:dk f x= .int .u8 (m:Int)) (hy:dk f y= .int .u8 b) (hb:b=(n:Int)):
  (execOp (dk f) ⟨d, .binOp .mul t x y t2,ty,ps,af,g⟩).run P w= .ok (.value (.int .u8 ((m*n%256:Nat):Int))) w:=by
 subst hb
 rw[Pl hx hy,←Int.natCast_mul,Ye]
end
theorem DP {k:Nat} (h:k<8):2^k≤128:=by
 have h2:2^k≤2^7:=aa8 (by decide) (by omega)
 simpa using h2
theorem II (x k:Nat):x.testBit k=decide (x/2^k%2=1):=abB
theorem Pj {s t i:Nat} (hi:i<4) (h:∀p,p<256→s.testBit p=t.testBit p):wd s i=wd t i:=by
 refine kS (wR t i) λj hj=> ?_
 rw[jv,h (64*i+j) (by omega)]
 simp[hj]
def lit (m v i:Nat):Int:=if m/2^i%2=0 then 2 else ((v/2^i%2:Nat):Int)
def Ig (m v k:Nat):List Int:=(List.range k).map (lit m v)
abbrev Xd (m v:Nat):List Int:=Ig m v 8
theorem GV (m v k:Nat):(Ig m v k).length=k:=by simp[Ig]
def RP (l:List Int):Prop:=l.length≤8∧∀i,i<l.length→l.getD i 0=0∨l.getD i 0=1∨l.getD i 0=2
def kN (l:List Int):Nat→Nat
 |0=>0
 |k+1=>if l.getD k 0<2 then kN l k+2^k else kN l k
def n7 (l:List Int):Nat→Nat
 |0=>0
 |k+1=>if l.getD k 0<2 then n7 l k+2^k*(l.getD k 0).toNat else n7 l k
theorem Bt (l:List Int):∀k,kN l k<2^k
 |0=>by simp[kN]
 |k+1=>by
  have ih:=Bt l k
  simp only[kN,ab3]
  split<;>omega
theorem Ed (l:List Int):∀k,n7 l k<2^k
 |0=>by simp[n7]
 |k+1=>by
  have ih:=Ed l k
  have hp:0<2^k:=abo k
  simp only[n7,ab3]
  split
  ·rename_i h
   have:(l.getD k 0).toNat≤1:=by omega
   have h2:2^k*(l.getD k 0).toNat≤2^k*1:=Nat.mul_le_mul_left _ this
   omega
  ·omega
theorem EW {v m:Nat}:andNot v m=0↔v &&& m=v:=by
 constructor
 ·intro h
  refine aaz λi=> ?_
  have h2:=congrArg (λx=>x.testBit i) h
  simp only[d4,abx]at h2
  rw[aa3]
  cases hv:v.testBit i<;>simp_all
 ·intro h
  refine aaz λi=> ?_
  have h2:=congrArg (λx=>x.testBit i) h
  simp only[aa3]at h2
  rw[d4,abx]
  cases hv:v.testBit i<;>simp_all
def pa (m v p:Nat):Bool:=decide (p &&& m=v &&& m)
theorem RP.get {l:List Int} (h:RP l) {k:Nat} (hk:k<l.length) (h2:l.getD k 0<2):∃q:Nat,q≤1∧l.getD k 0=(q:Int):=by
 rcases h.2 k hk with e|e|e
 ·exact⟨0,by decide,e⟩
 ·exact⟨1,by decide,e⟩
 ·omega
theorem qr {l:List Int} {k q:Nat} (hq:l.getD k 0=(q:Int)) (h1:q≤1):kN l (k+1)=kN l k+2^k∧n7 l (k+1)=n7 l k+2^k*q:=by
 simp only[kN,n7,hq,so]
 rw[if_pos (by omega),if_pos (by omega)]
 exact⟨rfl,rfl⟩
theorem uj {l:List Int} {k:Nat} (h:¬l.getD k 0<2):kN l (k+1)=kN l k∧n7 l (k+1)=n7 l k:=by
 simp only[kN,n7,if_neg h,and_self]
theorem Cf {m v:Nat} {n:Int} (h:n<0∨8<n):dP m v n=false:=by
 unfold dP
 rcases h with h|h
 ·rw[decide_eq_false (show ¬0≤n by omega)];rfl
 ·rw[decide_eq_false (show ¬n≤8 by omega)];simp
end
section
open Go Go.RowKit
section
variable {P:Program} {f:Nat→Value} {w w':World} {d:Option Nat} {ty:TypeId} {ps:String} {af:Array Edge} {g:Option (Nat×Bool)} {x y:Operand}
variable {t:TypeId} {b o:Nat} {v u:Value} {c nw:Array Value} {T e:TypeId} {K:Value→World→Prop} {n sz by_ N k:Nat} {xs ys:List Value}
theorem iO (hx:dk f x= .pointer (some ⟨b,o,none⟩)) (hy:dk f y= .agg nw) (hT:kf P t=some k) (hk:k=nw.size) (hm:At w b c T) (hs0:o+k≤c.size) (hv0:nw.toList.all Value.oneCell'=true)
  (hK:∀w',w.grownBy w' (some b)→At w' b (c.toList.take o++nw.toList++c.toList.drop (o+nw.toList.length)).toArray T→K undef w'):Yd P ⟨d, .store t x y,ty,ps,af,g⟩ f w K:=by
 subst hk
 have h2:=congrFun (mg hT).2 w
 have hst:=run_storeCells_at P b o T nw.toList 0 c w hm iw (λv h=>aa2.1 hv0 v h)
 rw[ab7]at hst
 refine .skip (w':=w.setRow b (c.toList.take o++nw.toList++c.toList.drop (o+nw.toList.length)).toArray) ?_ (hK _ ⟨rfl,rfl,rfl,by simp,λj _ hj=>setRow_other w b j _ (λe=>hj A3)⟩ (setRow_heap w b c _ T (0,0) hm))
 simp[execOp,hx,hy,Instr.storeAt,Instr.sureAddr,storeVar,h2,Value.cells,hst]
theorem eN {K:(Nat→Value)→World→Prop} {Q:Exit→(Nat→Value)→World→Prop} {F:Nat→Value} {W:World} {id:Nat} (h:Q (.exit id) F W):yx K Q (.exit id) F W:=h
theorem ex {Q:Exit→(Nat→Value)→World→Prop} {F:Nat→Value} {W:World} {id:Nat} (h:Q .normal F W):t8 id Q (.exit id) F W:=by
 simp only[t8,if_true];exact h
theorem HH (off:Nat) (l:List Value):∀(k:Nat) (cs:Array Value),off+k+l.length≤cs.size→
  (l.zipIdx k).foldl (λcs (p:Value×Nat)=>cs.setIfInBounds (off+p.2) p.1) cs=(cs.toList.take (off+k)++l++cs.toList.drop (off+k+l.length)).toArray:=by
 induction l with
 |nil=>intro k cs _;simp
 |cons u r ih=>
  intro k cs h
  simp only[aa5]at h
  rw[List.zipIdx_cons,acG,ih (k+1) _ iw]
  have:=list_seg_step cs.toList (off+k) u r (by simpa using h)
  simp only[Array.toList_setIfInBounds]
  rw[show off+(k+1)=off+k+1 from rfl,this]
  rfl
theorem fS (sz i:Nat) (u:Value) (rest:List (Nat×Value)) (cs:Array Value) (hu:u.cells.size=sz) (hc:i*sz+sz≤cs.size):
  Instr.fill (λi=>some (i*sz,sz)) cs ((i,u)::rest)=Instr.fill (λi=>some (i*sz,sz)) (cs.toList.take (i*sz)++u.cells.toList++cs.toList.drop (i*sz+sz)).toArray rest:=by
 have h:=HH (i*sz) u.cells.toList 0 cs (by simp[hu];omega)
 have hn:¬cs.size<i*sz+sz:=by omega
 simp only[Instr.fill,hu,ne_eq,not_true_eq_false,decide_false,gt_iff_lt,hn,Bool.or_self,ack,if_false]
 rw[←Array.foldl_toList,Array.toList_zipIdx,h]
 simp[hu]
theorem MS (u0 u1:Value) (z:Array Value) (sz:Nat) (hu0:u0.cells.size=sz) (hu1:u1.cells.size=sz) (hz:z.size=2*sz):Instr.fill (λi=>some (i*sz,sz)) z [(0,u0),(1,u1)]=some (u0.cells++u1.cells):=by
 rw[fS sz 0 u0 _ z hu0 (by omega),fS sz 1 u1 _ _ hu1 (by simp[hu0];omega),Instr.fill]
 congr 1
 apply Array.ext'
 simp only[ach,List.take_zero,abG,abP,abd,List.toList_toArray,Array.toList_append]
 have h0:u0.cells.toList.length=sz:=by simp[hu0]
 rw[acK (by omega),aca (by omega),List.drop_eq_nil_of_le (by simp[hu0,hz];omega),abK]
theorem HT {x0 x1:Operand} {u0 u1:Value} (hx0:dk f x0=u0) (hx1:dk f x1=u1) (hT:fl P t=some (e,sz,by_)) (hz:(dW P e).map (λz=>z.cells.size)=some sz) (hu0:u0.cells.size=sz) (hu1:u1.cells.size=sz) (hsz:0<sz) (hsz2:sz≤100)
  (hK:∀b w',b=w.heap.size→dC w w'→At w' b (u0.cells++u1.cells) e→K (.slice (some ⟨b,0,none⟩) 2 2) w'):Yd P ⟨d, .buildSlice t 2 #[(0,x0),(1,x1)],ty,ps,af,g⟩ f w K:=by
 obtain⟨z,hz,hzs⟩:=an.1 hz
 unfold dW at hz
 obtain⟨i,hi,hzz⟩:=Do.1 hz
 unfold fl at hT
 cases hun:P.underlying t with
 |none=>simp[hun]at hT
 |some desc=>
  cases desc<;>simp[hun]at hT
  rename_i e'
  obtain⟨i',hi',rfl,h1,rfl⟩:=hT
  obtain rfl:i'=i:=by rw[hi]at hi';exact(aaY hi').symm
  refine .val (w':=w.alloc (.cells (u0.cells++u1.cells) e')) ?_ (hK w.heap.size _ rfl (dC.alloc w _) (lR w _ _))
  have hbig:¬16777216<2*sz:=by omega
  have hne:¬sz=0:=by omega
  have hf:=MS u0 u1 ((Array.range (2*sz)).map (z.cells[·%z.cells.size]!)) sz hu0 hu1 fD
  simp[execOp,hx0,hx1,Instr.buildSlice,run_underlying hun,sizeOf,typeInfo,hi,h1,zeroValue,hzz,hne,hbig,newRow,hf]
  intro h
  omega
theorem Aj {α:Type} {enc:α→List Value} {b:Nat} {u0 u1:Value} {a0 a1:α} (k:At w b (u0.cells++u1.cells) T) (h0:u0.cells.toList=enc a0) (h1:u1.cells.toList=enc a1) (hs0:u0.cells.size=sz) (hs1:u1.cells.size=sz) (hN:N≤b):cH enc sz T w N (.slice (some ⟨b,0,none⟩) 2 2) [a0,a1]:=
 ⟨by simp[←h0,←h1,hs0,hs1];omega, .inr ⟨b,2,_,rfl,hN,k,am _,by decide,by simp[hs0,hs1];omega,by
  rw[aca (by simp[hs0,hs1];omega)]
  simp[h0,h1]⟩⟩
theorem D2 (hT:fl P t=some (e,sz,by_))
  (hK:∀b w',b=w.heap.size→dC w w'→At w' b #[] e→K (.slice (some ⟨b,0,none⟩) 0 0) w'):Yd P ⟨d, .buildSlice t 0 #[],ty,ps,af,g⟩ f w K:=by
 unfold fl at hT
 cases hun:P.underlying t with
 |none=>simp[hun]at hT
 |some desc=>
  cases desc<;>simp[hun]at hT
  rename_i e'
  obtain⟨i',hi',rfl,h1,rfl⟩:=hT
  refine .val (w':=w.alloc (.cells #[] e')) ?_ (hK w.heap.size _ rfl (dC.alloc w _) (lR w _ _))
  simp[execOp,Instr.buildSlice,run_underlying hun,sizeOf,typeInfo,hi',newRow,Instr.fill]
  have e0:Array.range 0= #[]:=by simp[Array.range]
  rw[e0,List.map_toArray]
  rfl
theorem vq {α:Type} {enc:α→List Value} {b:Nat} (k:At w b #[] T) (hN:N≤b):cH enc sz T w N (.slice (some ⟨b,0,none⟩) 0 0) ([]:List α):=
 ⟨by simp, .inr ⟨b,0,_,rfl,hN,k,am _,my _,by simp,by simp⟩⟩
def ft (v v':Value):Prop:=∀b,v.ownBlock=some b→v'.ownBlock=some b→False
theorem ft.symm {v v':Value} (h:ft v v'):ft v' v:=λb h1 h2=>h b h2 h1
theorem adh {v:Value}:ft (.slice none 0 0) v:=λb h=>by cases h
theorem ft.kept {v v':Value} (h:ft v v'):v'.ownBlock=none∨v'.ownBlock≠v.ownBlock:=by
 cases hv:v'.ownBlock with
 |none=>exact .inl rfl
 |some b=>exact .inr λe=>h b e.symm hv
theorem ft.app {α:Type} {enc:α→List Value} {v v1 v2:Value} {l:List α} (h:ft v v2) (hob:v1.ownBlock=v.ownBlock∨v1.ownBlock=some w.heap.size) (k:cH enc sz T w N v2 l):ft v1 v2:=λb h1 h2=>by
 rcases hob with e|e
 ·exact h b (e▸h1) h2
 ·rw[e]at h1
  cases h1
  have:=(World.ownsRow.lt k _ h2).2
  omega
section
variable {α β:Type} {enc:α→List Value} {aaG:β→List Value} {l:List α} {l':List β} {v':Value} {N' sz':Nat} {T':TypeId}
theorem acL (k:cH enc sz T w N v l):∀j,v.ownBlock=some j→j<w.heap.size:=λj hj=>(World.ownsRow.lt k j hj).2
theorem ft.new {M:Nat} (h:∀j,v.ownBlock=some j→j<M) (k:cH enc sz T w M v' l):ft v v':=λb h1 h2=>by
 have h3:=(World.ownsRow.lt k b h2).1
 have h4:=h b h1
 omega
theorem cH.grownAp (k:cH enc sz T w N v l) (h:ft v' v) (hG:w.grownBy w' v'.ownBlock):cH enc sz T w' N v l:=World.ownsRow.kept k hG h.kept
def T7 {α:Type} (v:Value) (l:List α) (b:Nat):Prop:=l=[]∨AH v≠b
theorem ac4 {b:Nat} (k:dp enc sz w v l) (hb:w.heap.size≤b) (hsz:0<sz:=by decide) (he:∀a,(enc a).length=sz:=by intro a;rfl):T7 v l b:=by
 cases l with
 |nil=>exact .inl rfl
 |cons a r=>
  right
  have h0:∃u,((a::r).flatMap enc)[0]? =some u:=by
   rw[abv]
   have:=he a
   cases hc:enc a with
   |nil=>rw[hc]at this;simp at this;omega
   |cons u q=>exact⟨u,rfl⟩
  obtain⟨u,hu⟩:=h0
  have hc:=Sl.cell k 0 u hu
  have:=World.block_lt_of_cell? w _ hc
  have h2:AH v<w.heap.size:=this
  omega
theorem acS {b:Nat} (k:dp enc sz w v l) (h:T7 v l b) (hG:w.grownBy w' (some b)):dp enc sz w' v l:=by
 refine⟨k.form,k.len,λj u hu=> ?_⟩
 rcases h with rfl|h
 ·simp at hu
 ·have hc:=Sl.cell k j u hu
  have hlt:=World.block_lt_of_cell? w _ hc
  have e:=hG.block (AH v) hlt (λe=>h (aaY e))
  rw[←hc]
  unfold World.cell?
  simp only[e]
theorem dp.one (k:dp enc sz w v l):v.oneCell'=true:=by
 obtain⟨a,h,_⟩:=k.form
 rw[h];rfl
theorem cH.one (k:cH enc sz T w N v l):v.oneCell'=true:=k.sl.one
theorem dp.cells (k:dp enc sz w v l):v.cells= #[v]:=by
 obtain⟨a,h,_⟩:=k.form
 rw[h];rfl
end
theorem jg {m:Nat} {v2:Value} (hx:dk f x=v) (hy:dk f y=v2) (hT:fl P t=some (e,sz,by_)) (hz:(dW P e).map (λz=>z.cells.size)=some sz) (hsz:0<sz)
  (ho:w.ownsRow N e sz v n xs) (hs:Sl w sz v2 m ys) (h10:ys.all Value.oneCell'=true) (hN:N≤w.heap.size) (hb:(n+m)*by_≤140737488355328) (hm:n+m≤9223372036854775807)
  (hK:∀v' w',w.grownBy w' v.ownBlock→w'.ownsRow N e sz v' (n+m) (xs++ys)→(v'.ownBlock=v.ownBlock∨v'.ownBlock=some w.heap.size)→K v' w'):Yd P ⟨d, .call ⟨.builtin .append,#[x,y],#[t,t]⟩,ty,ps,af,g⟩ f w K:=by
 have h1:∀u∈ys,u.oneCell'=true:=λu h=>aa2.1 h10 u h
 obtain⟨z,hz,hzs⟩:=an.1 hz
 unfold dW at hz
 obtain⟨i,hi,hzz⟩:=Do.1 hz
 unfold fl at hT
 cases hun:P.underlying t with
 |none=>simp[hun]at hT
 |some desc=>
  cases desc<;>simp[hun]at hT
  rename_i e'
  obtain⟨i',hi',rfl,h3,rfl⟩:=hT
  obtain rfl:i'=i:=by rw[hi]at hi';exact(aaY hi').symm
  by_cases hm0:m=0
  ·subst hm0
   have hys:ys=[]:=abk (by simpa using hs.len)
   subst hys
   have hrun:(Builtin.append_ #[t,t] ty #[v,v2]).run P w= .ok v w:=by
    obtain⟨a2,hv2,_⟩:=hs.form
    generalize jn v2=c2 at hv2
    subst hv2
    rcases ho.2 with ⟨rfl,rfl⟩|⟨q,cap,cur,rfl,hg,hh,hnc,hcm,hcs,ht⟩
    ·simp[Builtin.append_,run_underlying hun,sizeOf,typeInfo,hi,Builtin.lenOf,Builtin.firstCells]
     cases a2<;>simp[loadCells,loadCellsFrom]
    ·cases a2<;>simp[Builtin.append_,run_underlying hun,sizeOf,typeInfo,hi,Builtin.lenOf,Builtin.firstCells,loadCells,loadCellsFrom,hnc,storeCells]
   refine .val (v:=v) (w':=w) ?_ (hK v w (World.grownBy.refl w _) (by simpa using ho) (.inl rfl))
   simp[execOp,resolve,invoke,builtin,hx,hy,hrun]
  ·have hv2:=hs.eqn (by omega)
   have hcell:=hs.cell
   generalize AH v2=B at*
   generalize FG v2=O at*
   generalize jn v2=C at*
   subst hv2
   obtain⟨v',w',hr,h4,h5,_,h6⟩:=run_append_own_at (P:=P) (w:=w) N t ty e' i' z sz i'.bytes hun hi hzz h3 rfl hzs hsz v n xs ho ⟨B,O,none⟩ m C ys hs.len
    (λj u hu=>by rw[iu];exact hcell j u hu) h1 (by simpa [maxLen] using hm) hb hN
   refine .val (v:=v') (w':=w') ?_ (hK v' w' h5 h4 h6)
   simp[execOp,resolve,invoke,builtin,hx,hy,hr]
end
structure xF (r1 r2:Option Nat) (w w':World):Prop where
 os:w'.os=w.os
 tape:w'.tape=w.tape
 output:w'.output=w.output
 size:w.heap.size≤w'.heap.size
 block:∀k,k<w.heap.size→some k≠r1→some k≠r2→w'.heap[k]? =w.heap[k]?
section
variable {r1 r2:Option Nat} {a w w':World}
theorem xF.refl:xF r1 r2 w w:=⟨rfl,rfl,rfl,am _,λ_ _ _ _=>rfl⟩
theorem xF.ext (h:xF r1 r2 a w) (k:dC w w'):xF r1 r2 a w':=
 ⟨(Below.os k).trans h.os,(Below.tape k).trans h.tape,(Below.output k).trans h.output,go h.size (Below.size k),λj hj q1 q2=>(Below.block k j (abe hj h.size)).trans (h.block j hj q1 q2)⟩
theorem xF.one (h:xF r1 r2 a w) (k:w.grownBy w' r1):xF r1 r2 a w':=
 ⟨k.os.trans h.os,k.tape.trans h.tape,k.output.trans h.output,go h.size k.size,λj hj q1 q2=>(k.block j (abe hj h.size) q1).trans (h.block j hj q1 q2)⟩
theorem xF.two (h:xF r1 r2 a w) (k:w.grownBy w' r2):xF r1 r2 a w':=
 ⟨k.os.trans h.os,k.tape.trans h.tape,k.output.trans h.output,go h.size k.size,λj hj q1 q2=>(k.block j (abe hj h.size) q2).trans (h.block j hj q1 q2)⟩
theorem adb {b:Nat} {c:Array Value} {T:TypeId} (k:At w b c T) (h:xF r1 r2 w w') (n1:some b≠r1) (n2:some b≠r2):At w' b c T:=by
 unfold At at*
 rw[h.block b (gQ k) n1 n2]
 exact k
theorem Ck {N:Nat} (h:Go.RowKit.Below N a w) (k:xF r1 r2 w w') (hN:N≤a.heap.size) (h1:∀j,r1=some j→N≤j) (h2:∀j,r2=some j→N≤j):Go.RowKit.Below N a w':=
 ⟨k.os.trans h.os,k.tape.trans h.tape,k.output.trans h.output,go h.size k.size,λj hj=>(k.block j (by have:=h.size;omega) (λe=>by have:=h1 j e.symm;omega) (λe=>by have:=h2 j e.symm;omega)).trans (h.block j hj)⟩
end
end
end Go.Proofs.YtedeonkjellcpaaGreatDoor
