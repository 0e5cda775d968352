/- Words and walks of the row. No condition. -/
import Derived.Test.YtedeonkjellcpaaGreatDoorMore
import Derived.Maps.RangeRun
import Derived.MapKept
import Derived.Laws.Strings2
import Derived.Laws.Strings3
import Derived.Laws.Concat
import Derived.Laws.BytesString
import Derived.Laws.RangeAny
import Derived.Deep.Draws
import Derived.Stop.IfaceNil
import Derived.Lib.Split
import Derived.Lib.SplitLaws
import Derived.Lib.IndexMore
import Derived.Lib.ItoaNum
import Derived.Lib.AtoiAllCases
import Derived.Lib.ConvBytes
import Derived.WalkSmall
import Derived.Lib.Strings
import Derived.Maps.AppendAt
import Derived.LaidMore
import Derived.Lay
import Derived.SizedLaws
import Derived.MakeChecks
import Derived.Stop.LaidErr
import Derived.Lib.LaidTab
import Derived.Shelf.Vars
import Derived.Stop.Joined
namespace Go.Proofs.YtedeonkjellcpaaGreatDoor
open Go Go.RowKit
set_option autoImplicit true
set_option relaxedAutoImplicit true
set_option linter.unusedVariables false
set_option linter.unusedSimpArgs false
section
open Go.ChangeMaps (setBlock)
section
variable {α β:Type} [DecidableEq α]
def iN:List (α×β)→α→Option β
 |[],_=>none
 |(a,b)::r,k=>if a=k then some b else iN r k
def iM (l:List (α×β)) (k:α) (v:β):List (α×β):=if k∈l.map (·.1)then l.map (λp=>if p.1=k then (k,v)else p)else l++[(k,v)]
def jm (l:List α) (k:α):List α:=if k∈l then l else l++[k]
def fC (l:List α):List (α×Bool):=l.map λa=>(a,true)
theorem pV {l:List (α×β)} {k:α}:iN l k=none↔k∉l.map (·.1):=by
 induction l with
 |nil=>simp[iN]
 |cons p r ih=>
  obtain⟨a,b⟩:=p
  simp only[iN,ac0,ab9,not_or]
  by_cases e:a=k
  ·subst e;simp
  ·simp only[if_neg e,ih]
   exact⟨λh=>⟨λh2=>e h2.symm,h⟩,λh=>h.2⟩
theorem nP {l:List (α×β)} {k:α} {v:β} (hn:(l.map (·.1)).Nodup):iN l k=some v↔(k,v)∈l:=by
 induction l with
 |nil=>simp[iN]
 |cons p r ih=>
  obtain⟨a,b⟩:=p
  rw[ac0,List.nodup_cons]at hn
  simp only[iN,ab9,Prod.mk.injEq]
  by_cases e:a=k
  ·subst e
   simp only[if_true,Option.some.injEq,true_and]
   constructor
   ·intro h;exact .inl h.symm
   ·rintro(h|h)
    ·exact h.symm
    ·exact absurd (ac6 (f:=(·.1)) h) hn.1
  ·rw[if_neg e,ih hn.2]
   constructor
   ·intro h;exact .inr h
   ·rintro(⟨h,_⟩|h)
    ·exact absurd h.symm e
    ·exact h
theorem lh (l:List (α×β)) (k:α) (v:β):(iM l k v).map (·.1)=jm (l.map (·.1)) k:=by
 unfold iM jm
 split
 ·rw[List.map_map]
  refine adu λp _=> ?_
  simp only[Function.comp]
  split
  ·rename_i h;exact h.symm
  ·rfl
 ·simp
theorem CM {α:Type} (l:List α):(fC l).map (·.1)=l:=by
 unfold fC
 rw[List.map_map]
 exact List.map_id l
theorem Ck {γ:Type} {l:List γ} (hn:l.Nodup) {i j:Nat} {a:γ} (hi:l[i]? =some a) (hj:l[j]? =some a):i=j:=by
 grind [List.pairwise_iff_getElem,List.getElem?_eq_some_iff,Nat.lt_trichotomy]
theorem kb (l:List α) (k:α):iM (fC l) k true=fC (jm l k):=by
 unfold iM jm
 rw[CM]
 split
 ·unfold fC
  rw[List.map_map]
  refine adu λa _=> ?_
  simp only[Function.comp]
  split
  ·rename_i h;rw[h]
  ·rfl
 ·simp[fC]
theorem mU (l:List α) (k:α):(iN (fC l) k).getD false=decide (k∈l):=by
 induction l with
 |nil=>rfl
 |cons a r ih=>
  unfold fC at*
  simp only[ac0,iN,ab9]
  by_cases e:a=k
  ·subst e;simp
  ·rw[if_neg e,ih,acb]
   simp only[decide_eq_true_eq]
   exact⟨λh=> .inr h,λh=>h.resolve_left (λh2=>e h2.symm)⟩
theorem gy {l:List α} {k a:α}:a∈jm l k↔a∈l∨a=k:=by
 grind [jm]
theorem ka (h:l.Nodup) (k:α):(jm l k).Nodup:=by
 grind [jm,List.nodup_append]
theorem si (l:List α) (k:α):(jm l k).length≤l.length+1:=by
 grind [jm]
end
structure qV (P:Program) (k:TypeId) (S:Value→Prop):Prop where
 check:∀(w:World) (em:Bool) {v:Value},S v→(Instr.checkKey em 10000 k v).run P w= .ok () w
 find:∀(w:World) {x:Value},S x→∀es:List MapEntry,(∀e∈es,S e.key)→
  ((Instr.findKey k x es).run P w= .ok none w∧∀e∈es,e.key≠x)∨∃j e,(Instr.findKey k x es).run P w= .ok (some (j,e.val)) w∧es[j]? =some e∧e.key=x
 stays:∀(w:World) {v:Value},S v→(Instr.keyThatStays v v).run P w= .ok v w
theorem qY {P:Program} {k:TypeId} {S:Value→Prop} (hE:∀(w:World) {a b:Value},S a→S b→∃r,(Op.equal k a b).run P w= .ok r w∧(r=true↔a=b)) (w:World) {x:Value} (hx:S x):
  ∀(es:List MapEntry) (i:Nat),(∀e∈es,S e.key)→
  ((Instr.findAsking k x es i).run P w= .ok none w∧∀e∈es,e.key≠x)∨∃j e,(Instr.findAsking k x es i).run P w= .ok (some (i+j,e.val)) w∧es[j]? =some e∧e.key=x
 |[],i,_=> .inl ⟨by simp[Instr.findAsking],by simp⟩
 |e::es,i,h=>by
  obtain⟨r,h1,h2⟩:=hE w hx (h e fF)
  cases r with
  |true=>
   refine .inr ⟨0,e,?_,rfl,(h2.1 rfl).symm⟩
   simp[Instr.findAsking,h1]
  |false=>
   have hne:e.key≠x:=λh=>by have:=h2.2 h.symm;cases this
   rcases qY hE w hx es (i+1) (λe he=>h e (by simp[he]))with ⟨g1,g2⟩|⟨j,e',g1,g2,g3⟩
   ·refine .inl ⟨?_,λe' he'=> ?_⟩
    ·simp[Instr.findAsking,h1,g1]
    ·rcases ab9.1 he' with rfl|he'
     ·exact hne
     ·exact g2 e' he'
   ·refine .inr ⟨j+1,e',?_,by simpa using g2,g3⟩
    simp[Instr.findAsking,h1,g1]
    omega
theorem t8 {desc:TypeDesc} {S:Value→Prop} (hN:∀a b,S a→S b→Instr.sameNow desc a b=none∨∃r,Instr.sameNow desc a b=some r∧(r=true↔a=b)) {x:Value} (hx:S x):
  ∀(es:List MapEntry) (i:Nat),(∀e∈es,S e.key)→Instr.findNow desc x es i=none∨(Instr.findNow desc x es i=some none∧∀e∈es,e.key≠x)∨∃j e,Instr.findNow desc x es i=some (some (i+j,e.val))∧es[j]? =some e∧e.key=x
 |[],i,_=> .inr (.inl ⟨rfl,by simp⟩)
 |e::es,i,h=>by
  rcases hN x e.key hx (h e fF)with h1|⟨r,h1,h2⟩
  ·left;simp[Instr.findNow,h1]
  ·cases r with
   |true=>exact .inr (.inr ⟨0,e,by simp[Instr.findNow,h1],rfl,(h2.1 rfl).symm⟩)
   |false=>
    have hne:e.key≠x:=λh=>by have:=h2.2 h.symm;cases this
    rcases t8 hN hx es (i+1) (λe he=>h e (by simp[he]))with g|⟨g1,g2⟩|⟨j,e',g1,g2,g3⟩
    ·left;simp[Instr.findNow,h1,g]
    ·refine .inr (.inl ⟨by simp[Instr.findNow,h1,g1],λe' he'=> ?_⟩)
     rcases ab9.1 he' with rfl|he'
     ·exact hne
     ·exact g2 e' he'
    ·refine .inr (.inr ⟨j+1,e',?_,by simpa using g2,g3⟩)
     simp[Instr.findNow,h1,g1]
     omega
theorem pD {P:Program} {k:TypeId} {desc:TypeDesc} {S:Value→Prop} (hu:P.underlying k=some desc)
  (hE:∀(w:World) {a b:Value},S a→S b→∃r,(Op.equal k a b).run P w= .ok r w∧(r=true↔a=b))
  (hN:∀a b,S a→S b→Instr.sameNow desc a b=none∨∃r,Instr.sameNow desc a b=some r∧(r=true↔a=b))
  (hC:∀(w:World) (em:Bool) {v:Value},S v→(Instr.checkKey em 10000 k v).run P w= .ok () w)
  (hS:∀v,S v→Instr.sameBits 10000 v v=true):qV P k S:=by
 refine⟨hC,λw x hx es hes=> ?_,λw v hv=>by simp[Instr.keyThatStays,hS v hv]⟩
 rcases t8 hN hx es 0 hes with g|⟨g1,g2⟩|⟨j,e',g1,g2,g3⟩
 ·rcases qY hE w hx es 0 hes with ⟨h1,h2⟩|⟨j,e,h1,h2,h3⟩
  ·exact .inl ⟨by simp[Instr.findKey,run_underlying hu,g,h1],h2⟩
  ·exact .inr ⟨j,e,by simpa [Instr.findKey,run_underlying hu,g] using h1,h2,h3⟩
 ·exact .inl ⟨by simp[Instr.findKey,run_underlying hu,g1],g2⟩
 ·exact .inr ⟨j,e',by simp[Instr.findKey,run_underlying hu,g1],g2,g3⟩
def kQ {α β:Type} (enc:α→Value) (encV:β→Value) (f:α→Nat) (l:List (α×β)):List MapEntry:=l.map λp=>⟨enc p.1,encV p.2,f p.1⟩
structure vq {α β:Type} (enc:α→Value) (encV:β→Value) (w:World) (b:Nat) (l:List (α×β)) (f:α→Nat) (clock:Nat):Prop where
 heap:w.heap[b]? =some (.map (kQ enc encV f l).toArray clock)
 born:∀p∈l,f p.1<clock
 inj:∀p∈l,∀q∈l,f p.1=f q.1→p.1=q.1
 nodup:(l.map (·.1)).Nodup
def dy {α β:Type} (enc:α→Value) (encV:β→Value) (w:World) (b:Nat) (l:List (α×β)):Prop:=∃f clock,vq enc encV w b l f clock
structure eT {α β:Type} (enc:α→Value) (encV:β→Value) (w:World) (it b:Nat) (l:List (α×β)) (seen:List α):Prop where
 out:∃f clock since c0 sn,vq enc encV w b l f clock∧w.heap[it]? =some (.mapIter (some b) since sn c0)∧since≤c0∧since≤clock∧(∀p∈l,f p.1<since)∧sn.toList=(seen.map f).reverse∧(seen=[]∨c0=clock)
 sub:∀k∈seen,k∈l.map (·.1)
 nodup:seen.Nodup
section
variable {α β:Type} {enc:α→Value} {encV:β→Value} {w w':World} {b it:Nat} {l:List (α×β)} {f:α→Nat} {clock:Nat} {seen:List α}
theorem vq.lt (h:vq enc encV w b l f clock):b<w.heap.size:=gX h.heap
theorem dy.lt (h:dy enc encV w b l):b<w.heap.size:=by obtain⟨f,c,h⟩:=h;exact h.lt
theorem vq.moved (h:vq enc encV w b l f clock) (e:w'.heap[b]? =w.heap[b]?):vq enc encV w' b l f clock:=⟨by rw[e];exact h.heap,h.born,h.inj,h.nodup⟩
theorem dy.moved (h:dy enc encV w b l) (e:w'.heap[b]? =w.heap[b]?):dy enc encV w' b l:=by
 obtain⟨f,c,h⟩:=h;exact⟨f,c,h.moved e⟩
theorem dA.mapT (h:dA w w') (k:dy enc encV w b l):dy enc encV w' b l:=k.moved (Below.block h b k.lt)
instance {w w':World}:Kp w w' (dy enc encV w b l) (dy enc encV w' b l):=⟨dA.mapT⟩
theorem dy.grown {row:Option Nat} (k:dy enc encV w b l) (h:w.grownBy w' row) (hne:some b≠row):dy enc encV w' b l:=k.moved (h.block b k.lt hne)
theorem eT.map (h:eT enc encV w it b l seen):dy enc encV w b l:=by
 obtain⟨f,c,_,_,_,h,_⟩:=h.out;exact⟨f,c,h⟩
theorem eT.lt (h:eT enc encV w it b l seen):it<w.heap.size:=by
 obtain⟨_,_,_,_,_,_,h,_⟩:=h.out;exact gX h
theorem eT.ltB (h:eT enc encV w it b l seen):b<w.heap.size:=h.map.lt
theorem eT.moved (h:eT enc encV w it b l seen) (e:w'.heap[b]? =w.heap[b]?) (e2:w'.heap[it]? =w.heap[it]?):eT enc encV w' it b l seen:=by
 obtain⟨f,c,s,c0,sn,h1,h2,r⟩:=h.out
 exact⟨⟨f,c,s,c0,sn,h1.moved e,by rw[e2];exact h2,r⟩,h.sub,h.nodup⟩
theorem dA.iterT (h:dA w w') (k:eT enc encV w it b l seen):eT enc encV w' it b l seen:=k.moved (Below.block h b k.ltB) (Below.block h it k.lt)
theorem eT.grown {row:Option Nat} (k:eT enc encV w it b l seen) (h:w.grownBy w' row) (hne:some b≠row) (hne2:some it≠row):eT enc encV w' it b l seen:=
 k.moved (h.block b k.ltB hne) (h.block it k.lt hne2)
theorem eT.ne (h:eT enc encV w it b l seen):it≠b:=by
 obtain⟨f,c,s,c0,sn,h1,h2,_⟩:=h.out
 rintro rfl
 rw[h1.heap]at h2
 cases h2
theorem adH (h:At w a c T) (k:dy enc encV w b l):a≠b:=by
 rintro rfl
 obtain⟨f,c,k⟩:=k
 unfold At at h
 rw[k.heap]at h
 cases h
theorem adW (h:At w a c T) (k:eT enc encV w it b l seen):a≠it:=by
 rintro rfl
 obtain⟨_,_,_,_,_,_,h2,_⟩:=k.out
 grind [At]
theorem AF {xs:List Value} (h:w.ownsRow N T sz v n xs) (k:dy enc encV w b l):some b≠v.ownBlock:=by
 intro e
 rcases h.2 with ⟨rfl,rfl⟩|⟨g,cap,cur,rfl,hg,hh,_⟩
 ·simp[Value.ownBlock]at e
 ·simp[Value.ownBlock]at e
  exact adH (T:=T) (c:=cur) (a:=g) hh k e.symm
theorem FM {xs:List Value} (h:w.ownsRow N T sz v n xs) (k:eT enc encV w it b l seen):some it≠v.ownBlock:=by
 intro e
 rcases h.2 with ⟨rfl,rfl⟩|⟨g,cap,cur,rfl,hg,hh,_⟩
 ·simp[Value.ownBlock]at e
 ·simp[Value.ownBlock]at e
  exact adW (T:=T) (c:=cur) (a:=g) hh k e.symm
theorem ad3 {β':Type} {α':Type} {enc':α'→Value} {encV':β'→Value} {l':List (α'×β')} {b':Nat} (h:eT enc encV w it b l seen) (k:dy enc' encV' w b' l'):it≠b':=by
 rintro rfl
 obtain⟨_,_,_,_,_,_,h2,_⟩:=h.out
 obtain⟨f,c,k⟩:=k
 rw[k.heap]at h2
 cases h2
theorem jg (w:World) (b:Nat):w.grownBy (setBlock w b o) (some b):=
 ⟨rfl,rfl,rfl,by simp[setBlock],λi _ hi=>by
  show (w.heap.setIfInBounds b o)[i]? =w.heap[i]?
  rw[adh (λe=>hi DG)]⟩
theorem kO (h:b<w.heap.size):(setBlock w b o).heap[b]? =some o:=by
 show (w.heap.setIfInBounds b o)[b]? =_
 simp[h]
end
section
variable {α β:Type} [DecidableEq α] {enc:α→Value} {encV:β→Value} {S:Value→Prop}
variable {P:Program} {fr:Nat→Value} {w w':World} {d:Option Nat} {ty:TypeId} {ps:String} {af:Array Edge} {g:Option (Nat×Bool)} {x y z:Operand}
variable {t kt et:TypeId} {b it:Nat} {l:List (α×β)} {K:Value→World→Prop} {k:α} {v:β}
theorem rx {α β:Type} {enc:α→Value} {encV:β→Value} {l:List (α×β)} {f:α→Nat} {j:Nat}:(kQ enc encV f l)[j]? =(l[j]?).map λp=>⟨enc p.1,encV p.2,f p.1⟩:=by simp[kQ]
theorem iY (h:na P t=some (kt,et)):P.underlying t=some (.map kt et):=by
 unfold na at h
 grind
theorem vL (KO:qV P kt S) (hS:∀a,S (enc a)) (hi:∀a a',enc a=enc a'→a=a') {f:α→Nat} (hn:(l.map (·.1)).Nodup) (w:World) (k:α):
  ((Instr.findKey kt (enc k) (kQ enc encV f l)).run P w= .ok none w∧k∉l.map (·.1))∨∃j v,(Instr.findKey kt (enc k) (kQ enc encV f l)).run P w= .ok (some (j,encV v)) w∧l[j]? =some (k,v)∧iN l k=some v:=by
 rcases KO.find w (hS k) (kQ enc encV f l) (λe he=>by simp[kQ]at he;obtain⟨a,_,_,rfl⟩:=he;exact hS _)with ⟨h1,h2⟩|⟨j,e,h1,h2,h3⟩
 ·refine .inl ⟨h1,λhk=> ?_⟩
  obtain⟨p,hp,rfl⟩:=abS.1 hk
  exact h2 ⟨enc p.1,encV p.2,f p.1⟩ (abS.2 ⟨p,hp,rfl⟩) rfl
 all_goals grind [rx,Option.map_eq_some_iff,nP,List.mem_of_getElem?]
theorem hU {α β:Type} {enc:α→Value} {encV:β→Value} (hK:∀b w',b=w.heap.size→dA w w'→dy enc encV w' b ([]:List (α×β))→K (.map (some b)) w'):Yd P ⟨d, .makeMap t none,ty,ps,af,g⟩ fr w K:=by
 refine .val (w':=w.alloc (.map #[] 0)) ?_ (hK w.heap.size _ rfl (dA.alloc w _) ⟨λ_=>0,0,⟨heap_alloc_new w _,by simp,by simp,by simp⟩⟩)
 simp[execOp,Instr.makeMap,newObj,Sem.run]
theorem fX {z0:Value} {v0:β} (hx:dm fr x= .map (some b)) (hy:dm fr y=enc k) (hT:na P t=some (kt,et)) (KO:qV P kt S) (hS:∀a,S (enc a)) (hi:∀a a',enc a=enc a'→a=a')
  (hz:d4 P et=some z0) (hz0:z0=encV v0) (hm:dy enc encV w b l):
  (execOp (dm fr) ⟨d, .lookup t x y false,ty,ps,af,g⟩).run P w= .ok (.value (encV ((iN l k).getD v0))) w:=by
 subst hz0
 obtain⟨f,clock,hm⟩:=hm
 unfold d4 at hz
 obtain⟨i,hi2,hzz⟩:=we.1 hz
 rcases vL (P:=P) (kt:=kt) (encV:=encV) KO hS hi (f:=f) hm.nodup w k with ⟨h1,h2⟩|⟨j,v,h1,h2,h3⟩
 ·rw[pV.2 h2]
  simp[execOp,hx,hy,Instr.lookup,run_underlying (iY hT),getObj,Sem.run,hm.heap,Result.andThen,KO.check w _ (hS k),h1,zeroValue,typeInfo,hi2,hzz]
 ·rw[h3]
  simp[execOp,hx,hy,Instr.lookup,run_underlying (iY hT),getObj,Sem.run,hm.heap,Result.andThen,KO.check w _ (hS k),h1]
theorem PH {α β:Type} {enc:α→Value} {encV:β→Value} {l:List (α×β)} (hx:dm fr x= .map (some b)) (hT:na P t=some (kt,et)) (hm:dy enc encV w b l):
  (execOp (dm fr) ⟨d, .call ⟨.builtin .len,#[x],#[t]⟩,ty,ps,af,g⟩).run P w= .ok (.value (.int .i64 (l.length:Int))) w:=by
 obtain⟨f,clock,hm⟩:=hm
 simp[execOp,resolve,invoke,builtin,hx,Builtin.len_,run_underlying (iY hT),getObj,Sem.run,hm.heap,goInt,Result.andThen,kQ]
theorem Ea (hk:k∉l.map (·.1)):(kQ enc encV f l).toArray.push ⟨enc k,encV v,clock⟩=(kQ enc encV (λa=>if a=k then clock else f a) (iM l k v)).toArray:=by
 have e1:∀p∈l,p.1≠k:=λp hp e=>hk (e▸ac6 (f:=(·.1)) hp)
 unfold iM
 rw[if_neg hk]
 unfold kQ
 grind
theorem Dv {f:α→Nat} {j:Nat} {v0:β} (hj:l[j]? =some (k,v0)) (hn:(l.map (·.1)).Nodup) (F:MapEntry→MapEntry) (hF:F ⟨enc k,encV v0,f k⟩=⟨enc k,encV v,f k⟩):
  (kQ enc encV f l).toArray.modify j F=(kQ enc encV f (iM l k v)).toArray:=by
 have hk:k∈l.map (·.1):=abS.2 ⟨_,List.mem_of_getElem? hj,rfl⟩
 unfold iM
 rw[if_pos hk]
 apply Array.ext'
 rw[Array.toList_modify]
 refine List.ext_getElem? λi=> ?_
 rw[List.getElem?_modify]
 simp only[rx,List.getElem?_map]
 by_cases e:j=i
 ·subst e
  simp[hj,hF]
 ·simp only[e,if_false]
  cases hi:l[i]? with
  |none=>simp
  |some p=>
   have hne:p.1≠k:=λhpk=>by
    have h1:(l.map (·.1))[i]? =some k:=by rw[List.getElem?_map,hi];simp[hpk]
    have h2:(l.map (·.1))[j]? =some k:=by rw[List.getElem?_map,hj];rfl
    exact e (Ck hn h2 h1)
   simp[hne]
theorem vq.put_new (hm:vq enc encV w b l f clock) (hk:k∉l.map (·.1)) (v:β):
  vq enc encV (setBlock w b (.map ((kQ enc encV f l).toArray.push ⟨enc k,encV v,clock⟩) (clock+1))) b (iM l k v) (λa=>if a=k then clock else f a) (clock+1):=by
 have e1:∀p∈l,p.1≠k:=λp hp e=>hk (e▸ac6 (f:=(·.1)) hp)
 have hmem:∀p∈iM l k v,p∈l∨p=(k,v):=λp hp=>by
  unfold iM at hp
  rw[if_neg hk]at hp
  simpa using hp
 have hb2:∀p∈iM l k v,(p∈l∧(if p.1=k then clock else f p.1)=f p.1∧f p.1<clock)∨(p=(k,v)∧(if p.1=k then clock else f p.1)=clock):=λp hp=>by
  rcases hmem p hp with h|h
  ·exact .inl ⟨h,by rw[if_neg (e1 p h)],hm.born p h⟩
  ·subst h;exact .inr ⟨rfl,by simp⟩
 refine⟨?_,λp hp=> ?_,λp hp q hq e=> ?_,?_⟩
 ·rw[kO hm.lt,Ea hk]
 ·rcases hb2 p hp with ⟨_,h1,h2⟩|⟨_,h1⟩<;>simp only[h1]<;>omega
 ·replace e:(if p.1=k then clock else f p.1)=(if q.1=k then clock else f q.1):=e
  rcases hb2 p hp with ⟨hp',h1,h2⟩|⟨rfl,h1⟩<;>rcases hb2 q hq with ⟨hq',h3,h4⟩|⟨rfl,h3⟩
  ·rw[h1,h3]at e;exact hm.inj p hp' q hq' e
  ·rw[h1,h3]at e;omega
  ·rw[h1,h3]at e;omega
  ·rfl
 ·rw[lh];exact ka hm.nodup k
theorem vq.put_old (hm:vq enc encV w b l f clock) (hj:l[j]? =some (k,v0)) (F:MapEntry→MapEntry) (hF:F ⟨enc k,encV v0,f k⟩=⟨enc k,encV v,f k⟩):
  vq enc encV (setBlock w b (.map ((kQ enc encV f l).toArray.modify j F) clock)) b (iM l k v) f clock:=by
 have hk:k∈l.map (·.1):=abS.2 ⟨_,List.mem_of_getElem? hj,rfl⟩
 have hkeys:(iM l k v).map (·.1)=l.map (·.1):=by rw[lh,jm,if_pos hk]
 have hmem:∀p∈iM l k v,∃q∈l,q.1=p.1:=λp hp=>by
  have:p.1∈(iM l k v).map (·.1):=ac6 hp
  rw[hkeys]at this
  obtain⟨q,hq,e⟩:=abS.1 this
  exact⟨q,hq,e⟩
 refine⟨?_,λp hp=> ?_,λp hp q hq e=> ?_,?_⟩
 ·rw[kO hm.lt,Dv hj hm.nodup F hF]
 ·obtain⟨q,hq,e⟩:=hmem p hp;rw[←e];exact hm.born q hq
 ·obtain⟨p',hp',e1⟩:=hmem p hp
  obtain⟨q',hq',e2⟩:=hmem q hq
  rw[←e1,←e2]at e ⊢
  exact hm.inj p' hp' q' hq' e
 ·rw[hkeys];exact hm.nodup
theorem fN (hx:dm fr x= .map (some b)) (hy:dm fr y=enc k) (hz:dm fr z=encV v) (hT:na P t=some (kt,et)) (KO:qV P kt S) (hS:∀a,S (enc a)) (hi:∀a a',enc a=enc a'→a=a') (hm:dy enc encV w b l)
  (hK:∀w',w.grownBy w' (some b)→dy enc encV w' b (iM l k v)→K undef w'):Yd P ⟨d, .mapUpdate t x y z,ty,ps,af,g⟩ fr w K:=by
 obtain⟨f,clock,hm⟩:=hm
 rcases vL (P:=P) (kt:=kt) (encV:=encV) KO hS hi (f:=f) hm.nodup w k with ⟨h1,h2⟩|⟨j,v0,h1,h2,h3⟩
 ·refine .skip ?_ (hK _ (jg w b) ⟨_,_,hm.put_new h2 v⟩)
  have hg:=λo=>MapKept.run_setObj_map (P:=P) o hm.heap
  simp only[execOp,hx,hy,hz,Instr.mapUpdate,Sem.run_bind,run_underlying (iY hT),Result.andThen_ok,MapKept.run_getObj_map hm.heap,KO.check w _ (hS k),h1,hg]
  rfl
 ·have hF:=hm.put_old h2 (v:=v) (λe=>⟨enc k,encV v,e.born⟩) rfl
  refine .skip ?_ (hK _ (jg w b) ⟨_,_,hF⟩)
  have hg:=λo=>MapKept.run_setObj_map (P:=P) o hm.heap
  have hkey:(((kQ enc encV f l).toArray[j]?).map (·.key)).getD (enc k)=enc k:=by simp[rx,h2]
  simp only[execOp,hx,hy,hz,Instr.mapUpdate,Sem.run_bind,run_underlying (iY hT),Result.andThen_ok,MapKept.run_getObj_map hm.heap,KO.check w _ (hS k),h1,hkey,KO.stays w (hS k),hg]
  rfl
structure PM (enc:α→Value) (encV:β→Value) (w:World) (b:Nat) (l:List (α×β)) (k:α) (stamp:Nat):Prop where
 out:∃(l2:List (α×β)) (f:α→Nat) (clock j:Nat) (v0:β),vq enc encV w b l2 f clock∧l2[j]? =some (k,v0)∧f k=stamp∧∀v,iM l2 k v=iM l k v
theorem Ql (l:List (α×β)) (k:α) (v v':β):iM (iM l k v) k v'=iM l k v':=by
 have hk:k∈(iM l k v).map (·.1):=by rw[lh,gy];exact .inr rfl
 rw[iM,if_pos hk]
 unfold iM
 split
 ·rw[List.map_map]
  refine adu λp _=> ?_
  simp only[Function.comp]
  by_cases e:p.1=k<;>simp[e]
 ·rename_i h
  have e1:∀p∈l,p.1≠k:=λp hp e=>h (e▸ac6 (f:=(·.1)) hp)
  rw[List.map_append]
  simp only[ac0,List.map_nil,if_true]
  congr 1
  conv=>rhs;rw[←List.map_id l]
  grind [List.map_congr_left]
theorem HC {z0:Value} {v0:β} (hx:dm fr x= .map (some b)) (hy:dm fr y=enc k) (hT:na P t=some (kt,et)) (KO:qV P kt S) (hS:∀a,S (enc a)) (hi:∀a a',enc a=enc a'→a=a')
  (hz:d4 P et=some z0) (hz0:z0=encV v0) (hm:dy enc encV w b l)
  (hK:∀st w',w.grownBy w' (some b)→PM enc encV w' b l k st→K (.tuple #[encV ((iN l k).getD v0), .int .i64 (st:Int)]) w'):Yd P ⟨d, .mapEntry t x y,ty,ps,af,g⟩ fr w K:=by
 subst hz0
 obtain⟨f,clock,hm⟩:=hm
 unfold d4 at hz
 obtain⟨i,hi2,hzz⟩:=we.1 hz
 have hg:=λo=>MapKept.run_setObj_map (P:=P) o hm.heap
 rcases vL (P:=P) (kt:=kt) (encV:=encV) KO hS hi (f:=f) hm.nodup w k with ⟨h1,h2⟩|⟨j,v,h1,h2,h3⟩
 ·have hm2:=hm.put_new h2 v0
  have hj:(iM l k v0)[l.length]? =some (k,v0):=by unfold iM;rw[if_neg h2];simp
  have:=hK clock _ (jg w b) ⟨⟨iM l k v0,_,_,l.length,v0,hm2,hj,by simp,λv=>Ql l k v0 v⟩⟩
  rw[pV.2 h2]at this
  refine .val ?_ this
  simp only[execOp,hx,hy,Instr.mapEntry,Sem.run_bind,run_underlying (iY hT),Result.andThen_ok,MapKept.run_getObj_map hm.heap,KO.check w _ (hS k),h1,zeroValue,typeInfo]
  simp[hi2,hzz,hg,goInt,setBlock]
 ·have hm2:=hm.put_old h2 (v:=v) (λe=>⟨enc k,e.val,e.born⟩) rfl
  have hl2:iM l k v=l:=by
   have hk:k∈l.map (·.1):=abS.2 ⟨_,List.mem_of_getElem? h2,rfl⟩
   unfold iM
   rw[if_pos hk]
   conv=>rhs;rw[←List.map_id l]
   refine adu λp hp=> ?_
   by_cases e:p.1=k
   ·obtain⟨a,u⟩:=p
    obtain rfl:a=k:=e
    have:=(nP hm.nodup).2 hp
    rw[h3]at this
    cases this
    simp
   ·simp[e]
  rw[hl2]at hm2
  have:=hK (f k) _ (jg w b) ⟨⟨l,_,_,j,v,hm2,h2,rfl,λv=>rfl⟩⟩
  rw[h3]at this
  refine .val ?_ this
  have hkey:(((kQ enc encV f l).toArray[j]?).map (·.key)).getD (enc k)=enc k:=by simp[rx,h2]
  have hborn:(((kQ enc encV f l).toArray[j]?).map (λx=>((x.born:Nat):Int))).getD 0=(f k:Int):=by simp[rx,h2]
  simp only[execOp,hx,hy,Instr.mapEntry,Sem.run_bind,run_underlying (iY hT),Result.andThen_ok,MapKept.run_getObj_map hm.heap,KO.check w _ (hS k),h1,hkey,hborn,KO.stays w (hS k),hg]
  rfl
theorem Eo {st:Nat} (hx:dm fr x= .map (some b)) (hy:dm fr y= .int .i64 (st:Int)) (hz:dm fr z=encV v) (hm:PM enc encV w b l k st)
  (hK:∀w',w.grownBy w' (some b)→dy enc encV w' b (iM l k v)→K undef w'):Yd P ⟨d, .entryStore t x y z,ty,ps,af,g⟩ fr w K:=by
 obtain⟨l2,f,clock,j,v0,hm2,hj,rfl,hp⟩:=hm.out
 have hg:=λo=>MapKept.run_setObj_map (P:=P) o hm2.heap
 have hF:=hm2.put_old hj (v:=v) (λe=>{e with val:=encV v}) rfl
 rw[hp]at hF
 refine .skip ?_ (hK _ (jg w b) ⟨_,_,hF⟩)
 have hfind:(kQ enc encV f l2).toArray.findIdx? (λe=>(e.born:Int)==(f k:Int))=some j:=by
  rw[Array.findIdx?_eq_some_iff_getElem]
  have hjl:j<l2.length:=(acS.1 hj).1
  have hjv:l2[j]=(k,v0):=(acS.1 hj).2
  refine⟨by simpa [kQ] using hjl,?_,λi hi=> ?_⟩
  ·simp[kQ,hjv]
  ·have hil:i<l2.length:=Nat.lt_trans hi hjl
   simp only[kQ,List.getElem_toArray,List.getElem_map,beq_iff_eq]
   intro e
   have e2:f l2[i].1=f l2[j].1:=by rw[hjv];exact_mod_cast e
   have e3:=hm2.inj _ (List.getElem_mem hil) _ (List.getElem_mem hjl) e2
   have h8:(l2.map (·.1))[i]? =some (l2[i].1):=by simp[hil]
   have h9:(l2.map (·.1))[j]? =some (l2[i].1):=by rw[e3];simp[hjl]
   have:=Ck hm2.nodup h8 h9
   omega
 simp only[execOp,hx,hy,hz,Instr.entryStore,Sem.run_bind,Result.andThen_ok,MapKept.run_getObj_map hm2.heap,asInt,asIntOf]
 have hfind2:(kQ enc encV f l2).findIdx? (λe=>(e.born:Int)==(f k:Int))=some j:=by simpa using hfind
 simp[hfind2,hg,setBlock]
theorem D1 {α β:Type} {enc:α→Value} {encV:β→Value} {l:List (α×β)} (hx:dm fr x= .map (some b)) (hT:na P t=some (kt,et)) (hm:dy enc encV w b l)
  (hK:∀it w',it=w.heap.size→dA w w'→eT enc encV w' it b l []→K (.pointer (some ⟨it,0,none⟩)) w'):Yd P ⟨d, .range t x,ty,ps,af,g⟩ fr w K:=by
 obtain⟨f,clock,hm⟩:=hm
 have hE:=dA.alloc w (.mapIter (some b) clock #[] clock)
 refine .val ?_ (hK w.heap.size _ rfl hE ⟨⟨f,clock,clock,clock,#[],hm.moved (Below.block hE b hm.lt),heap_alloc_new w _,am _,am _,hm.born,by simp, .inl rfl⟩,by simp,by simp⟩)
 simp only[execOp,hx,Instr.range,Sem.run_bind,run_underlying (iY hT),Result.andThen_ok,MapKept.run_getObj_map hm.heap]
 simp_all
theorem HP {seen:List α} (hx:dm fr x= .pointer (some ⟨it,0,none⟩)) (hm:eT enc encV w it b l seen)
  (hK0:(∀p∈l,p.1∈seen)→K (.tuple #[.bool false]) w)
  (hK:∀k v w',(k,v)∈l→k∉seen→w.grownBy w' (some it)→eT enc encV w' it b l (k::seen)→K (.tuple #[.bool true,enc k,encV v]) w'):Yd P ⟨d, .next x false,ty,ps,af,g⟩ fr w K:=by
 obtain⟨f,clock,since,c0,sn,h1,h2,h3,h3',h4,h5,h6⟩:=hm.out
 have hsn:∀p∈l,(sn.contains (f p.1)=true↔p.1∈seen):=λp hp=>by
  rw[Array.contains_iff_mem,←Array.mem_toList_iff,h5,List.mem_reverse,abS]
  constructor
  ·rintro⟨a,ha,e⟩
   obtain⟨q,hq,rfl⟩:=abS.1 (hm.sub a ha)
   rw[←h1.inj q hq p hp e];exact ha
  ·intro h;exact⟨_,h,rfl⟩
 have hleft:∀e,e∈(leftOf (kQ enc encV f l).toArray sn).toList↔∃p∈l,e=⟨enc p.1,encV p.2,f p.1⟩∧p.1∉seen:=λe=>by
  unfold leftOf
  simp only[Array.toList_filter,ac4,kQ,abS]
  constructor
  ·rintro⟨⟨p,hp,rfl⟩,h⟩
   refine⟨p,hp,rfl,λhs=> ?_⟩
   have:=(hsn p hp).2 hs
   replace h:(!sn.contains (f p.1))=true:=h
   rw[this]at h
   cases h
  ·rintro⟨p,hp,rfl,hs⟩
   refine⟨⟨p,hp,rfl⟩,?_⟩
   have:sn.contains (f p.1)=false:=aaT.2 λh=>hs ((hsn p hp).1 h)
   show (!sn.contains (f p.1))=true
   rw[this];rfl
 rcases run_next_at (P:=P) w ty it b since c0 sn (kQ enc encV f l).toArray clock h2 h1.heap (λe he=>by simp only[kQ,abS]at he;obtain⟨p,hp,rfl⟩:=he;exact h4 p hp) h3 with ⟨g1,g2⟩|⟨e,he,w1,hw1,g2⟩
 ·refine .val (w':=w) (v:= .tuple #[.bool false]) (by simp[execOp,hx,g2]) (hK0 λp hp=> ?_)
  refine Decidable.byContradiction λhs=> ?_
  have:=(hleft ⟨enc p.1,encV p.2,f p.1⟩).2 ⟨p,hp,rfl,hs⟩
  have h0:(leftOf (kQ enc encV f l).toArray sn).toList=[]:=ab4 (by simpa using g1)
  rw[h0]at this
  cases this
 ·obtain⟨p,hp,rfl,hs⟩:=(hleft e).1 he
  have hw:w1.heap=w.heap∧w1.os=w.os∧w1.tape=w.tape∧w1.output=w.output:=by rcases hw1 with rfl|rfl<;>exact⟨rfl,rfl,rfl,rfl⟩
  have hne:=hm.ne
  have hg:w.grownBy (setBlock w1 it (.mapIter (some b) since (sn.push (f p.1)) clock)) (some it):=
   ⟨hw.2.1,hw.2.2.1,hw.2.2.2,by simp[setBlock,hw.1],λi hi hne=>by
    show (w1.heap.setIfInBounds it _)[i]? =_
    rw[adh (λe=>hne DG),hw.1]⟩
  refine .val (by simp[execOp,hx,g2]) (hK p.1 p.2 _ hp hs hg ⟨⟨f,clock,since,clock,sn.push (f p.1),h1.moved (hg.block b h1.lt (λe=>hne (aaK e).symm)),?_,h3',h3',h4,by simp[h5], .inr rfl⟩,?_,?_⟩)
  ·refine kO ?_
   rw[hw.1];exact hm.lt
  ·intro a ha
   rcases ab9.1 ha with rfl|ha
   ·exact ac6 hp
   ·exact hm.sub a ha
  ·exact List.nodup_cons.2 ⟨hs,hm.nodup⟩
theorem Et {α β:Type} {enc:α→Value} {encV:β→Value} {l:List (α×β)} {k:α} {v:β} {seen:List α} (hx:dm fr x= .pointer (some ⟨it,0,none⟩)) (hm:eT enc encV w it b l (k::seen)) (hk:(k,v)∈l):
  (execOp (dm fr) ⟨d, .entry x,ty,ps,af,g⟩).run P w= .ok (.value (.tuple #[enc k,encV v])) w:=by
 obtain⟨f,clock,since,c0,sn,h1,h2,h3,h3',h4,h5,h6⟩:=hm.out
 obtain rfl:c0=clock:=by
  rcases h6 with h6|h6
  ·cases h6
  ·exact h6
 have e1:sn=(List.reverse (seen.map f)).toArray.push (f k):=by
  apply Array.ext'
  rw[h5];simp
 rw[e1]at h2
 have hr:=run_entry_at (P:=P) w it b since _ (kQ enc encV f l).toArray c0 ⟨enc k,encV v,f k⟩ h2 h1.heap (abS.2 ⟨_,hk,rfl⟩) (by
  have:(kQ enc encV f l).toArray.toList.map (·.born)=(l.map (·.1)).map f:=by simp[kQ]
  rw[this]
  refine List.pairwise_map.2 (h1.nodup.imp_of_mem λ{a c} ha hc hne e=> ?_)
  obtain⟨p,hp,rfl⟩:=abS.1 ha
  obtain⟨q,hq,rfl⟩:=abS.1 hc
  exact hne (h1.inj p hp q hq e))
 simp[execOp,hx,hr]
end
theorem rZ (h:dm f x= .tuple #[v0]):
  (execOp (dm f) ⟨d, .extract x 0,ty,ps,af,g⟩).run P w= .ok (.value v0) w:=by simp[execOp,h,Instr.extract]
def jo (c:Cb):Value:= .agg #[.int .u8 (c.m:Int), .int .u8 (c.v:Int)]
def tN (r:Rw):Value:= .agg #[.int .u8 (r.c.m:Int), .int .u8 (r.c.v:Int), .int .u8 (r.o:Int)]
def eQ (z:Int):Value:= .int .i64 z
theorem nW (a b:Cb) (h:jo a=jo b):a=b:=by
 obtain⟨m,v⟩:=a
 obtain⟨m',v'⟩:=b
 simp only[jo,Value.agg.injEq,Array.mk.injEq,List.cons.injEq,Value.int.injEq,true_and,and_true]at h
 grind
theorem vg (a b:Rw) (h:tN a=tN b):a=b:=by
 obtain⟨⟨m,v⟩,o⟩:=a
 obtain⟨⟨m',v'⟩,o'⟩:=b
 simp only[tN,Value.agg.injEq,Array.mk.injEq,List.cons.injEq,Value.int.injEq,true_and,and_true]at h
 grind
theorem fV (a b:Int) (h:eQ a=eQ b):a=b:=by
 simpa [eQ] using h
theorem wT {P:Program} {w:World} {s:Sem Bool} {r:Bool} (h:((s.run P w).andThen (λb w'=>Result.ok (Value.bool b) w')).andThen (λa w'=>Result.ok (Next.value a) w')= .ok (.value (.bool r)) w):s.run P w= .ok r w:=by
 cases hr:s.run P w<;>rw[hr]at h<;>simp[Result.andThen]at h
 grind
theorem sO {P:Program} {w:World} {t:TypeId} {A B:Array Value} {r:Bool} (hg:P.eqGuardType P.depth t=false)
  (h:(execOp (dm λ_=>undef) ⟨none, .binOp .eql t (.const (.agg A)) (.const (.agg B)) 0,0,"",#[],none⟩).run P w= .ok (.value (.bool r)) w):(Op.equal t (.agg A) (.agg B)).run P w= .ok r w:=by
 have e:∀v:Value,dm (λ_=>undef) (.const v)=v:=λ_=>rfl
 simp only[execOp,e,Sem.run_bind,run_eqGuard_agg _ _ _ _ _ _ _ hg,Result.andThen_ok,run_eql_struct]at h
 refine wT (P:=P) (w:=w) (s:=Op.equal t (.agg A) (.agg B)) (r:=r) ?_
 simpa [Op.equal,Op.maxDepth] using h
end
section
def fY (sz:Nat) (v:Value) (l h m:Nat):Value:= .slice (if m=l then EM v else (EM v).map (·.add (l*sz))) (h-l) (m-l)
section
variable {P:Program} {f:Nat→Value} {w:World} {d:Option Nat} {ty:TypeId} {ps:String} {af:Array Edge} {g:Option (Nat×Bool)} {x y:Operand}
variable {t:TypeId} {v u:Value} {T e:TypeId} {K:Value→World→Prop} {n sz by_ N l h m:Nat} {xs ys:List Value}
theorem Sl.eqv (k:Sl w sz v n xs):v= .slice (EM v) n (jn v)∧n≤jn v∧(EM v=none→jn v=0)∧∀a',EM v=some a'→0<jn v→a'=⟨Bx v,Gk v,none⟩:=by
 obtain⟨a,hv,h1,h2,h3⟩:=k.form
 generalize hc:jn v=c at*
 subst hv
 exact⟨rfl,h1,h2,h3⟩
theorem Sl.part (k:Sl w sz v n xs) (h1:l≤h) (h2:h≤n) (h3:h≤m) (h4:m≤jn v):Sl w sz (fY sz v l h m) (h-l) ((xs.drop (l*sz)).take ((h-l)*sz)):=by
 obtain⟨hv,hn,h0,ha⟩:=k.eqv
 have hC:jn (fY sz v l h m)=m-l:=rfl
 have hle:h*sz≤n*sz:=ab6 _ h2
 have hle2:l*sz≤h*sz:=ab6 _ h1
 have hsub:(h-l)*sz=h*sz-l*sz:=Nat.sub_mul _ _ _
 have hlen:=k.len
 refine⟨⟨_,rfl,by rw[hC];omega,λhnone=> ?_,λa' ha' hpos=> ?_⟩,?_,?_⟩
 ·rw[hC]
  by_cases e:m=l
  ·omega
  ·rw[if_neg e,Option.map_eq_none_iff]at hnone
   have:=h0 hnone
   omega
 ·have hB:∀a'',(if m=l then EM v else (EM v).map (·.add (l*sz)))=some a''→Bx (fY sz v l h m)=a''.block∧Gk (fY sz v l h m)=a''.off:=λa'' h=>by
   unfold fY
   rw[h]
   exact⟨rfl,rfl⟩
  obtain⟨e1,e2⟩:=hB a' ha'
  rw[e1,e2]
  rw[hC]at hpos
  split at ha'
  ·rw[ha a' ha' (by omega)]
  ·obtain⟨a0,h5,rfl⟩:=an.1 ha'
   rw[ha a0 h5 (by omega),iw]
 ·rw[aaX,aci,hlen]
  omega
 ·intro j u hu
  rw[List.getElem?_take]at hu
  split at hu
  ·rename_i hj
   rw[List.getElem?_drop]at hu
   have hc:=k.cell _ u hu
   have hne:¬m=l:=by
    intro e
    have:h-l=0:=by omega
    rw[this,acV]at hj
    omega
   have hn0:EM v≠none:=λe=>by
    have:=h0 e
    have h9:h-l=0:=by omega
    rw[h9,acV]at hj
    omega
   obtain⟨a0,ha0⟩:=Option.ne_none_iff_exists'.1 hn0
   have hs:fY sz v l h m= .slice (some (a0.add (l*sz))) (h-l) (m-l):=by unfold fY;rw[if_neg hne,ha0];rfl
   rw[hs]
   have hpos:0<jn v:=Nat.pos_of_ne_zero λe=>by
    have h9:h-l=0:=by omega
    rw[h9,acV]at hj
    omega
   rw[ha a0 ha0 hpos,iw]
   show w.cell? ⟨Bx v,Gk v+l*sz+j,none⟩=some u
   rw[Nat.add_assoc]
   exact hc
  ·cases hu
theorem s8 {α:Type} {enc:α→List Value} (he:∀a,(enc a).length=sz):∀(L:List α) (q:Nat),(L.drop q).flatMap enc=(L.flatMap enc).drop (q*sz)
 |[],q=>by simp
 |a::L,0=>by simp
 |a::L,q+1=>by
  rw[List.drop_succ_cons,s8 he L q,ach,show (q+1)*sz=(enc a).length+q*sz from by rw[he,act];omega,List.drop_length_add_append]
theorem tm {α:Type} {enc:α→List Value} (he:∀a,(enc a).length=sz):∀(L:List α) (q:Nat),(L.take q).flatMap enc=(L.flatMap enc).take (q*sz)
 |[],q=>by simp
 |a::L,0=>by simp
 |a::L,q+1=>by
  rw[List.take_succ_cons,ach,tm he L q,ach,show (q+1)*sz=(enc a).length+q*sz from by rw[he,act];omega,List.take_length_add_append]
theorem ady {α:Type} {enc:α→List Value} {L:List α} (he:∀a,(enc a).length=sz) (k:dr enc sz w v L) (h1:l≤h) (h2:h≤L.length) (h3:h≤m) (h4:m≤jn v):dr enc sz w (fY sz v l h m) ((L.drop l).take (h-l)):=by
 have hp:=Sl.part k h1 h2 h3 h4
 unfold dr
 rw[tm he,s8 he,aaX,aci,adm (by omega)]
 exact hp
theorem nM (hx:dm f x=v) (hs:Sl w sz v n xs) (hT:fj P t=some (e,sz,by_)) (hj:dm f xj= .int kj j) (hk:dm f xk= .int kk k)
  (h1:0≤j) (h2:j≤k) (h3:k≤jn v):
  (execOp (dm f) ⟨d, .slice t x none (some xj) (some xk),ty,ps,af,g⟩).run P w= .ok (.value (fY sz v 0 j.toNat k.toNat)) w:=by
 obtain⟨hv,hn,_,_⟩:=hs.eqv
 unfold fj at hT
 cases hu:P.underlying t with
 |none=>simp[hu]at hT
 |some desc=>
  cases desc<;>simp[hu]at hT
  obtain⟨i',hi',rfl,rfl,rfl⟩:=hT
  unfold fY
  rw[hv]at hx
  generalize EM v=A at*
  generalize jn v=C at*
  have hC:k≤(C:Int):=h3
  simp[execOp,hx,hj,hk,Instr.sliceAt,Instr.slice,run_underlying hu,Instr.sliceBounds,Instr.sliceBound,asIntOf,sizeOf,typeInfo,hi',show 0≤k from by omega,h1,hC,show j≤max k 0 from by omega]
theorem nL (hx:dm f x=v) (hs:Sl w sz v n xs) (hT:fj P t=some (e,sz,by_)) (hi:dm f xi= .int ki i) (h0:0≤i) (h1:i≤n):
  (execOp (dm f) ⟨d, .slice t x (some xi) none none,ty,ps,af,g⟩).run P w= .ok (.value (fY sz v i.toNat n (jn v))) w:=by
 obtain⟨hv,hn,_,_⟩:=hs.eqv
 unfold fj at hT
 cases hu:P.underlying t with
 |none=>simp[hu]at hT
 |some desc=>
  cases desc<;>simp[hu]at hT
  obtain⟨i',hi',rfl,rfl,rfl⟩:=hT
  unfold fY
  rw[hv]at hx
  generalize EM v=A at*
  generalize jn v=C at*
  simp[execOp,hx,hi,Instr.sliceAt,Instr.slice,run_underlying hu,Instr.sliceBounds,Instr.sliceBound,asIntOf,sizeOf,typeInfo,hi',h0,h1]
theorem BU (hx:dm f x=v) (hs:Sl w sz v n xs) (hT:fj P t=some (e,sz,by_)) (hj:dm f xj= .int kj j) (h0:0≤j) (h1:j≤jn v):
  (execOp (dm f) ⟨d, .slice t x none (some xj) none,ty,ps,af,g⟩).run P w= .ok (.value (fY sz v 0 j.toNat (jn v))) w:=by
 obtain⟨hv,hn,_,_⟩:=hs.eqv
 unfold fj at hT
 cases hu:P.underlying t with
 |none=>simp[hu]at hT
 |some desc=>
  cases desc<;>simp[hu]at hT
  obtain⟨i',hi',rfl,rfl,rfl⟩:=hT
  unfold fY
  rw[hv]at hx
  generalize EM v=A at*
  generalize jn v=C at*
  have hC:j≤(C:Int):=h1
  simp[execOp,hx,hj,Instr.sliceAt,Instr.slice,run_underlying hu,Instr.sliceBounds,Instr.sliceBound,asIntOf,sizeOf,typeInfo,hi',h0,hC]
theorem ke (hx:dm f x=v) (hy:dm f y=v2) (hT:fj P t=some (e,sz,by_)) (hz:(d4 P e).map (λz=>z.cells.size)=some sz)
  (hs:Sl w sz v n xs) (hfull:jn v=n) (hs2:Sl w sz v2 m ys) (hm0:0<m) (hN:N≤w.heap.size) (hb:(n+m)*by_≤140737488355328) (hm:n+m≤9223372036854775807)
  (hK:∀v' w',dA w w'→w'.ownsRow N e sz v' (n+m) (xs++ys)→K v' w'):Yd P ⟨d, .call ⟨.builtin .append,#[x,y],#[t,t]⟩,ty,ps,af,g⟩ f w K:=by
 obtain⟨z,hz,hzs⟩:=an.1 hz
 unfold d4 at hz
 obtain⟨i,hi,hzz⟩:=we.1 hz
 unfold fj at hT
 cases hun:P.underlying t with
 |none=>simp[hun]at hT
 |some desc=>
  cases desc<;>simp[hun]at hT
  rename_i e'
  obtain⟨i',hi',rfl,rfl,rfl⟩:=hT
  obtain rfl:i'=i:=by rw[hi]at hi';exact(aaK hi').symm
  have hv2:=hs2.eqn hm0
  have hcell2:=hs2.cell
  generalize Bx v2=B2 at*
  generalize Gk v2=O2 at*
  generalize jn v2=C2 at*
  subst hv2
  have h63:n+m≤maxLen:=by simpa [maxLen] using hm
  have grown:∀(old:Nat),old<n+m→
    (w.drew.alloc (.cells (xs.toArray++ys.toArray++Builtin.zeroCells z.cells (grownCap w (n+m) old e'-(n+m))) e')).ownsRow N e' i'.size
     (.slice (some ⟨w.heap.size,0,none⟩) (n+m) (grownCap w (n+m) old e')) (n+m) (xs++ys)∧
    dA w (w.drew.alloc (.cells (xs.toArray++ys.toArray++Builtin.zeroCells z.cells (grownCap w (n+m) old e'-(n+m))) e')):=by
   intro old ho
   have hlen:(xs++ys).length=(n+m)*i'.size:=by rw[An,hs.len,hs2.len,act]
   have hge:=grownCap_ge w (n+m) old e'
   have hcm:grownCap w (n+m) old e'≤maxLen:=grownCap_le_maxLen w (n+m) old e' h63
   refine⟨⟨hlen, .inr ⟨w.heap.size,_,_,rfl,hN,heap_alloc_new w.drew _,hge,hcm,?_,?_⟩⟩,⟨rfl,rfl,rfl,by simp,λk hk=>heap_alloc_old w.drew _ hk⟩⟩
   ·simp only[Array.size_append,List.size_toArray,size_zeroCells,hzs,hs.len,hs2.len,←act]
    congr 1
    omega
   ·simp only[Array.toList_append,ab7]
    rw[←ab7,←hlen]
    exact List.take_left
  have hn2:∀j u,ys[j]? =some u→w.cell? ((⟨B2,O2,none⟩:Addr).add j)=some u:=λj u hu=>by rw[iw];exact hcell2 j u hu
  obtain⟨hv,hn,h0,ha⟩:=hs.eqv
  cases hA:EM v with
  |none=>
   have h9:=h0 hA
   rw[hfull]at h9
   subst h9
   have hxs:xs=[]:=ab4 (by simpa using hs.len)
   subst hxs
   have hr:=run_append_nil (P:=P) w t ty e' i' z hun hi hzz ⟨B2,O2,none⟩ m C2 ys hs2.len hn2 hm0 (by omega) (by rw[acA]at hb;omega)
   have hg:=grown 0 (by omega)
   simp only[acA,aco,Array.empty_append]at hg
   rw[hA,hfull]at hv
   refine .val ?_ (hK _ _ hg.2 (by simpa using hg.1))
   simp[execOp,resolve,invoke,builtin,hx,hy,hv,hr]
  |some a0=>
   rw[hA,hfull]at hv
   have hr:=run_append_grow (P:=P) w t ty e' i' z hun hi hzz a0 n n xs hs.len (λj u hu=>by
    have hpos:0<jn v:=Nat.pos_of_ne_zero λe=>by
     have h0:n=0:=hfull.symm.trans e
     have hx0:xs=[]:=ab4 (by rw[hs.len,h0,acV])
     rw[hx0]at hu
     cases hu
    rw[ha a0 hA hpos,iw];exact hs.cell j u hu) ⟨B2,O2,none⟩ m C2 ys hs2.len hn2 (by omega) (by omega) (growslice_fits (by omega) hb)
   have hg:=grown n (by omega)
   refine .val ?_ (hK _ _ hg.2 hg.1)
   rw[hv]at hx
   simp[execOp,resolve,invoke,builtin,hx,hy,hr]
theorem jf {α:Type} {enc:α→List Value} {b:Nat} {c:Array Value} {a:α} (k:At w b c T) (hc:c.toList=enc a) (hs:c.size=sz) (hN:N≤b):cH enc sz T w N (.slice (some ⟨b,0,none⟩) 1 1) [a]:=
 ⟨by simp[←hc,hs], .inr ⟨b,1,c,rfl,hN,k,am _,by decide,by rw[hs,abJ],by
  show c.toList.take (1*sz)=_
  rw[abJ,←hs,←adt,aaY,hc];simp⟩⟩
end
section
variable {α β:Type} {enc:α→Value} {encV:β→Value} {w w':World} {b it:Nat} {l:List (α×β)} {seen:List α}
variable {α' β':Type} {enc':α'→Value} {encV':β'→Value} {b' it':Nat} {l':List (α'×β')} {seen':List α'}
variable {γ:Type} {encE:γ→List Value} {sz N:Nat} {T:TypeId} {v:Value} {L:List γ} {a:Nat} {c:Array Value}
theorem At.grownMap (h:At w a c T) (k:dy enc encV w b l) (hG:w.grownBy w' (some b)):At w' a c T:=h.grown hG (λe=>adH h k (aaK e))
theorem adP [DecidableEq α] (h:At w a c T) (m:PM enc encV w b l k st) (hG:w.grownBy w' (some b)):At w' a c T:=by
 obtain⟨l2,f,cl,_,_,h1,_⟩:=m.out
 exact h.grownMap ⟨f,cl,h1⟩ hG
theorem adI (h:At w a c T) (k:eT enc encV w it b l seen) (hG:w.grownBy w' (some it)):At w' a c T:=h.grown hG (λe=>adW h k (aaK e))
theorem cH.grownMap (h:cH encE sz T w N v L) (k:dy enc encV w b l) (hG:w.grownBy w' (some b)):cH encE sz T w' N v L:=World.ownsRow.kept h hG (.inr (λe=>AF h k e.symm))
theorem adX [DecidableEq α] (h:cH encE sz T w N v L) (m:PM enc encV w b l k st) (hG:w.grownBy w' (some b)):cH encE sz T w' N v L:=by
 obtain⟨l2,f,cl,_,_,h1,_⟩:=m.out
 exact h.grownMap ⟨f,cl,h1⟩ hG
theorem adL (h:cH encE sz T w N v L) (k:eT enc encV w it b l seen) (hG:w.grownBy w' (some it)):cH encE sz T w' N v L:=World.ownsRow.kept h hG (.inr (λe=>FM h k e.symm))
theorem dy.grownAt (k:dy enc encV w b l) (h:At w a c T) (hG:w.grownBy w' (some a)):dy enc encV w' b l:=k.grown hG (λe=>adH h k (aaK e).symm)
theorem dy.grownOw (k:dy enc encV w b l) (h:cH encE sz T w N v L) (hG:w.grownBy w' v.ownBlock):dy enc encV w' b l:=k.grown hG (AF h k)
theorem dy.grownNe (k:dy enc encV w b l) (hne:b≠b') (hG:w.grownBy w' (some b')):dy enc encV w' b l:=k.grown hG (λe=>hne (aaK e))
theorem adC (k:dy enc encV w b l) (h:eT enc' encV' w it' b' l' seen') (hG:w.grownBy w' (some it')):dy enc encV w' b l:=k.grown hG (λe=>ad3 h k (aaK e).symm)
theorem eT.grownAt (k:eT enc encV w it b l seen) (h:At w a c T) (hG:w.grownBy w' (some a)):eT enc encV w' it b l seen:=
 k.grown hG (λe=>adH h k.map (aaK e).symm) (λe=>adW h k (aaK e).symm)
theorem eT.grownMap (k:eT enc encV w it b l seen) (h:dy enc' encV' w b' l') (hne:b≠b') (hG:w.grownBy w' (some b')):eT enc encV w' it b l seen:=
 k.grown hG (λe=>hne (aaK e)) (λe=>ad3 k h (aaK e))
theorem ad4 [DecidableEq α'] (k:eT enc encV w it b l seen) (h:PM enc' encV' w b' l' kk st) (hne:b≠b') (hG:w.grownBy w' (some b')):eT enc encV w' it b l seen:=by
 obtain⟨l2,f,cl,_,_,h1,_⟩:=h.out
 exact k.grownMap ⟨f,cl,h1⟩ hne hG
end
end
section
def yg (n:Int):List Value:=[.int .u8 n]
theorem wa (n:Int):(yg n).length=1:=rfl
theorem Ex {l:List Int}:(l.flatMap yg).all Value.oneCell'=true:=yi (λ_=>rfl) l
theorem Lk (l:List Int):l.flatMap yg=l.map (Value.int .u8):=by
 induction l with
 |nil=>rfl
 |cons a l ih=>simp[ach,ih,yg]
def ea (l:List UInt8):Value:= .string ⟨l.toArray⟩
theorem Gn (a b:List UInt8) (h:ea a=ea b):a=b:=by
 simpa [ea] using h
theorem Gj (a c:List UInt8):((⟨a.toArray⟩:ByteArray)==⟨c.toArray⟩)=true↔a=c:=by
 show (a.toArray==c.toArray)=true↔a=c
 simp
def kY (xs:List Int):List UInt8:=xs.map λn=>UInt8.ofNat n.toNat
theorem zI:∀(ns:List Int) (s:ByteArray),ns.foldl (λr n=>r.push (UInt8.ofNat n.toNat)) s=⟨s.data++(kY ns).toArray⟩
 |[],s=>by simp[kY]
 |n::ns,s=>by
  rw[adn,zI ns]
  simp[ByteArray.push,kY]
section
variable {P:Program} {f:Nat→Value} {w:World} {d:Option Nat} {ty:TypeId} {ps:String} {af:Array Edge} {g:Option (Nat×Bool)} {x y:Operand} {v:Value}
theorem qF {xs:List Int} (hx:dm f x=v) (hs:dr yg 1 w v xs) (h1:P.underlying src=some (.slice e)) (h2:P.underlying e=some (.int .u8)) (h3:P.underlying dst=some .string):
  (execOp (dm f) ⟨d, .convert src dst x,ty,ps,af,g⟩).run P w= .ok (.value (ea (kY xs))) w:=by
 have hsl:Sl w 1 v xs.length (xs.flatMap yg):=hs
 have hc:=hsl.cell
 obtain⟨hv,hn,h0,ha⟩:=hsl.eqv
 cases hA:EM v with
 |none=>
  have h4:=h0 hA
  have hxs:xs=[]:=ab4 (by omega)
  rw[hA]at hv
  rw[hv]at hx
  subst hxs
  have hr:=run_convert_bytes_string w src dst e none 0 (jn v) h1 h2 h3
  rw[show Conv.bytesToString (.slice none 0 (jn v))=pure (.string .empty) from rfl]at hr
  have hr2:(convert src dst (.slice none 0 (jn v))).run P w= .ok (.string ⟨#[]⟩) w:=hr
  have hx2:dm f x= .slice none 0 (jn v):=hx
  simp[execOp,hx2,hr2,ea,kY]
 |some a=>
  rw[hA]at hv
  have hl:=_root_.Go.run_loadCells_list (P:=P) w a (xs.map (Value.int .u8)) (λj u hj=>by
   have hj':j<xs.length:=by
    have:=(acS.1 hj).1
    simpa using this
   rw[ha a hA (by omega),iw]
   exact hc j u (by rw[Lk];exact hj))
  rw[acj]at hl
  have hr:=run_convert_bytes_string w src dst e (some a) xs.length (jn v) h1 h2 h3
  rw[run_bytesToString w a xs.length (jn v) xs hl,zI]at hr
  rw[hv]at hx
  simp[execOp,hx,hr,ea]
end
section
variable {w W:World}
theorem Below.ow {α:Type} {enc:α→List Value} {sz:Nat} {T:TypeId} {N:Nat} {v:Value} {l:List α} (h:Go.RowKit.Below w.heap.size w W) (k:cH enc sz T w N v l):cH enc sz T W N v l:=
 World.ownsRow.kept k (row:=none) ⟨h.os,h.tape,h.output,h.size,λj hj _=>h.block j hj⟩ (by cases v.ownBlock<;>simp)
theorem ac1 {α β:Type} {enc:α→Value} {encV:β→Value} {b:Nat} {l:List (α×β)} (h:Go.RowKit.Below w.heap.size w W) (k:dy enc encV w b l):dy enc encV W b l:=k.moved (h.block b k.lt)
end
end
section
def ya (l:List UInt8):List Value:=[ea l]
theorem iW (l:List UInt8):(ya l).length=1:=rfl
theorem zZ (s:ByteArray):Value.string s=ea s.data.toList:=by
 unfold ea
 grind
def gg (l:List UInt8) (i:Nat):Nat:=(l.getD i 0).toNat
theorem un (l:List UInt8) (i:Nat):gg l i<256:=UInt8.toNat_lt _
section
variable {P:Program} {f:Nat→Value} {w:World} {d:Option Nat} {ty:TypeId} {ps:String} {af:Array Edge} {g:Option (Nat×Bool)} {x y:Operand} {v:Value} {t t2:TypeId}
theorem gP (hx:dm f x=ea a) (hy:dm f y=ea b) (hn:a.length+b.length≤9223372036854775807):
  (execOp (dm f) ⟨d, .binOp .add t x y t2,ty,ps,af,g⟩).run P w= .ok (.value (ea (a++b))) w:=by
 have h:=run_string_add_sum (P:=P) w ⟨a.toArray⟩ ⟨b.toArray⟩ (by simpa [ByteArray.size] using hn)
 rw[ByteArray.mk_append_mk]at h
 unfold ea at hx hy ⊢
 simp[execOp,hx,hy,eqGuard,binOp,h]
theorem rq (hx:dm f x=ea a) (hy:dm f y=ea b):
  (execOp (dm f) ⟨d, .binOp .eql t x y t2,ty,ps,af,g⟩).run P w= .ok (.value (.bool (decide (a=b)))) w:=by
 unfold ea at hx hy
 have e:(a==b)=decide (a=b):=by by_cases h:a=b<;>simp[h]
 simp[execOp,hx,hy,eqGuard,binOp,Op.stringOp,e]
theorem Hk (hx:dm f x=ea a) (hy:dm f y=ea b):
  (execOp (dm f) ⟨d, .binOp .neq t x y t2,ty,ps,af,g⟩).run P w= .ok (.value (.bool (decide (¬a=b)))) w:=by
 unfold ea at hx hy
 have e:(a==b)=decide (a=b):=by by_cases h:a=b<;>simp[h]
 simp[execOp,hx,hy,eqGuard,binOp,Op.stringOp,bne,e]
theorem m4 (hx:dm f x=ea a) (ht:P.underlying t=some .string):
  (execOp (dm f) ⟨d, .call ⟨.builtin .len,#[x],#[t]⟩,ty,ps,af,g⟩).run P w= .ok (.value (.int .i64 (a.length:Int))) w:=by
 unfold ea at hx
 have h:=run_len_string (P:=P) w t ty ⟨a.toArray⟩ ht
 rw[show (⟨a.toArray⟩:ByteArray).size=a.length from rfl]at h
 simp[execOp,resolve,invoke,builtin,hx,h,goInt]
theorem l3 {a:List UInt8} {k:IntKind} {i:Nat} (hx:dm f x=ea a) (hy:dm f y= .int k (i:Int)) (ht:P.underlying t=some .string) (hi:i<a.length):
  (execOp (dm f) ⟨d, .index t x y,ty,ps,af,g⟩).run P w= .ok (.value (.int .u8 ((gg a i:Nat):Int))) w:=by
 unfold ea at hx
 have hs:(i:Int)<((⟨a.toArray⟩:ByteArray).size:Int):=by simp[ByteArray.size];exact hi
 have h:=run_index_string (P:=P) w t ⟨a.toArray⟩ k (i:Int) ht
 rw[dif_pos ⟨by omega,hs⟩]at h
 have e:((⟨a.toArray⟩:ByteArray)[(i:Int).toNat]'(by simpa [ByteArray.size] using hi)).toNat=gg a i:=by
  unfold gg
  rw[Do,th hi]
  rfl
 rw[e]at h
 simp[execOp,hx,hy,h]
theorem AD {a:List UInt8} {ki kj:IntKind} {i j:Nat} {xi xj:Operand} (hx:dm f x=ea a) (hi:dm f xi= .int ki (i:Int)) (hj:dm f xj= .int kj (j:Int)) (ht:P.underlying t=some .string) (h1:i≤j) (h2:j≤a.length):
  (execOp (dm f) ⟨d, .slice t x (some xi) (some xj) none,ty,ps,af,g⟩).run P w= .ok (.value (ea ((a.drop i).take (j-i)))) w:=by
 unfold ea at hx
 have h:=run_slice_string (P:=P) w t ⟨a.toArray⟩ ki kj (i:Int) (j:Int) ht (by omega) (by omega) (by simp[ByteArray.size];exact h2)
 rw[my,my,ByteArray.extract_mk]at h
 simp[execOp,hx,hi,hj,run_sliceAt_string w t _ _ _ _ ht,h,ea]
theorem Oq (hx:dm f x= .iface te p) (ht:P.isIface t=true):
  (execOp (dm f) ⟨d, .binOp .neq t x (.const .nilIface) t2,ty,ps,af,g⟩).run P w= .ok (.value (.bool true)) w:=by
 have h:=run_neq_iface_nil (P:=P) w t ht te p
 have hy:dm f (.const .nilIface)= .nilIface:=rfl
 simp[execOp,hx,hy,eqGuard,h]
theorem Mv (hx:dm f x= .nilIface) (ht:P.isIface t=true):
  (execOp (dm f) ⟨d, .binOp .neq t x (.const .nilIface) t2,ty,ps,af,g⟩).run P w= .ok (.value (.bool false)) w:=by
 have h:=run_neq_nil_nil_at (P:=P) w t ht
 have hy:dm f (.const .nilIface)= .nilIface:=rfl
 simp[execOp,hx,hy,eqGuard,h]
end
def rp (w:World) (b:Nat) (l:List UInt8) (i:Nat):Prop:=w.heap[b]? =some (.stringIter ⟨l.toArray⟩ i)
section
variable {P:Program} {fr:Nat→Value} {w w':World} {d:Option Nat} {ty:TypeId} {ps:String} {af:Array Edge} {g:Option (Nat×Bool)} {x:Operand} {t:TypeId} {K:Value→World→Prop} {l:List UInt8} {it i:Nat}
theorem rp.lt (h:rp w it l i):it<w.heap.size:=gX h
theorem dA.itW (h:dA w w') (k:rp w it l i):rp w' it l i:=h.block k
theorem rp.grown {row:Option Nat} (k:rp w it l i) (h:w.grownBy w' row) (hne:some it≠row):rp w' it l i:=by
 have hlt:=k.lt
 unfold rp at*
 rw[h.block it hlt hne]
 exact k
theorem rp.neAt (k:rp w it l i) (h:At w b c T):it≠b:=by grind [rp,At]
theorem AE {xs:List Value} (h:w.ownsRow N T sz v n xs) (k:rp w it l i):some it≠v.ownBlock:=by
 intro e
 rcases h.2 with ⟨rfl,rfl⟩|⟨g,cap,cur,rfl,hg,hh,_⟩
 ·simp[Value.ownBlock]at e
 ·simp[Value.ownBlock]at e
  exact k.neAt (T:=T) (c:=cur) (b:=g) hh e
theorem ad6 {α:Type} {enc:α→List Value} {sz N:Nat} {T:TypeId} {v:Value} {L:List α} (h:cH enc sz T w N v L) (k:rp w it l i) (hG:w.grownBy w' (some it)):cH enc sz T w' N v L:=World.ownsRow.kept h hG (.inr (λe=>AE h k e.symm))
theorem rp.grownOw {α:Type} {enc:α→List Value} {sz N:Nat} {T:TypeId} {v:Value} {L:List α} (k:rp w it l i) (h:cH enc sz T w N v L) (hG:w.grownBy w' v.ownBlock):rp w' it l i:=k.grown hG (AE h k)
theorem adM (h:At w b c T) (k:rp w it l i) (hG:w.grownBy w' (some it)):At w' b c T:=h.grown hG (λe=>k.neAt h (aaK e).symm)
theorem rp.grownAt (k:rp w it l i) (h:At w b c T) (hG:w.grownBy w' (some b)):rp w' it l i:=k.grown hG (λe=>k.neAt h (aaK e))
theorem ET (hx:dm fr x=ea l) (ht:P.underlying t=some .string) (hK:∀it w',it=w.heap.size→dA w w'→rp w' it l 0→K (.pointer (some ⟨it,0,none⟩)) w'):Yd P ⟨d, .range t x,ty,ps,af,g⟩ fr w K:=by
 unfold ea at hx
 refine .val ?_ (hK w.heap.size (w.iter ⟨l.toArray⟩ 0) rfl (dA.alloc w _) (World.iter_heap w _ 0))
 simp[execOp,hx,run_range_string w t _ ht]
theorem vI (w:World) (b:Nat) (o:Obj):w.grownBy {w with heap:=w.heap.setIfInBounds b o} (some b):=by
 refine⟨rfl,rfl,rfl,by simp,λk _ hne=> ?_⟩
 grind
theorem Kb (hx:dm fr x= .pointer (some ⟨it,0,none⟩)) (hm:rp w it l i) (hK0:l.length≤i→K (.tuple #[.bool false]) w)
  (hK:∀(r n:Nat) w',i<l.length→i<n→((gg l i<128∧r=gg l i∧n=i+1)∨(128≤gg l i∧128≤r∧r≤2147483647))→w.grownBy w' (some it)→rp w' it l n→K (.tuple #[.bool true, .int .i64 (i:Int), .int .i32 (r:Int)]) w'):
  Yd P ⟨d, .next x true,ty,ps,af,g⟩ fr w K:=by
 have hm2:w.heap[it]? =some (.stringIter ⟨l.toArray⟩ i):=hm
 have hsz:(⟨l.toArray⟩:ByteArray).size=l.length:=by simp[ByteArray.size]
 by_cases hi:i<l.length
 ·have hi2:i<(⟨l.toArray⟩:ByteArray).size:=by rw[hsz];exact hi
  have e:((⟨l.toArray⟩:ByteArray)[i]'hi2).toNat=gg l i:=by
   unfold gg
   rw[Do,th hi]
   rfl
  have hrun:(execOp (dm fr) ⟨d, .next x true,ty,ps,af,g⟩).run P w= .ok (.value (.tuple #[.bool true, .int .i64 i, .int .i32 (Utf8.decode ⟨l.toArray⟩ i).1])) {w with heap:=w.heap.setIfInBounds it (.stringIter ⟨l.toArray⟩ (i+(Utf8.decode ⟨l.toArray⟩ i).2))}:=by
   simp[execOp,hx,Instr.next,getObj,setObj,Sem.run_bind,Sem.run,hm2,Result.andThen,hi2,goInt]
  have hnew:rp {w with heap:=w.heap.setIfInBounds it (.stringIter ⟨l.toArray⟩ (i+(Utf8.decode ⟨l.toArray⟩ i).2))} it l (i+(Utf8.decode ⟨l.toArray⟩ i).2):=by
   show (w.heap.setIfInBounds it _)[it]? =_
   rw[Array.getElem?_setIfInBounds_self_of_lt hm.lt]
  rcases acy (gg l i) 128 with h|h
  ·have hd:=decode_ascii ⟨l.toArray⟩ i hi2 (by rw[e];exact h)
   rw[e]at hd
   rw[hd]at hrun hnew
   exact .val hrun (hK _ _ _ hi (acY _) (.inl ⟨h,rfl,rfl⟩) (vI w it _) hnew)
  ·obtain⟨h1,h2⟩:=decode_high ⟨l.toArray⟩ i hi2 (by rw[e];exact h)
   exact .val hrun (hK _ _ _ hi (by omega) (.inr ⟨h,h1,decode_le _ _⟩) (vI w it _) hnew)
 ·refine .val ?_ (hK0 (by omega))
  have hi2:¬i<(⟨l.toArray⟩:ByteArray).size:=by rw[hsz];exact hi
  simp[execOp,hx,Instr.next,getObj,Sem.run_bind,Sem.run,hm2,Result.andThen,hi2]
end
theorem Gr (h:Calls P g vs w λe w'=>e= .returned v∧w'=w):Fn P g vs w λx _=>x=v:=
 ⟨Calls.mono h λe w' ⟨h1,h2⟩=>⟨v,h1,by rw[h2];exact dA.refl w,rfl⟩⟩
theorem dA.drewN (w:World) (n:Nat):dA w (w.drewN n):=ad1 w _
def Bal (g:Nat) (w:World):Prop:=∃m:Int,w.cell? ⟨g,0,none⟩=some (.int .i64 m)
theorem Bal.below (h:Go.RowKit.Below w.heap.size w W) (k:Bal g w):Bal g W:=by
 obtain⟨m,hm⟩:=k
 exact⟨m,by rw[World.cell?_of_block (h.block g (World.block_lt_of_cell? _ _ hm))];exact hm⟩
end
section
def cQ:List UInt8→List (List UInt8)
 |[]=>[[]]
 |b::r=>if b=10 then []::cQ r else match cQ r with
  |[]=>[[b]]
  |h::t=>(b::h)::t
theorem mm:∀s,cQ s≠[]
 |[]=>by simp[cQ]
 |b::r=>by
  unfold cQ
  split
  ·simp
  ·split<;>simp
theorem Bj (h:b≠10):Lib.index (b::r) [10]=if Lib.index r [10]= -1 then-1 else Lib.index r [10]+1:=by
 rw[Lib.index]
 have hp:([10]:List UInt8).isPrefixOf (b::r)=false:=by
  simp[List.isPrefixOf,Ne.symm h]
 rw[hp]
 simp only[acZ,if_false,beq_iff_eq]
theorem wh:∀s:List UInt8,Lib.splitK [10] 0 (s.count 10) s=cQ s
 |[]=>rfl
 |b::r=>by
  have ih:=wh r
  by_cases h:b=10
  ·subst h
   have hp:Lib.index (10::r) [10]=0:=by
    rw[Lib.index]
    simp[List.isPrefixOf]
   rw[List.count_cons_self,Lib.splitK,hp]
   simp only[show ((0:Int)== -1)=false from rfl,acZ,if_false]
   rw[cQ,if_pos rfl,←ih]
   rfl
  ·rw[List.count_cons_of_ne (by simpa using h),cQ,if_neg h,←ih]
   cases hk:r.count 10 with
   |zero=>rfl
   |succ k=>
    rw[Lib.splitK,Lib.splitK,Bj h]
    by_cases hi:Lib.index r [10]= -1
    ·simp[hi]
    ·have hge:=Lib.index_ge r [10]
     obtain⟨i,hi2⟩:=ab2 (show 0≤Lib.index r [10]by omega)
     rw[hi2]
     have e1:((i:Int)+1).toNat=i+1:=by omega
     have e2:¬((i:Int)+1== -1)=true:=by rw[beq_iff_eq];omega
     have e3:¬((i:Int)== -1)=true:=by rw[beq_iff_eq];omega
     have e4:¬(i:Int)= -1:=by omega
     simp only[if_neg e4,if_neg e2,if_neg e3,e1,my,ac7]
     rfl
theorem yz {α:Type} {enc:α→List Value} {w:World} {T:TypeId} {N b:Nat} {l:List α} (k:w.heap[b]? =some (.cells (l.flatMap enc).toArray T (0,0))) (hN:N≤b) (hs:∀a,(enc a).length=1) (hm:l.length≤maxLen):
  cH enc 1 T w N (.slice (some ⟨b,0,none⟩) l.length l.length) l:=by
 have hl:=mI hs l
 rw[acQ]at hl
 exact⟨by rw[hl,acQ], .inr ⟨b,l.length,_,rfl,hN,k,am _,hm,by simp[hl],by
  show (l.flatMap enc).toArray.toList.take _=_
  rw[acQ,←hl]
  exact aaY⟩⟩
end
section
def iv (n:Nat):List UInt8:=if n<10 then [UInt8.ofNat (48+n)]else [UInt8.ofNat (48+n/10),UInt8.ofNat (48+n%10)]
theorem CF (h:n<10):Lib.decDigits n=[UInt8.ofNat (48+n)]:=by rw[Lib.decDigits,dif_pos h]
theorem ND (h:n<100):Lib.decDigits n=iv n:=by
 unfold iv
 split
 ·rename_i h1;exact CF h1
 ·rename_i h1
  rw[Lib.decDigits,dif_neg h1,CF (by omega)]
  rfl
theorem wP {n:Nat} (h:n<100):Lib.itoa (n:Int)=iv n:=by
 unfold Lib.itoa
 rw[if_neg (by omega),my,ND h]
theorem wK:∀n,n<100→Lib.atoiAll (iv n)= .ok (n:Int):=by decide+kernel
theorem uN (n:Nat):(iv n).length≤2:=by grind [iv]
theorem MX (h:n<0):Lib.itoa n=45::Lib.decDigits n.natAbs:=by unfold Lib.itoa;rw[if_pos h]
theorem O9 (h:100≤n):3≤(Lib.decDigits n).length:=by
 rw[Lib.decDigits,dif_neg (by omega),An]
 have:2≤(Lib.decDigits (n/10)).length:=by
  rw[Lib.decDigits]
  split
  ·omega
  ·rw[An]
   have:Lib.decDigits (n/10/10)≠[]:=by
    rw[Lib.decDigits]
    split<;>simp
   have:=ads.2 this
   simp
   omega
 simp
 omega
theorem HT (h:Lib.atoiAll s= .ok n): -9223372036854775808≤n∧n≤9223372036854775807:=by
 cases s with
 |nil=>cases h
 |cons c r=>
  simp only[Lib.atoiAll]at h
  split at h
  ·cases h
  ·cases h
  ·rename_i u _
   split at h
   ·cases h
   ·split at h
    ·cases h
    ·split at h<;>injection h with h<;>omega
def y4 (line word:List UInt8):Option Nat:=(List.range 100).find? λn=>decide (line=word++32::iv n)
def fJ (line word:List UInt8) (lo hi:Int):Int:=
 match y4 line word with
 |some n=>if lo≤n∧(n:Int)≤hi then n else-1
 |none=> -1
section
variable {line word:List UInt8} {lo hi n:Int} {k:Nat}
theorem N9 (ha:a<100) (hb:b<100) (h:iv a=iv b):a=b:=by
 grind [wK]
theorem tu (hk:k<100) (h:line=word++32::iv k):y4 line word=some k:=by
 unfold y4
 cases hf:(List.range 100).find? λn=>decide (line=word++32::iv n)with
 |none=>
  have:=List.find?_eq_none.1 hf k (acp.2 hk)
  exact absurd (decide_eq_true h) this
 |some j=>
  have h1:=List.find?_some hf
  have h2:=acp.1 (List.mem_of_find?_eq_some hf)
  have h3:line=word++32::iv j:=of_decide_eq_true h1
  rw[h]at h3
  have h4:=List.append_cancel_left h3
  injection h4 with _ h4
  rw[N9 hk h2 h4]
theorem nI (h:∀k,k<100→line≠word++32::iv k):y4 line word=none:=by
 unfold y4
 grind
theorem F5:y4 line word=some k↔k<100∧line=word++32::iv k:=by
 constructor
 ·intro h
  unfold y4 at h
  have h1:=List.find?_some h
  exact⟨acp.1 (List.mem_of_find?_eq_some h),of_decide_eq_true h1⟩
 all_goals grind [tu]
theorem mD:Lib.hasPrefix line p=true↔∃r,line=p++r:=by
 unfold Lib.hasPrefix
 rw[List.isPrefixOf_iff_prefix]
 constructor
 ·rintro⟨r,rfl⟩;exact⟨r,rfl⟩
 all_goals grind
theorem qz:Lib.trimPrefix (p++r) p=r:=by
 unfold Lib.trimPrefix
 rw[if_pos (mD.2 ⟨r,rfl⟩),List.drop_left]
theorem UI (h:(!Lib.hasPrefix line (word++[32]))=true):Value.int .i64 (-1)= .int .i64 (fJ line word lo hi):=by
 unfold fJ
 rw[nI λk _ e=> ?_]
 rw[mD.2 ⟨iv k,by rw[e];simp⟩]at h
 cases h
theorem X7 (h:∀n,Lib.atoiAll (Lib.trimPrefix line (word++[32]))≠ .ok n):Value.int .i64 (-1)= .int .i64 (fJ line word lo hi):=by
 unfold fJ
 rw[nI λk hk e=> ?_]
 have e2:line=(word++[32])++iv k:=by rw[e];simp
 grind [qz,wK]
theorem Yv (h:((Lib.trimPrefix line (word++[32])).length:Int)>2):Value.int .i64 (-1)= .int .i64 (fJ line word lo hi):=by
 unfold fJ
 rw[nI λk hk e=> ?_]
 have e2:line=(word++[32])++iv k:=by rw[e];simp
 grind [qz,uN]
theorem aag (ha:Lib.atoiAll (Lib.trimPrefix line (word++[32]))= .ok n) (h:¬Lib.itoa n=Lib.trimPrefix line (word++[32])):Value.int .i64 (-1)= .int .i64 (fJ line word lo hi):=by
 unfold fJ
 rw[nI λk hk e=> ?_]
 have e2:line=(word++[32])++iv k:=by rw[e];simp
 grind [qz,wK,wP]
theorem HF (hp:(!Lib.hasPrefix line (word++[32]))=false) (h2:¬((Lib.trimPrefix line (word++[32])).length:Int)>2) (hi:Lib.itoa n=Lib.trimPrefix line (word++[32])):(n<0∧y4 line word=none)∨(0≤n∧y4 line word=some n.toNat):=by
 have hp2:Lib.hasPrefix line (word++[32])=true:=by cases h:Lib.hasPrefix line (word++[32])<;>simp_all
 obtain⟨r,rfl⟩:=mD.1 hp2
 rw[qz]at h2 hi
 rcases Int.lt_or_le n 0 with h0|h0
 ·refine .inl ⟨h0,nI λk hk e=> ?_⟩
  have e2:word++[32]++r=word++[32]++iv k:=by rw[e];simp
  have e3:=List.append_cancel_left e2
  rw[e3,MX h0]at hi
  have:∀k,k<100→(iv k).head?≠some 45:=by decide+kernel
  exact this k hk (by rw[←hi];rfl)
 ·refine .inr ⟨h0,?_⟩
  obtain⟨k,rfl⟩:=ab2 h0
  have hk:k<100:=by
   rcases acy k 100 with h|h
   ·exact h
   ·have h3:=O9 h
    have e:Lib.itoa (k:Int)=Lib.decDigits k:=by unfold Lib.itoa;rw[if_neg (by omega),my]
    rw[←hi,e]at h2
    omega
  grind [wP,Int.toNat_natCast,tu]
theorem Yi (h0:0≤lo) (hp:(!Lib.hasPrefix line (word++[32]))=false) (h2:¬((Lib.trimPrefix line (word++[32])).length:Int)>2) (hi':¬¬Lib.itoa n=Lib.trimPrefix line (word++[32])) (h:n<lo):Value.int .i64 (-1)= .int .i64 (fJ line word lo hi):=by
 unfold fJ
 rcases HF hp h2 (aaS hi')with ⟨_,e⟩|⟨h3,e⟩<;>rw[e]
 grind
theorem Yl (hp:(!Lib.hasPrefix line (word++[32]))=false) (h2:¬((Lib.trimPrefix line (word++[32])).length:Int)>2) (hi':¬¬Lib.itoa n=Lib.trimPrefix line (word++[32])) (h:n>hi):Value.int .i64 (-1)= .int .i64 (fJ line word lo hi):=by
 unfold fJ
 rcases HF hp h2 (aaS hi')with ⟨_,e⟩|⟨h3,e⟩<;>rw[e]
 grind
theorem aaD (h0:0≤lo) (hp:(!Lib.hasPrefix line (word++[32]))=false) (h2:¬((Lib.trimPrefix line (word++[32])).length:Int)>2) (hi':¬¬Lib.itoa n=Lib.trimPrefix line (word++[32])) (h:¬n<lo) (h':¬n>hi):Value.int .i64 n= .int .i64 (fJ line word lo hi):=by
 unfold fJ
 rcases HF hp h2 (aaS hi')with ⟨_,e⟩|⟨h3,e⟩
 ·omega
 ·rw[e]
  simp only[]
  rw[if_pos (by omega),Int.toNat_of_nonneg h3]
end
end
section
section
variable {P:Program} {f:Nat→Value} {w:World} {d:Option Nat} {ty t t2:TypeId} {ps:String} {af:Array Edge} {g:Option (Nat×Bool)} {x y:Operand} {m n:Nat} {b:Int}
theorem ZD (m:Nat):IntKind.u8.wrap (m:Int)=((m%256:Nat):Int):=by simp[IntKind.wrap,IntKind.signed,IntKind.bits]
theorem Jp (hx:dm f x= .int .u8 (m:Int)) (hy:dm f y= .int .u8 b) (hb:b=(n:Int)):
  (execOp (dm f) ⟨d, .binOp .mul t x y t2,ty,ps,af,g⟩).run P w= .ok (.value (.int .u8 ((m*n%256:Nat):Int))) w:=by
 subst hb
 rw[O4 hx hy,←Int.natCast_mul,ZD]
end
theorem TZ (m k:Nat):m/2^k/2=m/2^(k+1):=by grind [Nat.div_div_eq_div_mul,Nat.pow_succ]
theorem aaP (h:k≤62):2^k*2<ig .u64:=by
 have h2:2^(k+1)≤2^63:=aaV (by decide) (by omega)
 grind [Nat.pow_succ,ig]
theorem abI (h:k≤8):2^k≤256:=by
 have h2:2^k≤2^8:=aaV (by decide) h
 simpa using h2
theorem Eb (h:k<8):2^k≤128:=by
 have h2:2^k≤2^7:=aaV (by decide) (by omega)
 simpa using h2
theorem RZ (x k:Nat):x.testBit k=decide (x/2^k%2=1):=by grind
theorem tX {α:Type} (f:Nat→α) (d:α) {k p:Nat} (h:p<k):((List.range k).map f).getD p d=f p:=by
 grind
theorem Bs {α:Type} (f g:Nat→α) {k p:Nat} (h:∀q,q<k→q≠p→f q=g q) (a:α) (ha:a=g p):((List.range k).map f).set p a=(List.range k).map g:=by
 refine List.ext_getElem? λq=> ?_
 grind
def nu (s k:Nat):List Bool:=(List.range k).map λp=>s.testBit p
abbrev AV (s:Nat):List Bool:=nu s 256
theorem En (s k:Nat):nu s (k+1)=nu s k++[s.testBit k]:=by grind [nu,List.range_succ]
theorem sy (s k:Nat):(nu s k).length=k:=by simp[nu]
theorem xF (h:p<k):(nu s k).getD p false=s.testBit p:=tX _ _ h
theorem Lm (h:k<64):decide (((wd s i/2^k%2:Nat):Int)=1)=s.testBit (64*i+k):=by
 have h1:=iz s i k
 grind
theorem xJ {a b k:Nat} (hk:k<256) (h:(AV a).getD (k:Int).toNat false=false∨(!(AV b).getD (k:Int).toNat false)=false):a.testBit k=true→b.testBit k=true:=by
 grind [Int.toNat_natCast,xF]
theorem Ed {a b k:Nat} (hk:k<256) (h1:(AV a).getD (k:Int).toNat false=true) (h2:(!(AV b).getD (k:Int).toNat false)=true):dW a b=false:=by
 rw[my,xF hk]at h1 h2
 refine aaT.2 λh=> ?_
 grind [dJ]
theorem GV (h:k=256) (hw:∀p,p<k→a.testBit p=true→b.testBit p=true):dW a b=true:=by
 grind [dJ]
def gK (l:List Bool):Nat→Nat
 |0=>0
 |k+1=>if l.getD k false=true then mT (gK l k) (k:Int)else gK l k
abbrev UD (l:List Bool):Nat:=gK l 256
theorem sf (l:List Bool):∀(k:Nat),k≤256→∀p,(gK l k).testBit p=(decide (p<k)&&l.getD p false):=by
 intro k
 induction k with
 |zero=>intro _ p;simp[gK]
 |succ k ih=>
  intro hk p
  have ih':=ih (by omega) p
  simp only[gK]
  split
  ·rename_i h
   rw[mF (by omega),ih']
   by_cases e:p=k
   ·subst e;rw[h];simp
   ·simp only[e,decide_false,Bool.false_or]
    congr 1
    rw[acb];simp;omega
  ·rename_i h
   rw[ih']
   by_cases e:p=k
   ·subst e
    rw[aaT.2 h];simp
   ·congr 1
    rw[acb];simp;omega
theorem FH (h:l.getD k false=false):gK l (k+1)=gK l k:=by
 rw[gK,if_neg (by rw[h];decide)]
theorem ss (l:List Bool) (hi:i<4) (hk:k<64):wd (gK l (64*i+k)) i<2^k:=by
 refine Nat.lt_pow_two_of_testBit _ λj hj=> ?_
 grind [iz,sf]
theorem ID (l:List Bool) (hi:i<4) (hk:k<64):wd (gK l (64*i+k)) i+2^k=wd (gK l (64*i+k)) i ||| 2^k:=by
 have h:=acu (ss l hi hk) 1
 grind
theorem Lf (l:List Bool) (hi:i<4) (hk:k<64) (h:l.getD (64*i+k) false=true):
  ∀j,j<4→wd (gK l (64*i+k+1)) j=if j=i then wd (gK l (64*i+k)) i+2^k else wd (gK l (64*i+k)) j:=by
 intro j hj
 rw[ID l hi hk]
 have e:=Hf (s:=gK l (64*i+k)) (q:=64*i+k) (by omega) j hj
 have e1:(64*i+k)/64=i:=by omega
 have e2:(64*i+k)%64=k:=by omega
 rw[e1,e2]at e
 rw[←e]
 simp only[gK,h,if_true]
theorem CT (l:List Bool) (hi:i<4) (hk:k<64):wd (gK l (64*i+k)) i+2^k<ig .u64:=by
 have h1:=ss l hi hk
 have h2:2^(k+1)≤2^64:=aaV (by decide) (by omega)
 grind [Nat.pow_succ,ig]
theorem Qs (hi:i<4) (h:∀p,p<256→s.testBit p=t.testBit p):wd s i=wd t i:=by
 grind [kT,xB,iz]
def nU (k:Nat):List Bool:=(List.range 256).map λp=>decide (p<k)
theorem y6 (k:Nat):(nU k).length=256:=by simp[nU]
theorem Fw:List.replicate 256 false=nU 0:=by
 unfold nU
 rw[show (λp:Nat=>decide (p<0))=λ_=>false from funext λp=>by simp]
 rw[List.map_const',adp]
theorem H5 (k:Nat):(nU k).set (k:Int).toNat true=nU (k+1):=by
 rw[my]
 exact Bs _ _ (λq _ h=>by rw[acb];simp;omega) _ fF
theorem FD (_h:k≤256):∀p,p<256→(gK (nU k) 256).testBit p=(r7 k).testBit p:=by
 intro p hp
 rw[sf _ _ (am _),sJ,nU,tX _ _ hp]
 simp[hp]
def lit (m v i:Nat):Int:=if m/2^i%2=0 then 2 else ((v/2^i%2:Nat):Int)
def Iq (m v k:Nat):List Int:=(List.range k).map (lit m v)
abbrev aaI (m v:Nat):List Int:=Iq m v 8
theorem Ak (m v k:Nat):(Iq m v k).length=k:=by simp[Iq]
def Rh (l:List Int):Prop:=l.length≤8∧∀i,i<l.length→l.getD i 0=0∨l.getD i 0=1∨l.getD i 0=2
def kZ (l:List Int):Nat→Nat
 |0=>0
 |k+1=>if l.getD k 0<2 then kZ l k+2^k else kZ l k
def ou (l:List Int):Nat→Nat
 |0=>0
 |k+1=>if l.getD k 0<2 then ou l k+2^k*(l.getD k 0).toNat else ou l k
theorem Cd (l:List Int):∀k,kZ l k<2^k
 |0=>by simp[kZ]
 |k+1=>by
  have ih:=Cd l k
  simp only[kZ,acF]
  split<;>omega
theorem G3 (l:List Int):∀k,ou l k<2^k
 |0=>by simp[ou]
 |k+1=>by
  have ih:=G3 l k
  have hp:0<2^k:=ace k
  simp only[ou,acF]
  split
  ·rename_i h
   have:(l.getD k 0).toNat≤1:=by omega
   have h2:2^k*(l.getD k 0).toNat≤2^k*1:=Nat.mul_le_mul_left _ this
   omega
  ·omega
theorem Hd:andNot v m=0↔v &&& m=v:=by
 constructor
 ·intro h
  refine aaF λi=> ?_
  have h2:=congrArg (λx=>x.testBit i) h
  simp only[ee,acn]at h2
  rw[abd]
  cases hv:v.testBit i<;>simp_all
 ·intro h
  refine aaF λi=> ?_
  grind [ee]
def oJ (m v p:Nat):Bool:=decide (p &&& m=v &&& m)
def ptF (m v n k:Nat):List Bool:=(List.range 256).map λp=>decide (p<2^n)&&(decide (¬p<k)||oJ m v p)
theorem RK (m v n k:Nat):(ptF m v n k).length=256:=by simp[ptF]
theorem Rh.get (h:Rh l) (hk:k<l.length) (h2:l.getD k 0<2):∃q:Nat,q≤1∧l.getD k 0=(q:Int):=by
 rcases h.2 k hk with e|e|e
 ·exact⟨0,by decide,e⟩
 ·exact⟨1,by decide,e⟩
 ·omega
theorem qp {l:List Int} {k q:Nat} (hq:l.getD k 0=(q:Int)) (h1:q≤1):kZ l (k+1)=kZ l k+2^k∧ou l (k+1)=ou l k+2^k*q:=by
 simp only[kZ,ou,hq,my]
 grind
theorem ua (h:¬l.getD k 0<2):kZ l (k+1)=kZ l k∧ou l (k+1)=ou l k:=by
 simp only[kZ,ou,if_neg h,and_self]
theorem CO (h:n<0∨8<n):dS m v n=false:=by
 grind [dS,decide_eq_false]
end
section
section
variable {P:Program} {f:Nat→Value} {w w':World} {d:Option Nat} {ty:TypeId} {ps:String} {af:Array Edge} {g:Option (Nat×Bool)} {x y:Operand}
variable {t:TypeId} {b o:Nat} {v u:Value} {c nw:Array Value} {T e:TypeId} {K:Value→World→Prop} {n sz by_ N k:Nat} {xs ys:List Value}
theorem iT (hx:dm f x= .pointer (some ⟨b,o,none⟩)) (hy:dm f y= .agg nw) (hT:kn P t=some k) (hk:k=nw.size) (hm:At w b c T) (hs0:o+k≤c.size) (hv0:nw.toList.all Value.oneCell'=true)
  (hK:∀w',w.grownBy w' (some b)→At w' b (c.toList.take o++nw.toList++c.toList.drop (o+nw.toList.length)).toArray T→K undef w'):Yd P ⟨d, .store t x y,ty,ps,af,g⟩ f w K:=by
 subst hk
 have h2:=congrFun (mB hT).2 w
 have hst:=run_storeCells_at P b o T nw.toList 0 c w hm ix (λv h=>aa1.1 hv0 v h)
 rw[ac7]at hst
 refine .skip (w':=w.setRow b (c.toList.take o++nw.toList++c.toList.drop (o+nw.toList.length)).toArray) ?_ (hK _ ⟨rfl,rfl,rfl,by simp,λj _ hj=>setRow_other w b j _ (λe=>hj DG)⟩ (setRow_heap w b c _ T (0,0) hm))
 simp[execOp,hx,hy,Instr.storeAt,Instr.sureAddr,storeVar,h2,Value.cells,hst]
theorem eS {K:(Nat→Value)→World→Prop} {Q:Exit→(Nat→Value)→World→Prop} {F:Nat→Value} {W:World} {id:Nat} (h:Q (.exit id) F W):zS K Q (.exit id) F W:=h
theorem eA {id:Nat} (h:Q .normal F W):uB id Q (.exit id) F W:=by
 simp only[uB,if_true];exact h
theorem Hy (off:Nat) (l:List Value):∀(k:Nat) (cs:Array Value),off+k+l.length≤cs.size→
  (l.zipIdx k).foldl (λcs (p:Value×Nat)=>cs.setIfInBounds (off+p.2) p.1) cs=(cs.toList.take (off+k)++l++cs.toList.drop (off+k+l.length)).toArray:=by
 induction l with
 |nil=>intro k cs _;simp
 |cons u r ih=>
  intro k cs h
  simp only[aaW]at h
  rw[List.zipIdx_cons,adn,ih (k+1) _ ix]
  have:=list_seg_step cs.toList (off+k) u r (by simpa using h)
  simp only[Array.toList_setIfInBounds]
  rw[show off+(k+1)=off+k+1 from rfl,this]
  rfl
theorem fU (sz i:Nat) (u:Value) (rest:List (Nat×Value)) (cs:Array Value) (hu:u.cells.size=sz) (hc:i*sz+sz≤cs.size):
  Instr.fill (λi=>some (i*sz,sz)) cs ((i,u)::rest)=Instr.fill (λi=>some (i*sz,sz)) (cs.toList.take (i*sz)++u.cells.toList++cs.toList.drop (i*sz+sz)).toArray rest:=by
 have h:=Hy (i*sz) u.cells.toList 0 cs (by simp[hu];omega)
 have hn:¬cs.size<i*sz+sz:=by omega
 simp only[Instr.fill,hu,ne_eq,not_true_eq_false,decide_false,gt_iff_lt,hn,Bool.or_self,acZ,if_false]
 rw[←Array.foldl_toList,Array.toList_zipIdx,h]
 simp[hu]
theorem Qj (u0 u1:Value) (z:Array Value) (sz:Nat) (hu0:u0.cells.size=sz) (hu1:u1.cells.size=sz) (hz:z.size=2*sz):Instr.fill (λi=>some (i*sz,sz)) z [(0,u0),(1,u1)]=some (u0.cells++u1.cells):=by
 rw[fU sz 0 u0 _ z hu0 (by omega),fU sz 1 u1 _ _ hu1 (by simp[hu0];omega),Instr.fill]
 congr 1
 apply Array.ext'
 simp only[acV,List.take_zero,aco,acA,abJ,List.toList_toArray,Array.toList_append]
 have h0:u0.cells.toList.length=sz:=by simp[hu0]
 rw[adr (by omega),acR (by omega),List.drop_eq_nil_of_le (by simp[hu0,hz];omega),acw]
theorem Ir (hx0:dm f x0=u0) (hx1:dm f x1=u1) (hT:fj P t=some (e,sz,by_)) (hz:(d4 P e).map (λz=>z.cells.size)=some sz) (hu0:u0.cells.size=sz) (hu1:u1.cells.size=sz) (hsz:0<sz) (hsz2:sz≤100)
  (hK:∀b w',b=w.heap.size→dA w w'→At w' b (u0.cells++u1.cells) e→K (.slice (some ⟨b,0,none⟩) 2 2) w'):Yd P ⟨d, .buildSlice t 2 #[(0,x0),(1,x1)],ty,ps,af,g⟩ f w K:=by
 obtain⟨z,hz,hzs⟩:=an.1 hz
 unfold d4 at hz
 obtain⟨i,hi,hzz⟩:=we.1 hz
 unfold fj at hT
 cases hun:P.underlying t with
 |none=>simp[hun]at hT
 |some desc=>
  cases desc<;>simp[hun]at hT
  rename_i e'
  obtain⟨i',hi',rfl,h1,rfl⟩:=hT
  obtain rfl:i'=i:=by rw[hi]at hi';exact(aaK hi').symm
  refine .val (w':=w.alloc (.cells (u0.cells++u1.cells) e')) ?_ (hK w.heap.size _ rfl (dA.alloc w _) (lZ w _ _))
  have hbig:¬16777216<2*sz:=by omega
  have hne:¬sz=0:=by omega
  have hf:=Qj u0 u1 ((Array.range (2*sz)).map (z.cells[·%z.cells.size]!)) sz hu0 hu1 fF
  simp[execOp,hx0,hx1,Instr.buildSlice,run_underlying hun,sizeOf,typeInfo,hi,h1,zeroValue,hzz,hne,hbig,newRow,hf]
  intro h
  omega
theorem zT {α:Type} {enc:α→List Value} {b:Nat} {u0 u1:Value} {a0 a1:α} (k:At w b (u0.cells++u1.cells) T) (h0:u0.cells.toList=enc a0) (h1:u1.cells.toList=enc a1) (hs0:u0.cells.size=sz) (hs1:u1.cells.size=sz) (hN:N≤b):cH enc sz T w N (.slice (some ⟨b,0,none⟩) 2 2) [a0,a1]:=
 ⟨by simp[←h0,←h1,hs0,hs1];omega, .inr ⟨b,2,_,rfl,hN,k,am _,by decide,by simp[hs0,hs1];omega,by
  rw[acR (by simp[hs0,hs1];omega)]
  simp[h0,h1]⟩⟩
theorem DD (hT:fj P t=some (e,sz,by_))
  (hK:∀b w',b=w.heap.size→dA w w'→At w' b #[] e→K (.slice (some ⟨b,0,none⟩) 0 0) w'):Yd P ⟨d, .buildSlice t 0 #[],ty,ps,af,g⟩ f w K:=by
 unfold fj at hT
 cases hun:P.underlying t with
 |none=>simp[hun]at hT
 |some desc=>
  cases desc<;>simp[hun]at hT
  rename_i e'
  obtain⟨i',hi',rfl,h1,rfl⟩:=hT
  refine .val (w':=w.alloc (.cells #[] e')) ?_ (hK w.heap.size _ rfl (dA.alloc w _) (lZ w _ _))
  simp[execOp,Instr.buildSlice,run_underlying hun,sizeOf,typeInfo,hi',newRow,Instr.fill]
  have e0:Array.range 0= #[]:=by simp[Array.range]
  rw[e0,List.map_toArray]
  rfl
theorem u7 {α:Type} {enc:α→List Value} {b:Nat} (k:At w b #[] T) (hN:N≤b):cH enc sz T w N (.slice (some ⟨b,0,none⟩) 0 0) ([]:List α):=
 ⟨by simp, .inr ⟨b,0,_,rfl,hN,k,am _,me _,by simp,by simp⟩⟩
def fp (v v':Value):Prop:=∀b,v.ownBlock=some b→v'.ownBlock=some b→False
theorem fp.symm (h:fp v v'):fp v' v:=λb h1 h2=>h b h2 h1
theorem ad0:fp (.slice none 0 0) v:=λb h=>by cases h
theorem fp.kept (h:fp v v'):v'.ownBlock=none∨v'.ownBlock≠v.ownBlock:=by
 cases hv:v'.ownBlock with
 |none=>exact .inl rfl
 |some b=>exact .inr λe=>h b e.symm hv
theorem fp.app {α:Type} {enc:α→List Value} {v v1 v2:Value} {l:List α} (h:fp v v2) (hob:v1.ownBlock=v.ownBlock∨v1.ownBlock=some w.heap.size) (k:cH enc sz T w N v2 l):fp v1 v2:=λb h1 h2=>by
 rcases hob with e|e
 ·exact h b (e▸h1) h2
 ·rw[e]at h1
  cases h1
  have:=(World.ownsRow.lt k _ h2).2
  omega
section
variable {α β:Type} {enc:α→List Value} {AP:β→List Value} {l:List α} {l':List β} {v':Value} {N' sz':Nat} {T':TypeId}
theorem adi (k:cH enc sz T w N v l):∀j,v.ownBlock=some j→j<w.heap.size:=λj hj=>(World.ownsRow.lt k j hj).2
theorem fp.new {M:Nat} (h:∀j,v.ownBlock=some j→j<M) (k:cH enc sz T w M v' l):fp v v':=λb h1 h2=>by
 have h3:=(World.ownsRow.lt k b h2).1
 have h4:=h b h1
 omega
theorem cH.grownAp (k:cH enc sz T w N v l) (h:fp v' v) (hG:w.grownBy w' v'.ownBlock):cH enc sz T w' N v l:=World.ownsRow.kept k hG h.kept
def UN {α:Type} (v:Value) (l:List α) (b:Nat):Prop:=l=[]∨Bx v≠b
theorem adN (k:dr enc sz w v l) (hb:w.heap.size≤b) (hsz:0<sz:=by decide) (he:∀a,(enc a).length=sz:=by intro a;rfl):UN v l b:=by
 cases l with
 |nil=>exact .inl rfl
 |cons a r=>
  right
  have h0:∃u,((a::r).flatMap enc)[0]? =some u:=by
   rw[ach]
   have:=he a
   cases hc:enc a with
   |nil=>rw[hc]at this;simp at this;omega
   |cons u q=>exact⟨u,rfl⟩
  obtain⟨u,hu⟩:=h0
  have hc:=Sl.cell k 0 u hu
  have:=World.block_lt_of_cell? w _ hc
  have h2:Bx v<w.heap.size:=this
  omega
theorem adB (k:dr enc sz w v l) (h:UN v l b) (hG:w.grownBy w' (some b)):dr enc sz w' v l:=by
 refine⟨k.form,k.len,λj u hu=> ?_⟩
 rcases h with rfl|h
 ·simp at hu
 ·have hc:=Sl.cell k j u hu
  have hlt:=World.block_lt_of_cell? w _ hc
  have e:=hG.block (Bx v) hlt (λe=>h (aaK e))
  rw[←hc]
  unfold World.cell?
  simp only[e]
theorem dr.one (k:dr enc sz w v l):v.oneCell'=true:=by
 obtain⟨a,h,_⟩:=k.form
 rw[h];rfl
theorem cH.one (k:cH enc sz T w N v l):v.oneCell'=true:=k.sl.one
theorem dr.cells (k:dr enc sz w v l):v.cells= #[v]:=by
 obtain⟨a,h,_⟩:=k.form
 rw[h];rfl
end
theorem jh (hx:dm f x=v) (hy:dm f y=v2) (hT:fj P t=some (e,sz,by_)) (hz:(d4 P e).map (λz=>z.cells.size)=some sz) (hsz:0<sz)
  (ho:w.ownsRow N e sz v n xs) (hs:Sl w sz v2 m ys) (h10:ys.all Value.oneCell'=true) (hN:N≤w.heap.size) (hb:(n+m)*by_≤140737488355328) (hm:n+m≤9223372036854775807)
  (hK:∀v' w',w.grownBy w' v.ownBlock→w'.ownsRow N e sz v' (n+m) (xs++ys)→(v'.ownBlock=v.ownBlock∨v'.ownBlock=some w.heap.size)→K v' w'):Yd P ⟨d, .call ⟨.builtin .append,#[x,y],#[t,t]⟩,ty,ps,af,g⟩ f w K:=by
 have h1:∀u∈ys,u.oneCell'=true:=λu h=>aa1.1 h10 u h
 obtain⟨z,hz,hzs⟩:=an.1 hz
 unfold d4 at hz
 obtain⟨i,hi,hzz⟩:=we.1 hz
 unfold fj at hT
 cases hun:P.underlying t with
 |none=>simp[hun]at hT
 |some desc=>
  cases desc<;>simp[hun]at hT
  rename_i e'
  obtain⟨i',hi',rfl,h3,rfl⟩:=hT
  obtain rfl:i'=i:=by rw[hi]at hi';exact(aaK hi').symm
  by_cases hm0:m=0
  ·subst hm0
   have hys:ys=[]:=ab4 (by simpa using hs.len)
   subst hys
   have hrun:(Builtin.append_ #[t,t] ty #[v,v2]).run P w= .ok v w:=by
    obtain⟨a2,hv2,_⟩:=hs.form
    generalize jn v2=c2 at hv2
    subst hv2
    rcases ho.2 with ⟨rfl,rfl⟩|⟨q,cap,cur,rfl,hg,hh,hnc,hcm,hcs,ht⟩
    ·simp[Builtin.append_,run_underlying hun,sizeOf,typeInfo,hi,Builtin.lenOf,Builtin.firstCells]
     cases a2<;>simp[loadCells,loadCellsFrom]
    ·cases a2<;>simp[Builtin.append_,run_underlying hun,sizeOf,typeInfo,hi,Builtin.lenOf,Builtin.firstCells,loadCells,loadCellsFrom,hnc,storeCells]
   refine .val (v:=v) (w':=w) ?_ (hK v w (World.grownBy.refl w _) (by simpa using ho) (.inl rfl))
   simp[execOp,resolve,invoke,builtin,hx,hy,hrun]
  ·have hv2:=hs.eqn (by omega)
   have hcell:=hs.cell
   generalize Bx v2=B at*
   generalize Gk v2=O at*
   generalize jn v2=C at*
   subst hv2
   obtain⟨v',w',hr,h4,h5,_,h6⟩:=run_append_own_at (P:=P) (w:=w) N t ty e' i' z sz i'.bytes hun hi hzz h3 rfl hzs hsz v n xs ho ⟨B,O,none⟩ m C ys hs.len
    (λj u hu=>by rw[iw];exact hcell j u hu) h1 (by simpa [maxLen] using hm) hb hN
   refine .val (v:=v') (w':=w') ?_ (hK v' w' h5 h4 h6)
   simp[execOp,resolve,invoke,builtin,hx,hy,hr]
end
structure x7 (r1 r2:Option Nat) (w w':World):Prop where
 os:w'.os=w.os
 tape:w'.tape=w.tape
 output:w'.output=w.output
 size:w.heap.size≤w'.heap.size
 block:∀k,k<w.heap.size→some k≠r1→some k≠r2→w'.heap[k]? =w.heap[k]?
section
variable {r1 r2:Option Nat} {a w w':World}
theorem x7.refl:x7 r1 r2 w w:=⟨rfl,rfl,rfl,am _,λ_ _ _ _=>rfl⟩
theorem x7.ext (h:x7 r1 r2 a w) (k:dA w w'):x7 r1 r2 a w':=
 ⟨(Below.os k).trans h.os,(Below.tape k).trans h.tape,(Below.output k).trans h.output,go h.size (Below.size k),λj hj q1 q2=>(Below.block k j (ab0 hj h.size)).trans (h.block j hj q1 q2)⟩
theorem x7.one (h:x7 r1 r2 a w) (k:w.grownBy w' r1):x7 r1 r2 a w':=
 ⟨k.os.trans h.os,k.tape.trans h.tape,k.output.trans h.output,go h.size k.size,λj hj q1 q2=>(k.block j (ab0 hj h.size) q1).trans (h.block j hj q1 q2)⟩
theorem x7.two (h:x7 r1 r2 a w) (k:w.grownBy w' r2):x7 r1 r2 a w':=
 ⟨k.os.trans h.os,k.tape.trans h.tape,k.output.trans h.output,go h.size k.size,λj hj q1 q2=>(k.block j (ab0 hj h.size) q2).trans (h.block j hj q1 q2)⟩
theorem adU (k:At w b c T) (h:x7 r1 r2 w w') (n1:some b≠r1) (n2:some b≠r2):At w' b c T:=by
 unfold At at*
 rw[h.block b (gX k) n1 n2]
 exact k
theorem Ci (h:Go.RowKit.Below N a w) (k:x7 r1 r2 w w') (hN:N≤a.heap.size) (h1:∀j,r1=some j→N≤j) (h2:∀j,r2=some j→N≤j):Go.RowKit.Below N a w':=
 ⟨k.os.trans h.os,k.tape.trans h.tape,k.output.trans h.output,go h.size k.size,λj hj=>(k.block j (by have:=h.size;omega) (λe=>by have:=h1 j e.symm;omega) (λe=>by have:=h2 j e.symm;omega)).trans (h.block j hj)⟩
end
end
section
def yv (s:Nat) (n:Int):Bool:=decide (0≤n)&&(decide (n≤8)&&dW s (fk n.toNat))
theorem BE (h:∀p,p<256→s.testBit p=s'.testBit p) (h2:∀p,p<256→t.testBit p=t'.testBit p):dW s t=dW s' t':=by
 rw[acb,dJ,dJ]
 grind
theorem xf {s:Nat} {n:Int} (h:n≤8):dW s (UD (nU (2^n.toNat)))=dW s (fk n.toNat):=
 BE (λ_ _=>rfl) (FD (fm h))
def tV (m v s:Nat) (n:Int):Bool:=dS m v n&&dW (rj m v n.toNat) s
theorem dB:dS m v n=true↔0≤n∧n≤8∧m<2^n.toNat∧v &&& m=v:=by
 unfold dS
 simp only[so,decide_eq_true_eq,Hd]
theorem w7 (h:tV m v s n=true):dS m v n=true:=(so _ _▸h:_∧_).1
theorem Vp (h:dS m v n=true):dW (rj m v n.toNat) s=tV m v s n:=by
 rw[tV,h];rfl
theorem ZN (h:dS m v n=false):false=tV m v s n:=by
 rw[tV,h];rfl
theorem fH {m i:Nat} (hi:i<8) (j:Nat):(lK m (i:Int)).testBit j=(m.testBit j&&decide (j≠i)):=by
 unfold lK
 rw[if_pos (by omega),ee,my,ab5]
 grind
theorem zR (m:Nat) (i:Int):lK m i≤m:=by
 unfold lK
 split
 ·exact sN _ _
 all_goals omega
abbrev woV (m v:Nat) (i:Int):Value:= .agg #[.int .u8 ((lK m i:Nat):Int), .int .u8 ((v &&& lK m i:Nat):Int)]
def lF (m v s:Nat) (n:Int) (i:Nat):Bool:=m.testBit i&&tV (lK m (i:Int)) (v &&& lK m (i:Int)) s n
def iL (m v s:Nat) (n:Int):Bool:=tV m v s n&&(List.range n.toNat).all λi=> !lF m v s n i
theorem gF:iL m v s n=true↔tV m v s n=true∧∀i,i<n.toNat→lF m v s n i=false:=by
 unfold iL
 grind
theorem qm:(((m/2^i &&& 1:Nat):Int)=1)↔m.testBit i=true:=by
 grind
def fc (s:Nat) (n:Int) (c:Cb):Nat→Cb
 |0=>c
 |i+1=>
  let d:=fc s n c i
  if tV (lK d.m (i:Int)) (d.v &&& lK d.m (i:Int)) s n=true then ⟨lK d.m (i:Int),d.v &&& lK d.m (i:Int)⟩else d
theorem GI (h:tV (lK (fc s n c i).m (i:Int)) ((fc s n c i).v &&& lK (fc s n c i).m (i:Int)) s n=true):
  fc s n c (i+1)=⟨lK (fc s n c i).m (i:Int),(fc s n c i).v &&& lK (fc s n c i).m (i:Int)⟩:=by
 simp only[fc];rw[if_pos h]
theorem G9 (h:tV (lK (fc s n c i).m (i:Int)) ((fc s n c i).v &&& lK (fc s n c i).m (i:Int)) s n=false):fc s n c (i+1)=fc s n c i:=by
 simp only[fc];rw[if_neg (by rw[h];decide)]
theorem Co (h:c.m<256∧c.v<256):∀i,(fc s n c i).m<256∧(fc s n c i).v<256
 |0=>h
 |i+1=>by
  have ih:=Co (s:=s) (n:=n) h i
  simp only[fc]
  split
  ·exact⟨ab8 (zR _ _) ih.1,ab8 Nat.and_le_left ih.2⟩
  ·exact ih
def lD (s:Nat) (n:Int) (c:Cb):Cb:=fc s n c n.toNat
def z7 (a b:Cb):Bool:=decide (a.m<b.m)||decide (a.m=b.m)&&decide (a.v<b.v)
def zz (c:Cb):Nat:=c.m*256+c.v
def kH (s:Nat) (n:Int) (m:Nat):Nat→List Cb
 |0=>[]
 |k+1=>if iL m k s n=true then kH s n m k++[⟨m,k⟩]else kH s n m k
def mE (s:Nat) (n:Int):Nat→List Cb
 |0=>[]
 |k+1=>mE s n k++kH s n k (2^n.toNat)
def eE (s:Nat) (n:Int):List Cb:=mE s n (2^n.toNat)
theorem xu (s:Nat) (n:Int) (m:Nat):∀k,(kH s n m k).length≤k
 |0=>by simp[kH]
 |k+1=>by
  have:=xu s n m k
  simp only[kH]
  split<;>simp<;>omega
theorem xH (s:Nat) (n:Int):∀k,(mE s n k).length≤k*2^n.toNat
 |0=>by simp[mE]
 |k+1=>by
  have:=xH s n k
  have h2:=xu s n k (2^n.toNat)
  simp only[mE,An,act,abJ]
  omega
theorem o6:∀k,c∈kH s n m k↔c.m=m∧c.v<k∧iL c.m c.v s n=true
 |0=>by simp[kH]
 |k+1=>by
  have ih:=o6 (s:=s) (m:=m) (n:=n) (c:=c) k
  obtain⟨cm,cv⟩:=c
  simp only[kH]
  split
  ·rename_i h
   simp only[aaQ,aaG,ih,Cb.mk.injEq]
   constructor
   ·rintro(⟨h1,h2,h3⟩|⟨rfl,rfl⟩)
    ·exact⟨h1,Nat.lt_succ_of_lt h2,h3⟩
    ·exact⟨rfl,acY _,h⟩
   ·rintro⟨h1,h2,h3⟩
    rcases aaU.1 h2 with h2|h2
    ·exact .inl ⟨h1,h2,h3⟩
    ·exact .inr ⟨h1,h2⟩
  ·rename_i h
   rw[ih]
   constructor
   ·rintro⟨h1,h2,h3⟩;exact⟨h1,Nat.lt_succ_of_lt h2,h3⟩
   ·rintro⟨h1,h2,h3⟩
    refine⟨h1,?_,h3⟩
    rcases aaU.1 h2 with h2|h2
    ·exact h2
    ·subst h1;subst h2;exact absurd h3 h
theorem ry:∀k,c∈mE s n k↔c.m<k∧c.v<2^n.toNat∧iL c.m c.v s n=true
 |0=>by simp[mE]
 |k+1=>by
  simp only[mE,aaQ,ry k,o6]
  constructor
  ·rintro(⟨h1,h2,h3⟩|⟨h1,h2,h3⟩)
   ·exact⟨by omega,h2,h3⟩
   ·exact⟨by omega,h2,h3⟩
  ·rintro⟨h1,h2,h3⟩
   rcases aaU.1 h1 with h1|h1
   ·exact .inl ⟨h1,h2,h3⟩
   ·exact .inr ⟨h1,h2,h3⟩
theorem nR (h:dS m v n=true):m<2^n.toNat∧v<2^n.toNat:=by
 grind [dB,Nat.and_le_right]
theorem mN (h:iL m v s n=true):dS m v n=true:=by grind [w7,gF]
theorem oP:c∈eE s n↔iL c.m c.v s n=true:=by
 grind [eE,ry,nR,mN]
def jq (l:List Cb):Prop:=l.Pairwise λa b=>z7 a b=true
theorem lS:z7 a b=true↔a.m<b.m∨a.m=b.m∧a.v<b.v:=by
 simp[z7]
theorem BJ (h:z7 a b=true) (k:z7 b c=true):z7 a c=true:=by
 rw[lS]at*
 omega
theorem uy (a:Cb):z7 a a=false:=by
 refine aaT.2 λh=> ?_
 rw[lS]at h
 omega
theorem Mx (h:z7 a b=false) (hne:a≠b):z7 b a=true:=by
 rw[lS]
 have h1:¬(a.m<b.m∨a.m=b.m∧a.v<b.v):=λk=>by rw[lS.2 k]at h;cases h
 have h2:¬(a.m=b.m∧a.v=b.v):=λ⟨k,k2⟩=>hne (by cases a;cases b;simp_all)
 omega
theorem sq (s:Nat) (n:Int) (m:Nat):∀k,jq (kH s n m k)
 |0=>by simp[kH,jq]
 |k+1=>by
  have ih:=sq s n m k
  simp only[kH]
  split
  ·refine List.pairwise_append.2 ⟨ih,by simp,λa ha b hb=> ?_⟩
   simp at hb
   subst hb
   have:=(o6 k).1 ha
   rw[lS]
   exact .inr ⟨this.1,this.2.1⟩
  ·exact ih
theorem rr (s:Nat) (n:Int):∀k,jq (mE s n k)
 |0=>by simp[mE,jq]
 |k+1=>by
  refine List.pairwise_append.2 ⟨rr s n k,sq s n k _,λa ha b hb=> ?_⟩
  have h1:=(ry k).1 ha
  have h2:=(o6 _).1 hb
  rw[lS]
  exact .inl (by omega)
theorem sk (s:Nat) (n:Int):jq (eE s n):=rr s n _
theorem AO:∀{l l':List Cb},jq l→jq l'→(∀c,c∈l↔c∈l')→l=l'
 |[],[],_,_,_=>rfl
 |[],b::r,_,_,h=>by have:=(h b).2 fF;simp at this
 |a::l,[],_,_,h=>by have:=(h a).1 fF;simp at this
 |a::l,b::r,h1,h2,h=>by
  obtain⟨p1,q1⟩:=adg.1 h1
  obtain⟨p2,q2⟩:=adg.1 h2
  have hab:a=b:=by
   refine Decidable.byContradiction λhne=> ?_
   have ha:a∈r:=((ab9.1 ((h a).1 fF)).resolve_left hne)
   have hb:b∈l:=((ab9.1 ((h b).2 fF)).resolve_left (λe=>hne e.symm))
   have:=BJ (p1 b hb) (p2 a ha)
   rw[uy]at this
   cases this
  subst hab
  congr 1
  refine AO q1 q2 λc=> ?_
  constructor
  ·intro hc
   rcases ab9.1 ((h c).1 (by simp[hc]))with e|hc'
   ·subst e;have:=p1 c hc;rw[uy]at this;cases this
   ·exact hc'
  ·intro hc
   rcases ab9.1 ((h c).2 (by simp[hc]))with e|hc'
   ·subst e;have:=p2 c hc;rw[uy]at this;cases this
   ·exact hc'
def oG (l:List Cb) (c:Cb):Nat→Nat
 |0=>0
 |i+1=>if z7 (l.getD i ⟨0,0⟩) c=true then i+1 else oG l c i
def DF (l:List Cb) (c:Cb):List Cb:=l.take (oG l c l.length)++c::l.drop (oG l c l.length)
theorem KG (l:List Cb) (c:Cb):∀k,oG l c k≤k
 |0=>by simp[oG]
 |k+1=>by
  have:=KG l c k
  simp only[oG]
  split<;>omega
theorem NA:d∈DF l c↔d=c∨d∈l:=by
 grind [DF,List.take_append_drop,oG]
theorem Ch (l:List Cb) (c:Cb):∀k,(∀j,oG l c k≤j→j<k→z7 (l.getD j ⟨0,0⟩) c=false)∧(oG l c k=0∨z7 (l.getD (oG l c k-1) ⟨0,0⟩) c=true)
 |0=>by simp[oG]
 |k+1=>by
  have ih:=Ch l c k
  simp only[oG]
  split
  ·rename_i h
   exact⟨λj h1 h2=>by omega, .inr (by simpa using h)⟩
  ·rename_i h
   refine⟨λj h1 h2=> ?_,ih.2⟩
   rcases aaU.1 h2 with h2|rfl
   ·exact ih.1 j h1 h2
   ·exact aaT.2 h
theorem F1 (h:jq l) (hc:c∉l):jq (DF l c):=by
 obtain⟨h1,h2⟩:=Ch l c l.length
 have hp:=KG l c l.length
 have hg:=acJ.1 h
 unfold DF
 generalize oG l c l.length=k at*
 have hlow:∀a∈l.take k,z7 a c=true:=λa ha=>by
  obtain⟨i,hi,rfl⟩:=List.mem_iff_getElem.1 ha
  rw[aaX]at hi
  rw[List.getElem_take]
  rcases h2 with h2|h2
  ·omega
  ·have hk:l.getD (k-1) ⟨0,0⟩=l[k-1]'(by omega):=by simp[show k-1<l.length by omega]
   rw[hk]at h2
   by_cases e:i=k-1
   ·subst e;exact h2
   ·exact BJ (hg i (k-1) (by omega) (by omega) (by omega)) h2
 have hhigh:∀a∈l.drop k,z7 c a=true:=λa ha=>by
  obtain⟨i,hi,rfl⟩:=List.mem_iff_getElem.1 ha
  rw[aci]at hi
  rw[List.getElem_drop]
  have h3:=h1 (k+i) (by omega) (by omega)
  have hk:l.getD (k+i) ⟨0,0⟩=l[k+i]'(by omega):=by simp[show k+i<l.length by omega]
  rw[hk]at h3
  exact Mx h3 (λe=>hc (e▸List.getElem_mem _))
 grind [jq,List.take_append_drop,List.pairwise_cons]
theorem NM (ha:a.v<256) (hb:b.v<256) (h:z7 a b=true):zz a<zz b:=by
 grind [lS,zz]
theorem A4:∀(l:List Cb) (B:Nat),jq l→(∀c∈l,c.v<256)→(∀c∈l,B≤zz c∧zz c<65536)→l.length+B≤65536∨l=[]
 |[],_,_,_,_=> .inr rfl
 |a::l,B,h,hv,hb=>by
  obtain⟨p,q⟩:=adg.1 h
  have h1:=hb a fF
  rcases A4 l (zz a+1) q (λc hc=>hv c (by simp[hc])) (λc hc=>⟨NM (hv a fF) (hv c (by simp[hc])) (p c hc),(hb c (by simp[hc])).2⟩)with h2|rfl
  ·left;simp;omega
  ·left;simp;omega
theorem CU {l:List Cb} (h:jq l) (hm:∀c∈l,c.m<256∧c.v<256):l.length≤65536:=by
 rcases A4 l 0 h (λc hc=>(hm c hc).2) (λc hc=>⟨me _,by have:=hm c hc;unfold zz;omega⟩)with h|rfl
 ·omega
 ·simp
def jF (a b:Cb):Bool:=decide (andNot a.m b.m=0)&&decide ((a.v ^^^ b.v) &&& a.m=0)
theorem Ts {m u k:Nat} (h:((k &&& m:Nat):Int)=(u:Int)):o7 m u (k+1)=mT (o7 m u k) (k:Int):=if_pos (by omega)
theorem Rf {m u k:Nat} (h:¬((k &&& m:Nat):Int)=(u:Int)):o7 m u (k+1)=o7 m u k:=if_neg (by omega)
theorem Qk {m u:Nat} {n:Int} (h0:0≤n) (h8:n≤8) (h:(m:Int)<((1*2^n.toNat:Nat):Int)):decide (((andNot u m:Nat):Int)=0)=dS m u n:=by
 unfold dS
 grind
theorem Qn {m u:Nat} {n:Int} (h:¬(m:Int)<((1*2^n.toNat:Nat):Int)):false=dS m u n:=by
 grind [dS,decide_eq_false]
end
section
def kX (b:Nat):Bool:=b==45||b==48||b==49
def A8 (s:List UInt8):Nat→Nat
 |0=>0
 |k+1=>if gg s k=48∨gg s k=49 then A8 s k ||| 1*2^k else A8 s k
def Ap (s:List UInt8):Nat→Nat
 |0=>0
 |k+1=>if gg s k=49 then Ap s k ||| 1*2^k else Ap s k
def ph (s:List UInt8):Cb:=⟨A8 s s.length,Ap s s.length⟩
def jw (s:List UInt8):Bool:=decide (s.length≤8)&&(List.range s.length).all λi=>kX (gg s i)
section
variable {s:List UInt8} {i r n:Nat}
theorem y5 (s:List UInt8):∀k,A8 s k<2^k
 |0=>by simp[A8]
 |k+1=>by
  have h:=y5 s k
  have e:2^(k+1)=2*2^k:=by rw[acF];omega
  rw[A8]
  split
  ·exact Nat.or_lt_two_pow (by omega) (by rw[abJ];exact ac3 (by decide) (acY k))
  ·omega
theorem DT (s:List UInt8):∀k,Ap s k<2^k
 |0=>by simp[Ap]
 |k+1=>by
  have h:=DT s k
  have e:2^(k+1)=2*2^k:=by rw[acF];omega
  rw[Ap]
  split
  ·exact Nat.or_lt_two_pow (by omega) (by rw[abJ];exact ac3 (by decide) (acY k))
  ·omega
theorem US (h:gg s i=48∨gg s i=49):A8 s i ||| 1*2^i=A8 s (i+1):=(if_pos h).symm
theorem YW (h:¬(gg s i=48∨gg s i=49)):A8 s i=A8 s (i+1):=(if_neg h).symm
theorem Yn (h:gg s i=49):Ap s i ||| 1*2^i=Ap s (i+1):=(if_pos h).symm
theorem UM (h:¬gg s i=49):Ap s i=Ap s (i+1):=(if_neg h).symm
theorem CZ (h8:s.length≤8) (h:∀q,q<s.length→kX (gg s q)=true):jw s=true:=by
 unfold jw
 grind
theorem K1 (h:¬s.length≤8):jw s=false:=by unfold jw;rw[decide_eq_false h,acs]
theorem Pz (hi:i<s.length) (h:kX (gg s i)=false):jw s=false:=by
 unfold jw
 grind
theorem J5 (h:(gg s i<128∧r=gg s i∧n=i+1)∨(128≤gg s i∧128≤r∧r≤2147483647)) (h1:¬(r:Int)=49) (h0:¬(r:Int)=48) (hd:¬(r:Int)=45):kX (gg s i)=false:=by
 grind [kX,gg]
theorem Cx (h:gg s i=49∨gg s i=48∨gg s i=45):kX (gg s i)=true:=by rcases h with h|h|h<;>rw[h]<;>rfl
end
structure CV where
 c:Cb
 o:Value
structure Ln where
 c:Cb
 os:List Int
 deriving DecidableEq
structure Tb where
 kind:Int
 ni:Int
 no:Int
 ls:List Ln
 deriving DecidableEq
def il (x:CV):List Value:=[.int .u8 (x.c.m:Int), .int .u8 (x.c.v:Int),x.o]
theorem kd (x:CV):(il x).length=3:=rfl
abbrev n6:CV:=⟨⟨0,0⟩,undef⟩
abbrev jH:Ln:=⟨⟨0,0⟩,[]⟩
structure qo (w:World) (vs:List CV) (ls:List Ln):Prop where
 len:vs.length=ls.length
 c:∀i,i<ls.length→(vs.getD i n6).c=(ls.getD i jH).c
 o:∀i,i<ls.length→dr dX 1 w (vs.getD i n6).o (ls.getD i jH).os
theorem qo.below {ls:List Ln} (h:Go.RowKit.Below w.heap.size w W) (k:qo w vs ls):qo W vs ls:=⟨k.len,k.c,λi hi=>Below.slT h (k.o i hi)⟩
theorem pm (h:v.oneCell'=true):(#[Value.int .u8 a, .int .u8 b,v]:Array Value).toList.all Value.oneCell'=true:=by
 simp only[acL,adj,h]
 rfl
theorem XT (h:(!b)=false):b=true:=by grind
theorem V1 (h:(!b)=true):b=false:=by grind
def E0 (no:Int) (l:Ln):Bool:=decide ((l.os.length:Int)=no)&&l.os.all λx=>decide (0≤x)&&decide (x<3)
def pK (ni no:Int) (l:Ln):Bool:=dS l.c.m l.c.v ni&&E0 no l
def fy (T:Tb):Bool:=decide (0≤T.kind∧T.kind≤3∧0≤T.ni∧T.ni≤8∧1≤T.no∧T.no≤4∧T.ls.length≤64)&&T.ls.all (pK T.ni T.no)
section
variable {T:Tb} {k j:Nat}
theorem nY (h:¬(0≤T.kind∧T.kind≤3∧0≤T.ni∧T.ni≤8∧1≤T.no∧T.no≤4∧T.ls.length≤64)):Value.bool false= .bool (fy T):=by
 unfold fy;rw[decide_eq_false h,acs]
theorem w8 {α:Type} {l:List α} {k:Nat} {d:α} (h:k<l.length):l.getD k d∈l:=by
 grind
theorem uT (hk:k<T.ls.length) (h:pK T.ni T.no (T.ls.getD k jH)=false):Value.bool false= .bool (fy T):=by
 unfold fy
 grind
theorem FR {α:Type} {l:List α} {d:α} {p:α→Bool} (h:∀q,q<l.length→p (l.getD q d)=true):l.all p=true:=by
 grind [List.all_eq_true,List.getElem_of_mem,List.getElem?_eq_getElem]
theorem P1 (h:0≤T.kind∧T.kind≤3∧0≤T.ni∧T.ni≤8∧1≤T.no∧T.no≤4∧T.ls.length≤64) (hq:∀q,q<T.ls.length→pK T.ni T.no (T.ls.getD q jH)=true):Value.bool true= .bool (fy T):=by
 unfold fy;rw[decide_eq_true h,ack,FR hq]
theorem aa9 (h:dS l.c.m l.c.v ni=false):pK ni no l=false:=by unfold pK;rw[h,acs]
theorem aa8 (h:¬(l.os.length:Int)=no):pK ni no l=false:=by unfold pK E0;rw[decide_eq_false h,acs,acM]
theorem Ym {ni no:Int} {l:Ln} (hj:j<l.os.length) (h:¬(0≤l.os.getD j 0∧l.os.getD j 0<3)):pK ni no l=false:=by
 unfold pK E0
 have:(l.os.all λx=>decide (0≤x)&&decide (x<3))=false:=aaT.2 λq=>h (by
  have:=aa1.1 q _ (w8 (d:=0) hj)
  simpa using this)
 grind
theorem abD {ni no:Int} {l:Ln} (h1:dS l.c.m l.c.v ni=true) (h2:(l.os.length:Int)=no) (h:∀q,q<l.os.length→0≤l.os.getD q 0∧l.os.getD q 0<3):pK ni no l=true:=by
 unfold pK E0
 rw[h1,decide_eq_true h2,ack,ack]
 exact FR (d:=0) λq hq=>by simpa using h q hq
end
theorem YY (h:n<10):kY [((48+n%10:Nat):Int)]=iv n:=by
 unfold iv
 rw[if_pos h,ada h]
 rfl
theorem Yj (h:¬n<10):kY [((48+n/10:Nat):Int)]++kY [((48+n%10:Nat):Int)]=iv n:=by
 unfold iv
 rw[if_neg h]
 rfl
end
section
open Go Go.RowKit Go.ChangeShapes Go.WideShapes Go.ChangeAt Go.Joins Go.Deep
instance:Inhabited CV:=⟨⟨⟨0,0⟩,undef⟩⟩
section
variable {H:Type} {encH:TypeId×Value→H} {P:Program} {w:World} {base:Nat} {held:Bool} {r:Reach} {b0:Nat} {t e:TypeId}
theorem open_str (ht:P.underlying t=some .string) (hv:Value.okWide P w r b0 t v) (h:DataW.Trod encH P w base sp held t v d ps):∃l:List UInt8,v=ea l∧l.length≤maxLen:=by
 obtain⟨s,rfl⟩:=okWide_string ht hv
 obtain⟨fuel,hf⟩:=h
 obtain⟨s',e,_,hs⟩:=DataW.trod_string ht hf
 simp[Value.cells]at e
 subst e
 exact⟨s.data.toList,zZ s,by rw[adt];exact hs⟩
end
theorem LF {H:Type} {enc:TypeId×Value→H} {f:FuncId} {apart fresh handsOn vz:Bool}
  (own:ownKnob C.prog.godebug=none) (started:os.Started) (noInit:C.prog.inits.idxOf? f=none) (hfn:C.prog.funcs[f]? =some fn)
  (witness:∃(w:World) (tape:Tape) (i:Input),w.os=os∧(w.forCall tape i).Shaped C.prog∧i.vars=[]∧Input.okWide C.prog (w.forCall tape i) .any w.heap.size f i∧
   ((s.pre enc C.prog fn conds apart (w.forCall tape i).memory i.args∧laidMetH C.prog laid (w.forCall tape i).memory)∧sizedMet enc C.prog fn (OpenSpec.ofChange s) apart (w.forCall tape i).memory i.args)∧a.holds C.prog (lone (Frame.enter C.prog f i.args .normal) [] (w.forCall tape i)))
  (contract:∀(W:World) (base:Nat) (args:Array Value) (ds gs:List (DataW H)) (before:List MemPlace),
   (∀(j:Nat) t v,fn.params[j]? =some t→args[j]? =some v→Value.okWide C.prog W .any base t v)→
   DataW.Whole enc C.prog fn.params.toList s.vars apart W args.toList ds gs before→laidMetH C.prog laid W→W.ShapedOpen C.prog→
   Calls C.prog f args W λe W'=>∃v,e= .returned v∧s.post enc C.prog fn apart fresh handsOn vz W args v W'):
  ReturnsInHanded a C os f .any (λw args=>(s.pre enc C.prog fn conds apart w args∧laidMetH C.prog laid w)∧sizedMet enc C.prog fn (OpenSpec.ofChange s) apart w args) (s.post enc C.prog fn apart fresh handsOn vz):=by
 refine returnsInHanded_of_calls own started noInit witness ?_
 intro w tape i _ hsh _ hok hpre _
 obtain⟨_,_,_,fn',hfn',_,_,_,_,hval⟩:=hok
 have e:fn'=fn:=aaK (hfn'.symm.trans hfn)
 subst e
 obtain⟨⟨⟨ds,gs,before,hw,_⟩,hx⟩,_⟩:=hpre
 have hw':=DataW.Whole.of_heap (w':=w.forCall tape i) pE hw
 refine(contract (w.forCall tape i) w.heap.size i.args ds gs before hval hw' (laidMetH.of_heap pE hx) hsh).mono λe W' ⟨v,he,hp⟩=> ?_
 subst he
 exact ChangeSpec.post_blind hp
end
end Go.Proofs.YtedeonkjellcpaaGreatDoor
