/- Families as diagrams: nodes, the members of an id, what is right, and that a family has one id. No program in it. The memory of an arena, and what a deed with it leaves as it was; outcomes of deeds. No program in it. What deeds with two families come to: item by item; how many nodes they may need. N -/
import Derived.Test.YtedeonkjellcpaaGreatDoorCover
namespace Go.Proofs.YtedeonkjellcpaaGreatDoor
set_option linter.unusedVariables false
set_option linter.unusedSimpArgs false
section
open Go Go.RowKit
structure Nd where
  l:Nat
  lo:Nat
  hi:Nat
  deriving DecidableEq,Repr
def n7:Nd:=⟨0,0,0⟩
def Vt (n:Nd):List Value:=[.int .i64 (n.l:Int), .int .i64 (n.lo:Int), .int .i64 (n.hi:Int)]
theorem pn (n:Nd):(Vt n).length=3:=rfl
def vD (n:Nd):Value:= .agg #[.int .i64 (n.l:Int), .int .i64 (n.lo:Int), .int .i64 (n.hi:Int)]
theorem E6 (a b:Nd) (h:vD a=vD b):a=b:=by
  cases a;cases b
  simp only[vD,Value.agg.injEq,Array.mk.injEq,List.cons.injEq,Value.int.injEq,true_and,and_true]at h
  obtain⟨h1,h2,h3⟩:=h
  simp only[Nd.mk.injEq]
  omega
def BN (t:List (List Nat)) (n:Nd):List (List Nat):=t++[t.getD n.lo []++(t.getD n.hi []).map λx=>x+2^n.l]
def Ws (ns:List Nd):List (List Nat):=ns.foldl BN [[],[0]]
def dr (ns:List Nd) (id:Nat):List Nat:=(Ws ns).getD id []
theorem F3 (ns:List Nd) (n:Nd):Ws (ns++[n])=BN (Ws ns) n:=by
  unfold Ws;rw[List.foldl_append];rfl
theorem BF:∀(ns:List Nd) (t:List (List Nat)),(ns.foldl BN t).length=t.length+ns.length
  |[],t=>rfl
  |n::ns,t=>by
    rw[abO,BF ns,BN,An,aaC,aak];omega
theorem Ds (ns:List Nd):(Ws ns).length=ns.length+2:=by
  unfold Ws;rw[BF];simp;omega
theorem Ax {ns:List Nd} {n:Nd} {id:Nat} (h:id<ns.length+2):dr (ns++[n]) id=dr ns id:=by
  unfold dr
  rw[F3,BN,me,aaK (by rw[Ds];exact h),me]
theorem sG (ns:List Nd) (n:Nd):dr (ns++[n]) (ns.length+2)=dr ns n.lo++(dr ns n.hi).map λx=>x+2^n.l:=by
  unfold dr
  rw[F3,BN,me,aaI (by rw[Ds];exact am _),Ds,Nat.sub_self]
  rfl
theorem ub {id:Nat}:∀(r ns:List Nd),id<ns.length+2→dr (ns++r) id=dr ns id
  |[],ns,_=>by rw[aaT]
  |n::r,ns,h=>by
    rw[show ns++n::r=(ns++[n])++r by simp,ub r (ns++[n]) iq,Ax h]
theorem gM {ns ns':List Nd} {id:Nat} (hp:ns<+:ns') (h:id<ns.length+2):dr ns' id=dr ns id:=by
  obtain⟨r,rfl⟩:=hp
  exact ub r ns h
theorem ny (ns:List Nd):dr ns 0=[]:=ub ns [] (by decide)
theorem pT (ns:List Nd):dr ns 1=[0]:=ub ns [] (by decide)
def dQ (ns:List Nd) (id:Nat):Nat:=if id<2 then 24 else (ns.getD (id-2) n7).l
theorem l6 {ns:List Nd} {id:Nat} (h:id<2):dQ ns id=24:=if_pos h
theorem kg {ns:List Nd} (i:Nat):dQ ns (i+2)=(ns.getD i n7).l:=if_neg (by omega)
theorem uK {α:Type} {a b:List α} {d:α} {i:Nat} (hp:a<+:b) (h:i<a.length):b.getD i d=a.getD i d:=by
  obtain⟨r,rfl⟩:=hp
  rw[me,aaK h,me]
theorem gU {ns ns':List Nd} {id:Nat} (hp:ns<+:ns') (h:id<ns.length+2):dQ ns' id=dQ ns id:=by
  unfold dQ
  by_cases h2:id<2
  · rw[if_pos h2,if_pos h2]
  · rw[if_neg h2,if_neg h2,uK hp (by omega)]
def YV (ns:List Nd) (i:Nat) (n:Nd):Prop:=n.lo<i+2∧n.hi<i+2∧n.hi≠0∧n.l<dQ ns n.lo∧n.l<dQ ns n.hi∧n.l<24
structure Wf (ns:List Nd):Prop where
  nd:ns.Nodup
  ok:∀i,i<ns.length→YV ns i (ns.getD i n7)
theorem Wf.nil:Wf []:=⟨List.nodup_nil,λi h=>by cases h⟩
theorem Wf.snoc {ns:List Nd} {n:Nd} (h:Wf ns) (hn:n∉ns) (hlo:n.lo<ns.length+2) (hhi:n.hi<ns.length+2) (h0:n.hi≠0) (l1:n.l<dQ ns n.lo) (l2:n.l<dQ ns n.hi) (h24:n.l<24):Wf (ns++[n]):=by
  have hp:ns<+:ns++[n]:=List.prefix_append _ _
  refine⟨?_,λi hi=> ?_⟩
  · rw[List.nodup_append]
    exact⟨h.nd,by simp,λa ha b hb=>by simp at hb;subst hb;exact λe=>hn (e▸ha)⟩
  · rw[An,aaC]at hi
    by_cases e:i<ns.length
    · obtain⟨a1,a2,a3,a4,a5,a6⟩:=h.ok i e
      rw[uK hp e]
      exact⟨a1,a2,a3,by rw[gU hp (by omega)];exact a4,by rw[gU hp (by omega)];exact a5,a6⟩
    · obtain rfl:i=ns.length:=by omega
      have e2:(ns++[n]).getD ns.length n7=n:=by
        rw[me,aaI (am _),Nat.sub_self];rfl
      rw[e2]
      exact⟨hlo,hhi,h0,by rw[gU hp hlo];exact l1,by rw[gU hp hhi];exact l2,h24⟩
section
variable {ns:List Nd}
theorem jb (h:Wf ns) {i:Nat} (hi:i<ns.length):dr ns (i+2)=dr ns (ns.getD i n7).lo++(dr ns (ns.getD i n7).hi).map λx=>x+2^(ns.getD i n7).l:=by
  obtain⟨a1,a2,_⟩:=h.ok i hi
  have e:ns.take (i+1)=ns.take i++[ns.getD i n7]:=by
    rw[aaH,me,th hi];rfl
  have hl:(ns.take i).length=i:=by rw[aal];omega
  have hp:ns.take i<+:ns:=List.take_prefix _ _
  have hp1:ns.take (i+1)<+:ns:=List.take_prefix _ _
  rw[gM hp1 GW,e]
  have:=sG (ns.take i) (ns.getD i n7)
  rw[hl]at this
  rw[this,←gM hp (by rw[hl];exact a1),←gM hp (by rw[hl];exact a2)]
theorem fZ {x l:Nat} (h:2^(l+1)∣x):x.testBit l=false:=by
  obtain⟨k,rfl⟩:=h
  rw[aaL,show 2^(l+1)*k=2^l*(2*k)by rw[aa4,Nat.mul_assoc],Nat.mul_div_cancel_left _ (aaz l)]
  simp
theorem kA {x l:Nat} (h:2^(l+1)∣x):(x+2^l).testBit l=true:=by
  obtain⟨k,rfl⟩:=h
  rw[aaL,show 2^(l+1)*k+2^l=2^l*(2*k+1)by rw[aa4,Nat.mul_add,abB,Nat.mul_assoc],Nat.mul_div_cancel_left _ (aaz l)]
  simp
theorem g6 {a b x:Nat} (h:a<b) (hx:2^b∣x):2^(a+1)∣x:=Nat.dvd_trans (abM 2 h) hx
theorem GE {l x:Nat} (h:2^(l+1)∣x):2^l∣x+2^l:=Nat.dvd_add (Nat.dvd_trans (abM 2 (Nat.le_succ l)) h) (Nat.dvd_refl _)
theorem Wv {l x:Nat} (hl:l<24) (h:2^(l+1)∣x) (hx:x<2^24):x+2^l<2^24:=by
  obtain⟨k,rfl⟩:=h
  have e:2^24=2^(l+1)*2^(23-l):=by rw[←Nat.pow_add];congr 1;omega
  rw[e]at hx ⊢
  have hk:k<2^(23-l):=Nat.lt_of_mul_lt_mul_left hx
  have h1:2^(l+1)*(k+1)≤2^(l+1)*2^(23-l):=Nat.mul_le_mul_left _ hk
  have h2:0<2^l:=aaz l
  have h3:2^(l+1)=2^l*2:=aa4 ..
  rw[Nat.mul_add,abB]at h1
  omega
theorem e7 (h:Wf ns):∀id,id<ns.length+2→∀x,x∈dr ns id→2^dQ ns id∣x∧x<2^24:=by
  intro id
  induction id using Nat.strongRecOn with
  |_ id ih=>
    intro hid x hx
    match id,ih,hid,hx with
    |0,_,_,hx=>rw[ny]at hx;cases hx
    |1,_,_,hx=>
      rw[pT]at hx
      obtain rfl:x=0:=by simpa using hx
      exact⟨Nat.dvd_zero _,by decide⟩
    |i+2,ih,hid,hx=>
      have hi:i<ns.length:=by omega
      obtain⟨a1,a2,a3,a4,a5,a6⟩:=h.ok i hi
      rw[jb h hi,Z6,aag]at hx
      rw[kg]
      rcases hx with hx|⟨y,hy,rfl⟩
      · obtain⟨g1,g2⟩:=ih _ a1 (by omega) x hx
        exact⟨Nat.dvd_trans (abM 2 (Nat.le_of_lt a4)) g1,g2⟩
      · obtain⟨g1,g2⟩:=ih _ a2 (by omega) y hy
        exact⟨GE (g6 a5 g1),Wv a6 (g6 a5 g1) g2⟩
theorem iW (h:Wf ns):∀id,id<ns.length+2→id≠0→∃x,x∈dr ns id:=by
  intro id
  induction id using Nat.strongRecOn with
  |_ id ih=>
    intro hid h0
    match id,ih,hid,h0 with
    |0,_,_,h0=>exact absurd rfl h0
    |1,_,_,_=>exact⟨0,by rw[pT];exact aab ..⟩
    |i+2,ih,hid,_=>
      have hi:i<ns.length:=by omega
      obtain⟨a1,a2,a3,_⟩:=h.ok i hi
      obtain⟨y,hy⟩:=ih _ a2 (by omega) a3
      exact⟨_,by rw[jb h hi];exact List.mem_append_right _ (aag.2 ⟨y,hy,rfl⟩)⟩
theorem jH (h:Wf ns):∀id,id<ns.length+2→(dr ns id).Nodup:=by
  intro id
  induction id using Nat.strongRecOn with
  |_ id ih=>
    intro hid
    match id,ih,hid with
    |0,_,_=>rw[ny];exact List.nodup_nil
    |1,_,_=>rw[pT];simp
    |i+2,ih,hid=>
      have hi:i<ns.length:=by omega
      obtain⟨a1,a2,a3,a4,a5,a6⟩:=h.ok i hi
      rw[jb h hi,List.nodup_append]
      refine⟨ih _ a1 (by omega),?_,λx hx y hy e=> ?_⟩
      · exact List.pairwise_map.2 ((ih _ a2 (by omega)).imp (λhab e=>hab (by omega)))
      · obtain⟨z,hz,rfl⟩:=aag.1 hy
        have b1:=fZ (g6 a4 (e7 h _ (by omega) x hx).1)
        have b2:=kA (g6 a5 (e7 h _ (by omega) z hz).1)
        rw[e,b2]at b1
        cases b1
theorem nC (h:Wf ns) {id:Nat} (hid:id<ns.length+2):dQ ns id≤24:=by
  match id,hid with
  |0,_=>exact am _
  |1,_=>exact am _
  |i+2,hid=>rw[kg];exact Nat.le_of_lt (h.ok i (by omega)).2.2.2.2.2
theorem oM (h:Wf ns) {id:Nat} (hid:id<ns.length+2) (h2:2≤id):dQ ns id<24:=by
  obtain⟨i,rfl⟩:∃i,id=i+2:=⟨id-2,by omega⟩
  rw[kg];exact(h.ok i (by omega)).2.2.2.2.2
theorem NT (h:Wf ns):∀a,a<ns.length+2→∀b,b<ns.length+2→(∀x,x∈dr ns a↔x∈dr ns b)→a=b:=by
  have hne0:∀b,b<ns.length+2→(∀x,x∈dr ns 0↔x∈dr ns b)→0=b:=λb hb hs=>by
    by_cases e:b=0
    · exact e.symm
    · obtain⟨x,hx⟩:=iW h b hb e
      have:=(hs x).2 hx
      rw[ny]at this;cases this
  have hhi:∀i,i<ns.length→∃y,y∈dr ns (ns.getD i n7).hi∧y+2^(ns.getD i n7).l∈dr ns (i+2):=λi hi=>by
    obtain⟨a1,a2,a3,_⟩:=h.ok i hi
    obtain⟨y,hy⟩:=iW h _ (by omega) a3
    exact⟨y,hy,by rw[jb h hi];exact List.mem_append_right _ (aag.2 ⟨y,hy,rfl⟩)⟩
  have hne1:∀i,i<ns.length→¬∀x,x∈dr ns 1↔x∈dr ns (i+2):=λi hi hs=>by
    obtain⟨y,_,hy⟩:=hhi i hi
    have:=(hs _).2 hy
    rw[pT]at this
    have h2:=aaz (ns.getD i n7).l
    have h3:=Z8.1 this
    omega
  have hlev:∀i j,i<ns.length→j<ns.length→(ns.getD i n7).l<(ns.getD j n7).l→¬∀x,x∈dr ns (i+2)↔x∈dr ns (j+2):=λi j hi hj hl hs=>by
    obtain⟨y,hy,hm⟩:=hhi i hi
    have g1:=(e7 h _ (by omega) _ ((hs _).1 hm)).1
    rw[kg]at g1
    obtain⟨a1,a2,a3,a4,a5,a6⟩:=h.ok i hi
    have b1:=fZ (g6 hl g1)
    rw[kA (g6 a5 (e7 h _ (by omega) y hy).1)]at b1
    cases b1
  intro a
  induction a using Nat.strongRecOn with
  |_ a ih=>
    intro ha b hb hs
    match a,b,ih,ha,hb,hs with
    |0,b,_,_,hb,hs=>exact hne0 b hb hs
    |a+1,0,_,ha,_,hs=>exact(hne0 (a+1) ha (λx=>(hs x).symm)).symm
    |1,1,_,_,_,_=>rfl
    |1,j+2,_,_,hb,hs=>exact absurd hs (hne1 j (by omega))
    |i+2,1,_,ha,_,hs=>exact absurd (λx=>(hs x).symm) (hne1 i (by omega))
    |i+2,j+2,ih,ha,hb,hs=>
      have hi:i<ns.length:=by omega
      have hj:j<ns.length:=by omega
      have hl:(ns.getD i n7).l=(ns.getD j n7).l:=by
        rcases Nat.lt_trichotomy (ns.getD i n7).l (ns.getD j n7).l with k|k|k
        · exact absurd hs (hlev i j hi hj k)
        · exact k
        · exact absurd (λx=>(hs x).symm) (hlev j i hj hi k)
      obtain⟨a1,a2,a3,a4,a5,a6⟩:=h.ok i hi
      obtain⟨c1,c2,c3,c4,c5,c6⟩:=h.ok j hj
      have hlo:(ns.getD i n7).lo=(ns.getD j n7).lo:=ih _ a1 (by omega) _ (by omega) λx=>by
        have hx:=hs x
        rw[jb h hi,jb h hj,Z6,Z6,aag,aag]at hx
        constructor
        · intro k
          have b1:=fZ (g6 a4 (e7 h _ (by omega) x k).1)
          rcases hx.1 (.inl k)with q|⟨y,hy,rfl⟩
          · exact q
          · rw[hl,kA (g6 c5 (e7 h _ (by omega) y hy).1)]at b1;cases b1
        · intro k
          have b1:=fZ (g6 c4 (e7 h _ (by omega) x k).1)
          rcases hx.2 (.inl k)with q|⟨y,hy,rfl⟩
          · exact q
          · rw[←hl,kA (g6 a5 (e7 h _ (by omega) y hy).1)]at b1;cases b1
      have hhi2:(ns.getD i n7).hi=(ns.getD j n7).hi:=ih _ a2 (by omega) _ (by omega) λx=>by
        have hx:=hs (x+2^(ns.getD i n7).l)
        rw[jb h hi,jb h hj,Z6,Z6,aag,aag]at hx
        constructor
        · intro k
          have b1:=kA (g6 a5 (e7 h _ (by omega) x k).1)
          rcases hx.1 (.inr ⟨x,k,rfl⟩)with q|⟨y,hy,e⟩
          · have b2:=fZ (g6 c4 (e7 h _ (by omega) _ q).1)
            rw[←hl,b1]at b2;cases b2
          · rw[hl]at e
            obtain rfl:y=x:=by omega
            exact hy
        · intro k
          have b1:=kA (g6 c5 (e7 h _ (by omega) x k).1)
          rw[←hl]at b1
          rcases hx.2 (.inr ⟨x,k,by rw[hl]⟩)with q|⟨y,hy,e⟩
          · rw[fZ (g6 a4 (e7 h _ (by omega) _ q).1)]at b1;cases b1
          · obtain rfl:y=x:=by omega
            exact hy
      have hn:ns.getD i n7=ns.getD j n7:=by
        generalize ns.getD i n7=p at*
        generalize ns.getD j n7=q at*
        cases p;cases q
        simp only[Nd.mk.injEq]
        exact⟨hl,hlo,hhi2⟩
      rw[me,me,th hi,th hj]at hn
      have:=(List.getElem_inj h.nd).1 (show ns[i]=ns[j] from hn)
      omega
end
end
section
open Go Go.RowKit
def qt (ns:List Nd):List (Nd×Int):=ns.zipIdx.map λp=>(p.1,((p.2+2:Nat):Int))
theorem vP (ns:List Nd):(qt ns).map (·.1)=ns:=by
  unfold qt
  rw[List.map_map]
  exact List.zipIdx_map_fst 0 ns
theorem ME (ns:List Nd):(qt ns).length=ns.length:=by unfold qt;simp
theorem Ks (ns:List Nd) (n:Nd):qt (ns++[n])=qt ns++[(n,((ns.length+2:Nat):Int))]:=by
  unfold qt
  rw[List.zipIdx_append,abh]
  simp
theorem Me {ns:List Nd} {n:Nd} (h:n∉ns):iz (qt ns) n ((ns.length+2:Nat):Int)=qt (ns++[n]):=by
  unfold iz
  rw[vP,if_neg h,Ks]
theorem Kv {ns:List Nd} (hn:ns.Nodup) {n:Nd} {v:Int} (h:iy (qt ns) n=some v):∃i,i<ns.length∧ns.getD i n7=n∧v=((i+2:Nat):Int):=by
  have hm:=(nx (by rw[vP];exact hn)).1 h
  unfold qt at hm
  obtain⟨p,hp,e⟩:=aag.1 hm
  simp only[Prod.mk.injEq]at e
  obtain⟨e1,e2⟩:=e
  have h2:=List.mem_zipIdx hp
  refine⟨p.2,by omega,?_,e2.symm⟩
  rw[me,th (by omega),←e1]
  have:=h2.2.2
  simp only[abK]at this
  simp[this]
theorem Ke {ns:List Nd} {n:Nd} (h:iy (qt ns) n=none):n∉ns:=by
  have:=oX.1 h
  rwa [vP]at this
structure fC (Ta Tn:TypeId) (N ba bm R:Nat) (w:World) (ns:List Nd):Prop where
  out:∃nv,At w ba #[.int .i64 (R:Int),nv, .map (some bm)] Ta∧cD Vt 3 Tn w N nv ns
  hm:du vD eH w bm (qt ns)
  la:N≤ba
  lm:N≤bm
  wf:Wf ns
  room:ns.length≤R
  top:R≤20000
section
variable {Ta Tn T T':TypeId} {N N' ba bm R b sz:Nat} {xs:List Nat} {w w' W:World} {ns:List Nd} {c:Array Value} {v:Value}
theorem fC.ext (h:dz w w') (k:fC Ta Tn N ba bm R w ns):fC Ta Tn N ba bm R w' ns:=by
  obtain⟨nv,h1,h2⟩:=k.out
  exact⟨⟨nv,h.at h1,h.ow h2⟩,h.mapT k.hm,k.la,k.lm,k.wf,k.room,k.top⟩
theorem fC.mono (k:fC Ta Tn N ba bm R w ns) (h:N'≤N):fC Ta Tn N' ba bm R w ns:=by
  obtain⟨nv,h1,h2⟩:=k.out
  exact⟨⟨nv,h1,h2.mono h⟩,k.hm,an h k.la,an h k.lm,k.wf,k.room,k.top⟩
theorem fC.below (h:Go.RowKit.Below w.heap.size w W) (k:fC Ta Tn N ba bm R w ns):fC Ta Tn N ba bm R W ns:=by
  obtain⟨nv,h1,h2⟩:=k.out
  exact⟨⟨nv,On h h1,Below.ow h h2⟩,abt h k.hm,k.la,k.lm,k.wf,k.room,k.top⟩
theorem fC.grownAt (k:fC Ta Tn N ba bm R w ns) (hm:At w b c T) (hG:w.grownBy w' (some b)) (hTa:T≠Ta) (hTn:T≠Tn):fC Ta Tn N ba bm R w' ns:=by
  obtain⟨nv,h1,h2⟩:=k.out
  exact⟨⟨nv,h1.grownAt hm hG hTa.symm,h2.grownAt hm hG hTn⟩,k.hm.grownAt hm hG,k.la,k.lm,k.wf,k.room,k.top⟩
theorem fC.grownOw {α:Type} {enc:α→List Value} {l:List α} (k:fC Ta Tn N ba bm R w ns) (ho:cD enc sz T w N' v l) (hG:w.grownBy w' v.ownBlock) (hTa:T≠Ta) (hTn:T≠Tn):fC Ta Tn N ba bm R w' ns:=by
  obtain⟨nv,h1,h2⟩:=k.out
  exact⟨⟨nv,h1.grownOw ho hG hTa.symm,h2.grownOw ho hG hTn.symm⟩,k.hm.grownOw ho hG,k.la,k.lm,k.wf,k.room,k.top⟩
theorem fC.grownMap {α β:Type} {enc:α→Value} {encV:β→Value} {l:List (α×β)} (k:fC Ta Tn N ba bm R w ns) (hm:du enc encV w b l) (hne:b≠bm) (hG:w.grownBy w' (some b)):fC Ta Tn N ba bm R w' ns:=by
  obtain⟨nv,h1,h2⟩:=k.out
  exact⟨⟨nv,h1.grownMap hm hG,h2.grownMap hm hG⟩,k.hm.grownNe hne.symm hG,k.la,k.lm,k.wf,k.room,k.top⟩
theorem fC.ne (k:fC Ta Tn N ba bm R w ns) (hm:At w b c T) (hTa:T≠Ta):b≠ba∧b≠bm:=by
  obtain⟨nv,h1,h2⟩:=k.out
  exact⟨λe=>by subst e;exact aco hm h1 hTa rfl,λe=>by subst e;exact ab9 hm k.hm rfl⟩
theorem At.dx (k:fC Ta Tn N ba bm R w ns) (hx:Dx Tn N [ba,bm] w w') (hm:At w b c T) (hTa:T≠Ta) (hTn:T≠Tn):At w' b c T:=by
  obtain⟨n1,n2⟩:=k.ne hm hTa
  unfold At at*
  rw[hx.block b (gf hm) (.inr ⟨by simp[n1,n2],λc' fr e=>by rw[hm]at e;simp at e;exact hTn e.2.1⟩)]
  exact hm
theorem At.dx3 {bx:Nat} (k:fC Ta Tn N ba bm R w ns) (hx:Dx Tn N [bx,ba,bm] w w') (hm:At w b c T) (hTa:T≠Ta) (hTn:T≠Tn) (hne:b≠bx):At w' b c T:=by
  obtain⟨n1,n2⟩:=k.ne hm hTa
  unfold At at*
  rw[hx.block b (gf hm) (.inr ⟨by simp[n1,n2,hne],λc' fr e=>by rw[hm]at e;simp at e;exact hTn e.2.1⟩)]
  exact hm
theorem cD.dx {α:Type} {enc:α→List Value} {l:List α} (k:fC Ta Tn N ba bm R w ns) (hx:Dx Tn N [ba,bm] w w') (ho:cD enc sz T w N' v l) (hTa:T≠Ta) (hTn:T≠Tn):cD enc sz T w' N' v l:=by
  obtain⟨h1,h2|⟨g,cap,cur,h3,hg,hh,r⟩⟩:=ho
  · exact⟨h1, .inl h2⟩
  · refine⟨h1, .inr ⟨g,cap,cur,h3,hg,?_,r⟩⟩
    exact At.dx (c:=cur) k hx hh hTa hTn
theorem du.dx {α β:Type} {enc:α→Value} {encV:β→Value} {l:List (α×β)} (k:fC Ta Tn N ba bm R w ns) (hx:Dx Tn N [ba,bm] w w') (hm:du enc encV w b l) (hne:b≠bm):du enc encV w' b l:=by
  obtain⟨nv,h1,h2⟩:=k.out
  obtain⟨f,ck,hf⟩:=hm
  refine⟨f,ck,hf.moved (hx.block b hf.lt (.inr ⟨?_,λc' fr e=> ?_⟩))⟩
  · have:b≠ba:=λe=>by subst e;exact ab9 h1 ⟨f,ck,hf⟩ rfl
    simp[this,hne]
  · rw[hf.heap]at e;cases e
end
structure jY (ns ns':List Nd) (R c l:Nat) (S:Nat→Prop) (id:Nat) (er:Int):Prop where
  pre:ns<+:ns'
  cost:ns'.length≤ns.length+c
  res:(er=0∧id<ns'.length+2∧l≤dQ ns' id∧∀x,x∈dr ns' id↔S x)∨(er=5∧id=0∧R≤ns'.length)
def PO (Ta Tn:TypeId) (N ba bm R:Nat) (w:World) (ns:List Nd) (c l:Nat) (S:Nat→Prop) (v:Value) (w':World):Prop:=
  ∃(ns':List Nd) (id:Nat) (er:Int),v= .tuple #[.int .i64 (id:Int), .int .i64 er]∧Dx Tn N [ba,bm] w w'∧fC Ta Tn N ba bm R w' ns'∧jY ns ns' R c l S id er
section
variable {ns ns' ns1 ns2 ns3:List Nd} {R c c1 c2 l:Nat} {S S1 S2:Nat→Prop} {id f:Nat} {er:Int}
theorem fX (h:ns<+:ns'):ns.length≤ns'.length:=h.length_le
theorem jY.same (hid:id<ns.length+2) (hl:l≤dQ ns id) (h:∀x,x∈dr ns id↔S x):jY ns ns R c l S id 0:=⟨aba _,by omega, .inl ⟨rfl,hid,hl,h⟩⟩
theorem jY.fail (g:jY ns ns1 R c1 l S1 id er) (he:¬er=0) (hc:c1≤c) {l2:Nat}:jY ns ns1 R c l2 S 0 er:=by
  refine⟨g.pre,by have:=g.cost;omega, .inr ?_⟩
  rcases g.res with h|h
  · exact absurd h.1 he
  · exact⟨h.1,rfl,h.2.2⟩
theorem jY.fail2 (g:jY ns ns1 R c1 l S1 id er) {l1 l2 id1:Nat} {er1:Int} (g2:jY ns1 ns2 R c2 l1 S2 id1 er1) (he:¬er1=0) (hc:c1+c2≤c):jY ns ns2 R c l2 S 0 er1:=by
  have h:=jY.fail (S:=S) (l2:=l2) g2 he (am _)
  refine⟨g.pre.trans h.pre,by have:=g.cost;have:=h.cost;omega,h.res⟩
theorem jY.ok (g:jY ns ns1 R c1 l S1 id er) (he:er=0):id<ns1.length+2∧l≤dQ ns1 id∧∀x,x∈dr ns1 id↔S1 x:=by
  rcases g.res with h|h
  · exact h.2
  · rw[h.1]at he;cases he
theorem jY.weak (g:jY ns ns1 R c1 l S1 id er) (hc:c1≤c) (h:∀x,S1 x↔S x):jY ns ns1 R c l S id er:=
  ⟨g.pre,by have:=g.cost;omega,g.res.imp (λ⟨a,b,d,e⟩=>⟨a,b,d,λx=>(e x).trans (h x)⟩) _root_.id⟩
theorem jY.then' (g:jY ns ns1 R c1 l S1 id er) {l2 id2:Nat} {er2:Int} (g2:jY ns1 ns2 R c2 l2 S id2 er2) (hc:c1+c2≤c):jY ns ns2 R c l2 S id2 er2:=
  ⟨g.pre.trans g2.pre,by have:=g.cost;have:=g2.cost;omega,g2.res⟩
theorem jY.old (g:jY ns ns1 R c1 l S1 id er) (h:f<ns.length+2):f<ns1.length+2∧dr ns1 f=dr ns f∧dQ ns1 f=dQ ns f:=
  ⟨by have:=fX g.pre;omega,gM g.pre h,gU g.pre h⟩
end
def up (l:Nat) (P Q:Nat→Prop) (x:Nat):Prop:=P x∨∃y,Q y∧x=y+2^l
def dH (ns:List Nd) (f l:Nat):Nat:=if 2≤f∧dQ ns f=l then (ns.getD (f-2) n7).lo else f
def dY (ns:List Nd) (f l:Nat):Nat:=if 2≤f∧dQ ns f=l then (ns.getD (f-2) n7).hi else 0
structure OD (ns:List Nd) (f l a b:Nat):Prop where
  va:a<ns.length+2
  vb:b<ns.length+2
  la:l<dQ ns a
  lb:l<dQ ns b
  mem:∀x,x∈dr ns f↔up l (·∈dr ns a) (·∈dr ns b) x
  cnt:(dr ns f).length=(dr ns a).length+(dr ns b).length
theorem iw {ns:List Nd} (h:Wf ns) {f l:Nat} (hf:f<ns.length+2) (hl:l≤dQ ns f) (h24:l<24):OD ns f l (dH ns f l) (dY ns f l):=by
  unfold dH dY
  by_cases hc:2≤f∧dQ ns f=l
  · rw[if_pos hc,if_pos hc]
    obtain⟨i,rfl⟩:∃i,f=i+2:=⟨f-2,by omega⟩
    have hi:i<ns.length:=by omega
    obtain⟨a1,a2,a3,a4,a5,a6⟩:=h.ok i hi
    have hl2:=hc.2
    rw[kg]at hl2
    rw[aa9]
    refine⟨by omega,by omega,by omega,by omega,λx=> ?_,?_⟩
    · rw[jb h hi,Z6,aag,hl2]
      exact or_congr Iff.rfl ⟨λ⟨y,h1,h2⟩=>⟨y,h1,h2.symm⟩,λ⟨y,h1,h2⟩=>⟨y,h1,h2.symm⟩⟩
    · rw[jb h hi,An,aaD]
  · rw[if_neg hc,if_neg hc]
    have hlt:l<dQ ns f:=by
      rcases aa0 l (dQ ns f)with k|k
      · exact k
      · exfalso
        have e:dQ ns f=l:=by omega
        have:¬2≤f:=λq=>hc ⟨q,e⟩
        rw[l6 (by omega)]at e
        omega
    refine⟨hf,by omega,hlt,by rw[l6 (by decide)];exact h24,λx=> ?_,by rw[ny];rfl⟩
    unfold up
    rw[ny]
    simp
end
section
open Go Go.RowKit
abbrev M (ns:List Nd) (f:Nat):Nat→Prop:=λx=>x∈dr ns f
theorem i7 {ns ns':List Nd} {f:Nat} (hp:ns<+:ns') (h:f<ns.length+2):M ns' f=M ns f:=by
  unfold M;rw[gM hp h]
def P1 (l:Nat) (P:Nat→Prop):Prop:=∀x,P x→2^(l+1)∣x
theorem Jw {ns:List Nd} (h:Wf ns) {f l:Nat} (hf:f<ns.length+2) (hl:l<dQ ns f):P1 l (M ns f):=λx hx=>g6 hl (e7 h f hf x hx).1
theorem fG {P Q:Nat→Prop} (h:∀x,P x↔Q x):P=Q:=funext λx=>propext (h x)
theorem sV {l a b:Nat} (ha:2^(l+1)∣a) (hb:2^(l+1)∣b):(a+2^l) ||| b=(a ||| b)+2^l∧a ||| (b+2^l)=(a ||| b)+2^l∧(a+2^l) ||| (b+2^l)=(a ||| b)+2^l∧2^(l+1)∣a ||| b:=by
  obtain⟨p,rfl⟩:=ha
  obtain⟨q,rfl⟩:=hb
  have sh:∀u v:Nat,2^l*u ||| 2^l*v=2^l*(u ||| v):=λu v=>by
    rw[aa3,aa3 (2^l) v,aa3 (2^l) (u ||| v),←Nat.shiftLeft_eq,←Nat.shiftLeft_eq,←Nat.shiftLeft_eq,Nat.shiftLeft_or_distrib]
  have e0:∀u:Nat,2^(l+1)*u=2^l*(2*u):=λu=>by rw[aa4,Nat.mul_assoc]
  have e1:∀u:Nat,2^l*(2*u)+2^l=2^l*(2*u+1):=λu=>by rw[Nat.mul_add,abB]
  have b0:∀u v:Nat,2*u ||| 2*v=2*(u ||| v):=λu v=>by
    have:=λu v=>(Nat.shiftLeft_or_distrib (a:=u) (b:=v) (i:=1))
    simp only[Nat.shiftLeft_eq,Nat.pow_one]at this
    rw[aa3 2 u,aa3 2 v,aa3 2 (u ||| v),this]
  have odd:∀u v:Nat,(u%2=1∨v%2=1)→u ||| v=2*(u/2 ||| v/2)+1:=λu v h=>by
    refine Z7 λi=> ?_
    cases i with
    |zero=>
      rw[aaP,Nat.testBit_zero,Nat.testBit_zero,Nat.testBit_zero]
      rcases h with h|h<;>simp[h]<;>omega
    |succ i=>
      rw[aaP,Nat.testBit_succ,Nat.testBit_succ,Nat.testBit_succ,←aaP]
      congr 1
      omega
  have o1:(2*p+1) ||| (2*q)=2*(p ||| q)+1:=by
    rw[odd _ _ (.inl (by omega)),show (2*p+1)/2=p by omega,show 2*q/2=q by omega]
  have o2:(2*p) ||| (2*q+1)=2*(p ||| q)+1:=by
    rw[odd _ _ (.inr (by omega)),show (2*q+1)/2=q by omega,show 2*p/2=p by omega]
  have o3:(2*p+1) ||| (2*q+1)=2*(p ||| q)+1:=by
    rw[odd _ _ (.inl (by omega)),show (2*p+1)/2=p by omega,show (2*q+1)/2=q by omega]
  rw[e0,e0,e1,e1]
  refine⟨?_,?_,?_,?_⟩
  · rw[sh,sh,o1,b0,e1]
  · rw[sh,sh,o2,b0,e1]
  · rw[sh,sh,o3,b0,e1]
  · exact⟨p ||| q,by rw[sh,b0,e0]⟩
def HB (x y:Nat):Prop:=x ||| y=x
theorem S7 {l:Nat} {P Q:Nat→Prop} (hP:P1 l P) (hQ:P1 l Q) {x:Nat}:(x.testBit l=false→(up l P Q x↔P x))∧∀y,2^(l+1)∣y→(up l P Q (y+2^l)↔Q y):=by
  refine⟨λhb=>⟨λh=> ?_, .inl⟩,λy hy=>⟨λh=> ?_,λh=> .inr ⟨y,h,rfl⟩⟩⟩
  · rcases h with h|⟨y,hy,rfl⟩
    · exact h
    · rw[kA (hQ y hy)]at hb;cases hb
  · rcases h with h|⟨z,hz,e⟩
    · have:=fZ (hP _ h)
      rw[kA hy]at this;cases this
    · obtain rfl:y=z:=by omega
      exact hz
def bl (x:Nat):Nat:=if x=0 then 0 else Nat.log2 x+1
theorem Yc {x T:Nat}:bl x≤T↔x<2^T:=by
  unfold bl
  by_cases h:x=0
  · rw[if_pos h,h]
    exact⟨λ_=>aaz T,λ_=>my _⟩
  · rw[if_neg h,←Nat.log2_lt h];omega
def YE (l:List Nat):Nat:=l.foldr (λx t=>max (bl x) t) 0
theorem MN {T:Nat}:∀{l:List Nat},YE l≤T↔∀x,x∈l→x<2^T
  |[]=>⟨λ_ x h=>by (cases h),λ_=>my _⟩
  |y::l=>by
    have ih:=MN (T:=T) (l:=l)
    have e:YE (y::l)=max (bl y) (YE l):=rfl
    rw[e,Nat.max_le,Yc,ih]
    exact⟨λ⟨h1,h2⟩ x hx=>by
      (rcases aaq.1 hx with rfl|hx
       · exact h1
       · exact h2 x hx),λh=>⟨h y (aab ..),λx hx=>h x (aai _ hx)⟩⟩
def tp (ns:List Nd) (f:Nat):Nat:=YE (dr ns f)
theorem mm {ns:List Nd} {f T:Nat}:tp ns f≤T↔∀x,x∈dr ns f→x<2^T:=MN
theorem zr {ns ns':List Nd} {f:Nat} (hp:ns<+:ns') (h:f<ns.length+2):tp ns' f=tp ns f:=by unfold tp;rw[gM hp h]
theorem OD.tpa {ns:List Nd} {f l a b:Nat} (H:OD ns f l a b):tp ns a≤tp ns f:=mm.2 λx hx=>mm.1 (am _) x ((H.mem x).2 (.inl hx))
theorem OD.tpb {ns:List Nd} {f l a b:Nat} (H:OD ns f l a b):tp ns b≤tp ns f:=mm.2 λx hx=>by
  have:=mm.1 (am (tp ns f)) (x+2^l) ((H.mem _).2 (.inr ⟨x,hx,rfl⟩))
  exact aaw (Nat.le_add_right _ _) this
theorem uE {ns:List Nd} (h:Wf ns) {f:Nat} (hf:f<ns.length+2) (h2:2≤f):dQ ns f<tp ns f:=by
  have h24:=oM h hf h2
  have H:=iw h hf (am _) h24
  have e:dY ns f (dQ ns f)=(ns.getD (f-2) n7).hi:=if_pos ⟨h2,rfl⟩
  obtain⟨i,rfl⟩:∃i,f=i+2:=⟨f-2,by omega⟩
  rw[aa9]at e
  have hne:dY ns (i+2) (dQ ns (i+2))≠0:=by rw[e];exact(h.ok i (by omega)).2.2.1
  obtain⟨y,hy⟩:=iW h _ H.vb hne
  have hm:y+2^dQ ns (i+2)∈dr ns (i+2):=(H.mem _).2 (.inr ⟨y,hy,rfl⟩)
  have:=mm.1 (am (tp ns (i+2))) _ hm
  exact(Nat.pow_lt_pow_iff_right (a:=2) (by decide)).1 (aaw (Nat.le_add_left _ _) this)
theorem kW {ns ns':List Nd} {f l:Nat} (hp:ns<+:ns') (h:f<ns.length+2):dH ns' f l=dH ns f l∧dY ns' f l=dY ns f l:=by
  unfold dH dY
  rw[gU hp h]
  by_cases hc:2≤f∧dQ ns f=l
  · rw[if_pos hc,if_pos hc,if_pos hc,if_pos hc,uK hp (by omega)]
    exact⟨rfl,rfl⟩
  · rw[if_neg hc,if_neg hc,if_neg hc,if_neg hc]
    exact⟨rfl,rfl⟩
structure Op where
  res:(Nat→Prop)→(Nat→Prop)→Nat→Prop
  resH:(Nat→Prop)→(Nat→Prop)→(Nat→Prop)→(Nat→Prop)→Nat→Prop
  ends:Nat→Nat→Nat×Bool
  cst:List Nd→Nat→Nat→Nat
  hcst:List Nd→Nat→Nat→Nat→Nat→Nat→Nat
structure J4 (o:Op):Prop where
  dec:∀l A0 A1 B0 B1,P1 l A0→P1 l A1→P1 l B0→P1 l B1→∀x,o.res (up l A0 A1) (up l B0 B1) x↔up l (o.res A0 B0) (o.resH A0 A1 B0 B1) x
  endT:∀ns f g,Wf ns→f<ns.length+2→g<ns.length+2→(o.ends f g).2=true→(o.ends f g).1<ns.length+2∧min (dQ ns f) (dQ ns g)≤dQ ns (o.ends f g).1∧∀x,x∈dr ns (o.ends f g).1↔o.res (M ns f) (M ns g) x
  endF:∀f g,(o.ends f g).2=false→f≠0∧g≠0∧¬(f<2∧g<2)
  cost:∀ns f g l,Wf ns→f<ns.length+2→g<ns.length+2→(o.ends f g).2=false→l=min (dQ ns f) (dQ ns g)→l<24→o.cst ns (dH ns f l) (dH ns g l)+o.hcst ns l (dH ns f l) (dY ns f l) (dH ns g l) (dY ns g l)+1≤o.cst ns f g
  hpre:∀ns ns' l f0 f1 g0 g1,ns<+:ns'→Wf ns→f0<ns.length+2→f1<ns.length+2→g0<ns.length+2→g1<ns.length+2→o.hcst ns' l f0 f1 g0 g1=o.hcst ns l f0 f1 g0 g1
theorem WV:∀k k1 a0 a1 b0 b1,k1<k→1≤a0+a1→1≤b0+b1→k1*min a0 b0+(k-1)*min a1 b1+1≤k*min (a0+a1) (b0+b1):=by
  intro k k1 a0 a1 b0 b1 hk h1 h2
  obtain⟨m,rfl⟩:∃m,k=m+1:=⟨k-1,by omega⟩
  rw[aa9]
  have e1:k1*min a0 b0≤m*min a0 b0:=aay _ (by omega)
  have e2:m*min a0 b0+m*min a1 b1≤m*min (a0+a1) (b0+b1):=by
    rw[←Nat.mul_add]
    exact Nat.mul_le_mul_left _ (by omega)
  have e3:1≤min (a0+a1) (b0+b1):=by omega
  rw[aaR,aap]
  omega
def cP (en:Nat→Nat→Nat×Bool):Nat→List Nd→Nat→Nat→Nat
  |0,_,_,_=>0
  |n+1,ns,f,g=>if (en f g).2=true then 0 else cP en n ns (dH ns f (min (dQ ns f) (dQ ns g))) (dH ns g (min (dQ ns f) (dQ ns g)))+cP en n ns (dY ns f (min (dQ ns f) (dQ ns g))) (dY ns g (min (dQ ns f) (dQ ns g)))+1
def cE (en:Nat→Nat→Nat×Bool) (ns:List Nd) (f g:Nat):Nat:=cP en (25-min (dQ ns f) (dQ ns g)) ns f g
def hE (en:Nat→Nat→Nat×Bool) (ns:List Nd) (_ _ f1 _ g1:Nat):Nat:=cE en ns f1 g1
section
variable {en:Nat→Nat→Nat×Bool} {ns ns':List Nd}
theorem CB:∀(n f g:Nat),cP en n ns f g≤cP en (n+1) ns f g
  |0,_,_=>my _
  |n+1,f,g=>by
    rw[cP,cP]
    by_cases h:(en f g).2=true
    · rw[if_pos h,if_pos h];exact am _
    · rw[if_neg h,if_neg h]
      have h1:=CB n (dH ns f (min (dQ ns f) (dQ ns g))) (dH ns g (min (dQ ns f) (dQ ns g)))
      have h2:=CB n (dY ns f (min (dQ ns f) (dQ ns g))) (dY ns g (min (dQ ns f) (dQ ns g)))
      omega
theorem C1 {n m:Nat} (h:n≤m) (f g:Nat):cP en n ns f g≤cP en m ns f g:=by
  obtain⟨d,rfl⟩:∃d,m=n+d:=⟨m-n,by omega⟩
  clear h
  induction d with
  |zero=>exact am _
  |succ d ih=>exact an ih (CB _ _ _)
theorem CU (h:Wf ns) {f l:Nat} (hf:f<ns.length+2) (hl:l≤dQ ns f):dH ns f l<ns.length+2∧dY ns f l<ns.length+2:=by
  by_cases h24:l<24
  · have H:=iw h hf hl h24
    exact⟨H.va,H.vb⟩
  · have:¬2≤f:=λq=>by have:=oM h hf q;omega
    unfold dH dY
    rw[if_neg (λk=>this k.1),if_neg (λk=>this k.1)]
    exact⟨hf,by omega⟩
theorem G5 (hp:ns<+:ns') (h:Wf ns):∀(n f g:Nat),f<ns.length+2→g<ns.length+2→cP en n ns' f g=cP en n ns f g
  |0,_,_,_,_=>rfl
  |n+1,f,g,hf,hg=>by
    rw[cP,cP,gU hp hf,gU hp hg,(kW hp hf).1,(kW hp hf).2,(kW hp hg).1,(kW hp hg).2]
    obtain⟨v1,v2⟩:=CU h hf (Nat.min_le_left (dQ ns f) (dQ ns g))
    obtain⟨v3,v4⟩:=CU h hg (abX (dQ ns f) (dQ ns g))
    rw[G5 hp h n _ _ v1 v3,G5 hp h n _ _ v2 v4]
theorem LI (hp:ns<+:ns') (h:Wf ns) {f g:Nat} (hf:f<ns.length+2) (hg:g<ns.length+2):cE en ns' f g=cE en ns f g:=by
  unfold cE
  rw[gU hp hf,gU hp hg,G5 hp h _ _ _ hf hg]
theorem Iw (h:Wf ns) {f g l:Nat} (hf:f<ns.length+2) (hg:g<ns.length+2) (he:(en f g).2=false) (hl:l=min (dQ ns f) (dQ ns g)) (h24:l<24):
    cE en ns (dH ns f l) (dH ns g l)+hE en ns l (dH ns f l) (dY ns f l) (dH ns g l) (dY ns g l)+1≤cE en ns f g:=by
  have H1:=iw h hf (l:=l) (by omega) h24
  have H2:=iw h hg (l:=l) (by omega) h24
  have k1:=H1.la
  have k2:=H1.lb
  have k3:=H2.la
  have k4:=H2.lb
  unfold hE
  rw[show cE en ns f g=cP en (24-l+1) ns f g by unfold cE;rw[←hl];congr 1;omega,cP,if_neg (by rw[he];decide),←hl]
  have h1:=C1 (en:=en) (ns:=ns) (show 25-min (dQ ns (dH ns f l)) (dQ ns (dH ns g l))≤24-l by omega) (dH ns f l) (dH ns g l)
  have h2:=C1 (en:=en) (ns:=ns) (show 25-min (dQ ns (dY ns f l)) (dQ ns (dY ns g l))≤24-l by omega) (dY ns f l) (dY ns g l)
  unfold cE
  omega
theorem Uw (h:Wf ns) (hen:∀f g,(en f g).2=false→f≠0∧g≠0∧¬(f<2∧g<2)) (T:Nat):∀(n f g:Nat),f<ns.length+2→g<ns.length+2→tp ns f≤T→tp ns g≤T→cP en n ns f g≤(T-min (dQ ns f) (dQ ns g))*min (dr ns f).length (dr ns g).length
  |0,_,_,_,_,_,_=>my _
  |n+1,f,g,hf,hg,tf,tg=>by
    rw[cP]
    by_cases he:(en f g).2=true
    · rw[if_pos he];exact my _
    · rw[if_neg he]
      obtain⟨f0,g0,fg⟩:=hen f g (by simpa using he)
      have h1f:=nC h hf
      have h1g:=nC h hg
      have hlt:min (dQ ns f) (dQ ns g)<24∧min (dQ ns f) (dQ ns g)<T:=by
        by_cases q:2≤f
        · have:=oM h hf q
          have:=uE h hf q
          omega
        · have q2:2≤g:=by omega
          have:=oM h hg q2
          have:=uE h hg q2
          omega
      generalize hl:min (dQ ns f) (dQ ns g)=l at hlt ⊢
      have H1:=iw h hf (l:=l) (by omega) hlt.1
      have H2:=iw h hg (l:=l) (by omega) hlt.1
      have k1:=H1.la
      have k2:=H1.lb
      have k3:=H2.la
      have k4:=H2.lb
      have n1:=aaG (iW h f hf f0).choose_spec
      have n2:=aaG (iW h g hg g0).choose_spec
      have r1:=Uw h hen T n _ _ H1.va H2.va (an H1.tpa tf) (an H2.tpa tg)
      have r2:=Uw h hen T n _ _ H1.vb H2.vb (an H1.tpb tf) (an H2.tpb tg)
      have r3:=WV (T-l) (T-l-1) (dr ns (dH ns f l)).length (dr ns (dY ns f l)).length (dr ns (dH ns g l)).length (dr ns (dY ns g l)).length (by omega) (by have:=H1.cnt;omega) (by have:=H2.cnt;omega)
      rw[←H1.cnt,←H2.cnt]at r3
      have r4:(T-min (dQ ns (dH ns f l)) (dQ ns (dH ns g l)))*min (dr ns (dH ns f l)).length (dr ns (dH ns g l)).length≤(T-l-1)*min (dr ns (dH ns f l)).length (dr ns (dH ns g l)).length:=aay _ (by omega)
      have r5:(T-min (dQ ns (dY ns f l)) (dQ ns (dY ns g l)))*min (dr ns (dY ns f l)).length (dr ns (dY ns g l)).length≤(T-l-1)*min (dr ns (dY ns f l)).length (dr ns (dY ns g l)).length:=aay _ (by omega)
      omega
theorem SJ (h:Wf ns) (hen:∀f g,(en f g).2=false→f≠0∧g≠0∧¬(f<2∧g<2)) {T f g:Nat} (hf:f<ns.length+2) (hg:g<ns.length+2) (tf:tp ns f≤T) (tg:tp ns g≤T):cE en ns f g≤(T-min (dQ ns f) (dQ ns g))*min (dr ns f).length (dr ns g).length:=Uw h hen T _ f g hf hg tf tg
end
def Sb (f g:Nat):Nat×Bool:=if f=0∨f=g then (g,true)else (f,decide (g=0))
def Yr (f g:Nat):Nat×Bool:=if f=0∨f=g then (0,true)else (f,decide (g=0))
def pb:Op:=⟨λF G x=>F x∨G x,λ_ A1 _ B1 x=>A1 x∨B1 x,Sb,cE Sb,hE Sb⟩
def vl:Op:=⟨λF G x=>F x∧¬G x,λ_ A1 _ B1 x=>A1 x∧¬B1 x,Yr,cE Yr,hE Yr⟩
theorem Nt (ns:List Nd) (x:Nat):¬M ns 0 x:=by unfold M;rw[ny];exact λh=>by cases h
theorem PL (ns:List Nd):dQ ns 0=24:=l6 (by decide)
theorem HA:J4 pb:=by
  refine⟨λl A0 A1 B0 B1 _ _ _ _ x=> ?_,λns f g h hf hg ht=> ?_,λf g hf=> ?_,λns f g l h hf hg he hl h24=>Iw h hf hg he hl h24,λns ns' l f0 f1 g0 g1 hp h v0 v1 v2 v3=>LI hp h v1 v3⟩
  · simp only[pb,up]
    constructor
    · rintro((h|⟨y,h,e⟩)|(h|⟨y,h,e⟩))
      · exact .inl (.inl h)
      · exact .inr ⟨y, .inl h,e⟩
      · exact .inl (.inr h)
      · exact .inr ⟨y, .inr h,e⟩
    · rintro((h|h)|⟨y,h|h,e⟩)
      · exact .inl (.inl h)
      · exact .inr (.inl h)
      · exact .inl (.inr ⟨y,h,e⟩)
      · exact .inr (.inr ⟨y,h,e⟩)
  · simp only[pb,Sb]at ht ⊢
    by_cases hc:f=0∨f=g
    · rw[if_pos hc]
      refine⟨hg,abX _ _,λx=>⟨.inr,λh=> ?_⟩⟩
      rcases h with h|h
      · rcases hc with rfl|rfl
        · exact absurd h (Nt ns x)
        · exact h
      · exact h
    · rw[if_neg hc]at ht ⊢
      obtain rfl:g=0:=of_decide_eq_true ht
      exact⟨hf,Nat.min_le_left _ _,λx=>⟨.inl,λh=>h.elim id (λh=>absurd h (Nt ns x))⟩⟩
  · simp only[pb,Sb]at hf
    by_cases hc:f=0∨f=g
    · rw[if_pos hc]at hf;cases hf
    · rw[if_neg hc]at hf
      have:=of_decide_eq_false hf
      omega
theorem HJ:J4 vl:=by
  refine⟨λl A0 A1 B0 B1 hA0 hA1 hB0 hB1 x=> ?_,λns f g h hf hg ht=> ?_,λf g hf=> ?_,λns f g l h hf hg he hl h24=>Iw h hf hg he hl h24,λns ns' l f0 f1 g0 g1 hp h v0 v1 v2 v3=>LI hp h v1 v3⟩
  · simp only[vl]
    constructor
    · rintro⟨h,k⟩
      rcases h with h|⟨y,h,rfl⟩
      · exact .inl ⟨h,λq=>k (.inl q)⟩
      · exact .inr ⟨y,⟨h,λq=>k (.inr ⟨y,q,rfl⟩)⟩,rfl⟩
    · rintro(⟨h,k⟩|⟨y,⟨h,k⟩,rfl⟩)
      · exact⟨.inl h,λq=>k (((S7 hB0 hB1).1 (fZ (hA0 x h))).1 q)⟩
      · exact⟨.inr ⟨y,h,rfl⟩,λq=>k (((S7 (x:=0) hB0 hB1).2 y (hA1 y h)).1 q)⟩
  · simp only[vl,Yr]at ht ⊢
    have:=nC h hf
    by_cases hc:f=0∨f=g
    · rw[if_pos hc]
      refine⟨by omega,by rw[PL];omega,λx=>⟨λk=>absurd k (Nt ns x),λ⟨h1,h2⟩=> ?_⟩⟩
      rcases hc with rfl|rfl
      · exact absurd h1 (Nt ns x)
      · exact absurd h1 h2
    · rw[if_neg hc]at ht ⊢
      obtain rfl:g=0:=of_decide_eq_true ht
      exact⟨hf,Nat.min_le_left _ _,λx=>⟨λk=>⟨k,Nt ns x⟩,λk=>k.1⟩⟩
  · simp only[vl,Yr]at hf
    by_cases hc:f=0∨f=g
    · rw[if_pos hc]at hf;cases hf
    · rw[if_neg hc]at hf
      have:=of_decide_eq_false hf
      omega
def sY:Nat→Nat
  |0=>0
  |k+1=>sY k+(k+1)
theorem qx:∀{a b:Nat},a≤b→sY a≤sY b:=λ{a b} h=>by
  obtain⟨d,rfl⟩:∃d,b=a+d:=⟨b-a,by omega⟩
  clear h
  induction d with
  |zero=>exact am _
  |succ d ih=>show sY a≤sY (a+d)+_;omega
def nW (F G:Nat→Prop) (x:Nat):Prop:=∃a b,F a∧G b∧x=a ||| b
def Gd (f g:Nat):Nat×Bool:=if f=0∨g=0 then (0,true)else if f=1 then (g,true)else (f,decide (g=1))
def kJ (ns:List Nd) (f0 f1 g0 g1:Nat):Nat:=max (max (tp ns f0) (tp ns f1)) (max (tp ns g0) (tp ns g1))
def uJ (k a0 a1 b0 b1:Nat):Nat:=k*min (a1*b0) (a0*b1)+k*min (a1*b0+a0*b1) (a1*b1)
def Pw (ns:List Nd) (l f0 f1 g0 g1:Nat):Nat:=uJ (kJ ns f0 f1 g0 g1-(l+1)) (dr ns f0).length (dr ns f1).length (dr ns g0).length (dr ns g1).length
def zZ:Nat→List Nd→Nat→Nat→Nat
  |0,_,_,_=>0
  |n+1,ns,f,g=>if (Gd f g).2=true then 0 else zZ n ns (dH ns f (min (dQ ns f) (dQ ns g))) (dH ns g (min (dQ ns f) (dQ ns g)))+(zZ n ns (dY ns f (min (dQ ns f) (dQ ns g))) (dH ns g (min (dQ ns f) (dQ ns g)))+zZ n ns (dH ns f (min (dQ ns f) (dQ ns g))) (dY ns g (min (dQ ns f) (dQ ns g)))+zZ n ns (dY ns f (min (dQ ns f) (dQ ns g))) (dY ns g (min (dQ ns f) (dQ ns g)))+Pw ns (min (dQ ns f) (dQ ns g)) (dH ns f (min (dQ ns f) (dQ ns g))) (dY ns f (min (dQ ns f) (dQ ns g))) (dH ns g (min (dQ ns f) (dQ ns g))) (dY ns g (min (dQ ns f) (dQ ns g))))+1
def qv (ns:List Nd) (f g:Nat):Nat:=zZ (25-min (dQ ns f) (dQ ns g)) ns f g
def Wq (ns:List Nd) (l f0 f1 g0 g1:Nat):Nat:=qv ns f1 g0+qv ns f0 g1+qv ns f1 g1+Pw ns l f0 f1 g0 g1
def rn:Op:=⟨nW,λA0 A1 B0 B1 x=>nW A1 B0 x∨nW A0 B1 x∨nW A1 B1 x,Gd,qv,Wq⟩
theorem Tt {f g:Nat} (hf:(Gd f g).2=false):f≠0∧g≠0∧¬(f<2∧g<2):=by
  simp only[Gd]at hf
  by_cases hc:f=0∨g=0
  · rw[if_pos hc]at hf;cases hf
  · rw[if_neg hc]at hf
    by_cases h1:f=1
    · rw[if_pos h1]at hf;cases hf
    · rw[if_neg h1]at hf
      have:=of_decide_eq_false hf
      omega
section
variable {ns ns':List Nd}
theorem rH:∀(n f g:Nat),zZ n ns f g≤zZ (n+1) ns f g
  |0,_,_=>my _
  |n+1,f,g=>by
    rw[zZ,zZ]
    by_cases h:(Gd f g).2=true
    · rw[if_pos h,if_pos h];exact am _
    · rw[if_neg h,if_neg h]
      generalize min (dQ ns f) (dQ ns g)=l
      have h1:=rH n (dH ns f l) (dH ns g l)
      have h2:=rH n (dY ns f l) (dH ns g l)
      have h3:=rH n (dH ns f l) (dY ns g l)
      have h4:=rH n (dY ns f l) (dY ns g l)
      omega
theorem uR {n m:Nat} (h:n≤m) (f g:Nat):zZ n ns f g≤zZ m ns f g:=by
  obtain⟨d,rfl⟩:∃d,m=n+d:=⟨m-n,by omega⟩
  clear h
  induction d with
  |zero=>exact am _
  |succ d ih=>exact an ih (rH _ _ _)
theorem IA (hp:ns<+:ns') {l f0 f1 g0 g1:Nat} (v0:f0<ns.length+2) (v1:f1<ns.length+2) (v2:g0<ns.length+2) (v3:g1<ns.length+2):Pw ns' l f0 f1 g0 g1=Pw ns l f0 f1 g0 g1:=by
  unfold Pw kJ
  rw[zr hp v0,zr hp v1,zr hp v2,zr hp v3,gM hp v0,gM hp v1,gM hp v2,gM hp v3]
theorem vk (hp:ns<+:ns') (h:Wf ns):∀(n f g:Nat),f<ns.length+2→g<ns.length+2→zZ n ns' f g=zZ n ns f g
  |0,_,_,_,_=>rfl
  |n+1,f,g,hf,hg=>by
    rw[zZ,zZ,gU hp hf,gU hp hg,(kW hp hf).1,(kW hp hf).2,(kW hp hg).1,(kW hp hg).2]
    obtain⟨v1,v2⟩:=CU h hf (Nat.min_le_left (dQ ns f) (dQ ns g))
    obtain⟨v3,v4⟩:=CU h hg (abX (dQ ns f) (dQ ns g))
    rw[vk hp h n _ _ v1 v3,vk hp h n _ _ v2 v3,vk hp h n _ _ v1 v4,vk hp h n _ _ v2 v4,IA hp v1 v2 v3 v4]
theorem uk (hp:ns<+:ns') (h:Wf ns) {f g:Nat} (hf:f<ns.length+2) (hg:g<ns.length+2):qv ns' f g=qv ns f g:=by
  unfold qv
  rw[gU hp hf,gU hp hg,vk hp h _ _ _ hf hg]
theorem Nl (h:Wf ns) {f g l:Nat} (hf:f<ns.length+2) (hg:g<ns.length+2) (he:(Gd f g).2=false) (hl:l=min (dQ ns f) (dQ ns g)) (h24:l<24):
    qv ns (dH ns f l) (dH ns g l)+Wq ns l (dH ns f l) (dY ns f l) (dH ns g l) (dY ns g l)+1≤qv ns f g:=by
  have H1:=iw h hf (l:=l) (by omega) h24
  have H2:=iw h hg (l:=l) (by omega) h24
  have k1:=H1.la
  have k2:=H1.lb
  have k3:=H2.la
  have k4:=H2.lb
  unfold Wq
  rw[show qv ns f g=zZ (24-l+1) ns f g by unfold qv;rw[←hl];congr 1;omega,zZ,if_neg (by rw[he];decide),←hl]
  have h1:=uR (ns:=ns) (show 25-min (dQ ns (dH ns f l)) (dQ ns (dH ns g l))≤24-l by omega) (dH ns f l) (dH ns g l)
  have h2:=uR (ns:=ns) (show 25-min (dQ ns (dY ns f l)) (dQ ns (dH ns g l))≤24-l by omega) (dY ns f l) (dH ns g l)
  have h3:=uR (ns:=ns) (show 25-min (dQ ns (dH ns f l)) (dQ ns (dY ns g l))≤24-l by omega) (dH ns f l) (dY ns g l)
  have h4:=uR (ns:=ns) (show 25-min (dQ ns (dY ns f l)) (dQ ns (dY ns g l))≤24-l by omega) (dY ns f l) (dY ns g l)
  unfold qv
  omega
theorem Xs (m k1 a0 a1 b0 b1 u x y z q:Nat) (hk:k1≤m) (h1:1≤a0+a1) (h2:1≤b0+b1) (hq:q≤sY k1*(a0*b0)) (hx:x≤sY m*(a1*b0)) (hy:y≤sY m*(a0*b1)) (hz:z≤sY m*(a1*b1)) (hu:u≤m*(a1*b0+a0*b1+a1*b1)):
    q+(x+y+z+u)+1≤sY (m+1)*((a0+a1)*(b0+b1)):=by
  have e1:sY k1*(a0*b0)≤(sY m+m)*(a0*b0):=aay _ (by have:=qx hk;omega)
  have e2:(a0+a1)*(b0+b1)=a0*b0+(a1*b0+a0*b1+a1*b1):=by
    rw[aaR,Nat.mul_add,Nat.mul_add];omega
  have e3:1≤(a0+a1)*(b0+b1):=Nat.mul_pos h1 h2
  have e4:sY (m+1)=(sY m+m)+1:=by show sY m+(m+1)=_;omega
  have e5:(sY m+m)*((a0+a1)*(b0+b1))=(sY m+m)*(a0*b0)+(sY m+m)*(a1*b0+a0*b1+a1*b1):=by rw[e2,Nat.mul_add]
  have e6:(sY m+m)*(a1*b0+a0*b1+a1*b1)=sY m*(a1*b0)+sY m*(a0*b1)+sY m*(a1*b1)+m*(a1*b0+a0*b1+a1*b1):=by
    rw[aaR (sY m) m,Nat.mul_add (sY m),Nat.mul_add (sY m)]
  rw[e4,aaR (sY m+m) 1,aap]
  omega
theorem XS {k m a0 a1 b0 b1:Nat} (h:k≤m):uJ k a0 a1 b0 b1≤m*(a1*b0+a0*b1+a1*b1):=by
  unfold uJ
  rw[←Nat.mul_add]
  exact abH h (by omega)
theorem F4 (h:Wf ns) (T:Nat):∀(n f g:Nat),f<ns.length+2→g<ns.length+2→tp ns f≤T→tp ns g≤T→zZ n ns f g≤sY (T-min (dQ ns f) (dQ ns g))*((dr ns f).length*(dr ns g).length)
  |0,_,_,_,_,_,_=>my _
  |n+1,f,g,hf,hg,tf,tg=>by
    rw[zZ]
    by_cases he:(Gd f g).2=true
    · rw[if_pos he];exact my _
    · rw[if_neg he]
      obtain⟨f0,g0,fg⟩:=Tt (f:=f) (g:=g) (by simpa using he)
      have h1f:=nC h hf
      have h1g:=nC h hg
      have hlt:min (dQ ns f) (dQ ns g)<24∧min (dQ ns f) (dQ ns g)<T:=by
        by_cases q:2≤f
        · have:=oM h hf q
          have:=uE h hf q
          omega
        · have q2:2≤g:=by omega
          have:=oM h hg q2
          have:=uE h hg q2
          omega
      generalize hl:min (dQ ns f) (dQ ns g)=l at hlt ⊢
      have H1:=iw h hf (l:=l) (by omega) hlt.1
      have H2:=iw h hg (l:=l) (by omega) hlt.1
      have k1:=H1.la
      have k2:=H1.lb
      have k3:=H2.la
      have k4:=H2.lb
      have ta:=an H1.tpa tf
      have tb:=an H1.tpb tf
      have tc:=an H2.tpa tg
      have td:=an H2.tpb tg
      have n1:=aaG (iW h f hf f0).choose_spec
      have n2:=aaG (iW h g hg g0).choose_spec
      have r1:=F4 h T n _ _ H1.va H2.va ta tc
      have r2:=an (F4 h T n _ _ H1.vb H2.va tb tc) (aay _ (qx (show T-min (dQ ns (dY ns f l)) (dQ ns (dH ns g l))≤T-l-1 by omega)))
      have r3:=an (F4 h T n _ _ H1.va H2.vb ta td) (aay _ (qx (show T-min (dQ ns (dH ns f l)) (dQ ns (dY ns g l))≤T-l-1 by omega)))
      have r4:=an (F4 h T n _ _ H1.vb H2.vb tb td) (aay _ (qx (show T-min (dQ ns (dY ns f l)) (dQ ns (dY ns g l))≤T-l-1 by omega)))
      have r5:Pw ns l (dH ns f l) (dY ns f l) (dH ns g l) (dY ns g l)≤(T-l-1)*_:=XS (show kJ ns (dH ns f l) (dY ns f l) (dH ns g l) (dY ns g l)-(l+1)≤T-l-1 by unfold kJ;omega)
      have r6:=Xs (T-l-1) (T-min (dQ ns (dH ns f l)) (dQ ns (dH ns g l))) _ _ _ _ _ _ _ _ _ (by omega) (by have:=H1.cnt;omega) (by have:=H2.cnt;omega) r1 r2 r3 r4 r5
      rw[←H1.cnt,←H2.cnt,show T-l-1+1=T-l by omega]at r6
      exact r6
theorem Xd (h:Wf ns) {T f g:Nat} (hf:f<ns.length+2) (hg:g<ns.length+2) (tf:tp ns f≤T) (tg:tp ns g≤T):qv ns f g≤sY (T-min (dQ ns f) (dQ ns g))*((dr ns f).length*(dr ns g).length):=F4 h T _ f g hf hg tf tg
end
theorem Wa:J4 rn:=by
  refine⟨λl A0 A1 B0 B1 hA0 hA1 hB0 hB1 x=> ?_,λns f g h hf hg ht=> ?_,λf g hf=>Tt hf,λns f g l h hf hg he hl h24=>Nl h hf hg he hl h24,λns ns' l f0 f1 g0 g1 hp h v0 v1 v2 v3=> ?_⟩
  · simp only[rn,nW]
    constructor
    · rintro⟨a,b,ha|⟨p,ha,rfl⟩,hb|⟨q,hb,rfl⟩,rfl⟩
      · exact .inl ⟨a,b,ha,hb,rfl⟩
      · exact .inr ⟨a ||| q, .inr (.inl ⟨a,q,ha,hb,rfl⟩),(sV (hA0 a ha) (hB1 q hb)).2.1⟩
      · exact .inr ⟨p ||| b, .inl ⟨p,b,ha,hb,rfl⟩,(sV (hA1 p ha) (hB0 b hb)).1⟩
      · exact .inr ⟨p ||| q, .inr (.inr ⟨p,q,ha,hb,rfl⟩),(sV (hA1 p ha) (hB1 q hb)).2.2.1⟩
    · rintro(⟨a,b,ha,hb,rfl⟩|⟨y,⟨a,b,ha,hb,rfl⟩|⟨a,b,ha,hb,rfl⟩|⟨a,b,ha,hb,rfl⟩,rfl⟩)
      · exact⟨a,b, .inl ha, .inl hb,rfl⟩
      · exact⟨a+2^l,b, .inr ⟨a,ha,rfl⟩, .inl hb,(sV (hA1 a ha) (hB0 b hb)).1.symm⟩
      · exact⟨a,b+2^l, .inl ha, .inr ⟨b,hb,rfl⟩,(sV (hA0 a ha) (hB1 b hb)).2.1.symm⟩
      · exact⟨a+2^l,b+2^l, .inr ⟨a,ha,rfl⟩, .inr ⟨b,hb,rfl⟩,(sV (hA1 a ha) (hB1 b hb)).2.2.1.symm⟩
  · have hm1:∀x,M ns 1 x↔x=0:=λx=>by unfold M;rw[pT];exact Z8
    simp only[rn,Gd]at ht ⊢
    have:=nC h hf
    by_cases hc:f=0∨g=0
    · rw[if_pos hc]
      refine⟨by omega,by rw[PL];omega,λx=>⟨λk=>absurd k (Nt ns x),λ⟨a,b,h1,h2,_⟩=> ?_⟩⟩
      rcases hc with rfl|rfl
      · exact absurd h1 (Nt ns a)
      · exact absurd h2 (Nt ns b)
    · rw[if_neg hc]at ht ⊢
      by_cases h1:f=1
      · subst h1
        rw[if_pos rfl]
        refine⟨hg,abX _ _,λx=>⟨λk=>⟨0,x,(hm1 0).2 rfl,k,by simp⟩,?_⟩⟩
        rintro⟨a,b,ha,hb,rfl⟩
        rw[(hm1 a).1 ha,Nat.zero_or]
        exact hb
      · rw[if_neg h1]at ht ⊢
        obtain rfl:g=1:=of_decide_eq_true ht
        refine⟨hf,Nat.min_le_left _ _,λx=>⟨λk=>⟨x,0,k,(hm1 0).2 rfl,by simp⟩,?_⟩⟩
        rintro⟨a,b,ha,hb,rfl⟩
        rw[(hm1 b).1 hb,Nat.or_zero]
        exact ha
  · show Wq ns' l f0 f1 g0 g1=Wq ns l f0 f1 g0 g1
    unfold Wq
    rw[uk hp h v1 v2,uk hp h v0 v3,uk hp h v1 v3,IA hp v0 v1 v2 v3]
def pz (p:Nat×Nat):Value:= .agg #[.int .i64 (p.1:Int), .int .i64 (p.2:Int)]
theorem yd (a b:Nat×Nat) (h:pz a=pz b):a=b:=by
  obtain⟨a1,a2⟩:=a
  obtain⟨b1,b2⟩:=b
  simp only[pz,Value.agg.injEq,Array.mk.injEq,List.cons.injEq,Value.int.injEq,true_and,and_true]at h
  simp only[Prod.mk.injEq]
  omega
structure JA (res:(Nat→Prop)→(Nat→Prop)→Nat→Prop) (ns:List Nd) (p:(Nat×Nat)×Int):Prop where
  v1:p.1.1<ns.length+2
  v2:p.1.2<ns.length+2
  id:∃id:Nat,p.2=(id:Int)∧id<ns.length+2∧min (dQ ns p.1.1) (dQ ns p.1.2)≤dQ ns id∧∀x,x∈dr ns id↔res (M ns p.1.1) (M ns p.1.2) x
def sB (res:(Nat→Prop)→(Nat→Prop)→Nat→Prop) (ns:List Nd) (dl:List ((Nat×Nat)×Int)):Prop:=∀p,p∈dl→JA res ns p
theorem JA.pre {res:(Nat→Prop)→(Nat→Prop)→Nat→Prop} {ns ns':List Nd} {p:(Nat×Nat)×Int} (hp:ns<+:ns') (h:JA res ns p):JA res ns' p:=by
  have hl:=fX hp
  obtain⟨id,h1,h2,h3,h4⟩:=h.id
  refine⟨by have:=h.v1;omega,by have:=h.v2;omega,id,h1,by omega,?_,?_⟩
  · rw[gU hp h.v1,gU hp h.v2,gU hp h2];exact h3
  · rw[i7 hp h.v1,i7 hp h.v2,gM hp h2];exact h4
theorem sB.pre {res:(Nat→Prop)→(Nat→Prop)→Nat→Prop} {ns ns':List Nd} {dl:List ((Nat×Nat)×Int)} (hp:ns<+:ns') (h:sB res ns dl):sB res ns' dl:=λp q=>(h p q).pre hp
theorem EQ {α β:Type} [DecidableEq α] {l:List (α×β)} {k:α} {v:β} {p:α×β} (h:p∈iz l k v):p∈l∨p=(k,v):=by
  unfold iz at h
  split at h
  · obtain⟨q,hq,e⟩:=aag.1 h
    split at e
    · exact .inr e.symm
    · exact .inl (e▸hq)
  · rcases Z6.1 h with h|h
    · exact .inl h
    · exact .inr (by simpa using h)
theorem zq {α β:Type} [DecidableEq α]:∀{l:List (α×β)} {k:α} {v:β},iy l k=some v→(k,v)∈l
  |[],_,_,h=>by cases h
  |(a,b)::r,k,v,h=>by
    simp only[iy]at h
    by_cases e:a=k
    · rw[if_pos e]at h
      cases h;subst e
      exact aab ..
    · rw[if_neg e]at h
      exact aai _ (zq h)
section
variable {o:Op} {ns ns1 ns2 ns3:List Nd} {R f g l l1 l2 c1 c2 c low high id:Nat} {er:Int}
theorem VB (ho:J4 o) (h:Wf ns) (hf:f<ns.length+2) (hg:g<ns.length+2) (hl:l=min (dQ ns f) (dQ ns g)) (h24:l<24)
    (g1:jY ns ns1 R c1 l1 (o.res (M ns (dH ns f l)) (M ns (dH ns g l))) low 0)
    (g2:jY ns1 ns2 R c2 l2 (o.resH (M ns1 (dH ns f l)) (M ns1 (dY ns f l)) (M ns1 (dH ns g l)) (M ns1 (dY ns g l))) high 0)
    (g3:jY ns2 ns3 R 1 l (up l (M ns2 low) (M ns2 high)) id er) (hc:c1+c2+1≤c):jY ns ns3 R c l (o.res (M ns f) (M ns g)) id er:=by
  have H1:=iw h hf (l:=l) (by omega) h24
  have H2:=iw h hg (l:=l) (by omega) h24
  refine(((jY.then' g1 g2 (am _)).then' g3 (am _)).weak (c:=c) (by omega) λx=> ?_)
  obtain⟨v1,_,m1⟩:=g1.ok rfl
  obtain⟨v2,_,m2⟩:=g2.ok rfl
  have eF:M ns f=up l (M ns (dH ns f l)) (M ns (dY ns f l)):=fG H1.mem
  have eG:M ns g=up l (M ns (dH ns g l)) (M ns (dY ns g l)):=fG H2.mem
  rw[eF,eG,ho.dec l _ _ _ _ (Jw h H1.va H1.la) (Jw h H1.vb H1.lb) (Jw h H2.va H2.la) (Jw h H2.vb H2.lb)]
  have e1:M ns2 low=o.res (M ns (dH ns f l)) (M ns (dH ns g l)):=by
    rw[i7 g2.pre v1];exact fG m1
  have e2:M ns2 high=o.resH (M ns (dH ns f l)) (M ns (dY ns f l)) (M ns (dH ns g l)) (M ns (dY ns g l)):=by
    rw[←i7 g1.pre H1.va,←i7 g1.pre H1.vb,←i7 g1.pre H2.va,←i7 g1.pre H2.vb];exact fG m2
  rw[e1,e2]
end
end
section
open Go Go.RowKit
section
variable {P:Program} {f:Nat→Value} {w:World} {d:Option Nat} {ty:TypeId} {ps:String} {af:Array Edge} {g:Option (Nat×Bool)} {x y:Operand} {t t2 e:TypeId}
theorem GC (hu:P.underlying t=some (.pointer e)):P.underlying t=some (.pointer (P.pointee t)):=by
  rw[hu]
  simp[Program.pointee,hu]
theorem qJ {a:Addr} (hx:dg f x= .pointer (some a)) (hy:dg f y= .pointer none) (hu:P.underlying t=some (.pointer e)):(execOp (dg f) ⟨d, .binOp .eql t x y t2,ty,ps,af,g⟩).run P w= .ok (.value (.bool false)) w:=by
  have h:=run_eql_pointer_nil w t (some a) (GC hu)
  simp[execOp,hx,hy,eqGuard,h]
theorem Vw {m n:Nat} {k:IntKind} {tys:Array TypeId} (hx:dg f x= .int k (m:Int)) (hy:dg f y= .int k (n:Int)):(execOp (dg f) ⟨d, .call ⟨.builtin .min,#[x,y],tys⟩,ty,ps,af,g⟩).run P w= .ok (.value (.int k ((min m n:Nat):Int))) w:=by
  simp[execOp,resolve,invoke,builtin,hx,hy,Builtin.min_,Builtin.min2]
  split<;>omega
theorem DQ {q:Nat} {a:Operand} {v:Value} (h:dg f a=v):
    (execOp (dg f) ⟨d, .makeFunc (.func q) #[a] #[],ty,ps,af,g⟩).run P w= .ok (.value (.func (.func q) #[v] #[])) w:=by
  simp[execOp,Instr.makeFunc,h]
theorem Fg {cs:Array Value} {n sz:Nat} {v:Value} {k:IntKind} {i:Nat} (hx:dg f x= .agg cs) (hy:dg f y= .int k (i:Int)) (hu:P.underlying t=some (.array n e)) (hi:i<n) (hs:(sizeOf e).run P w= .ok sz w) (hp:(part e cs (i*sz)).run P w= .ok v w):
    (execOp (dg f) ⟨d, .index t x y,ty,ps,af,g⟩).run P w= .ok (.value v) w:=by
  simp[execOp,hx,hy,Instr.index,asIntOf,run_underlying hu,hi,hs,hp]
end
section
variable {P:Program} {fr:Nat→Value} {w:World} {d:Option Nat} {ty:TypeId} {ps:String} {af:Array Edge} {g:Option (Nat×Bool)} {x y:Operand} {t kt et:TypeId} {b:Nat}
variable {α β:Type} [DecidableEq α] {enc:α→Value} {encV:β→Value} {l:List (α×β)} {k:α} {S:Value→Prop}
theorem BM {z0:Value} {v0:β} (hx:dg fr x= .map (some b)) (hy:dg fr y=enc k) (hT:mU P t=some (kt,et)) (KO:qc P kt S) (hS:∀a,S (enc a)) (hi:∀a a',enc a=enc a'→a=a')
    (hz:dT P et=some z0) (hz0:z0=encV v0) (hm:du enc encV w b l):
    (execOp (dg fr) ⟨d, .lookup t x y true,ty,ps,af,g⟩).run P w= .ok (.value (.tuple #[encV ((iy l k).getD v0), .bool (iy l k).isSome])) w:=by
  subst hz0
  obtain⟨f,clock,hm⟩:=hm
  unfold dT at hz
  obtain⟨i,hi2,hzz⟩:=Do.1 hz
  rcases tX (P:=P) (kt:=kt) (encV:=encV) KO hS hi (f:=f) hm.nodup w k with ⟨h1,h2⟩|⟨j,v,h1,h2,h3⟩
  · rw[oX.2 h2]
    simp[execOp,hx,hy,Instr.lookup,run_underlying (iP hT),getObj,Sem.run,hm.heap,Result.andThen,KO.check w _ (hS k),h1,zeroValue,typeInfo,hi2,hzz]
  · rw[h3]
    simp[execOp,hx,hy,Instr.lookup,run_underlying (iP hT),getObj,Sem.run,hm.heap,Result.andThen,KO.check w _ (hS k),h1]
end
def PD (Ta Tn:TypeId) (N ba bm R bx:Nat) (res:(Nat→Prop)→(Nat→Prop)→Nat→Prop) (w:World) (ns:List Nd) (c l:Nat) (S:Nat→Prop) (v:Value) (w':World):Prop:=
  ∃(ns':List Nd) (id:Nat) (er:Int) (dl:List ((Nat×Nat)×Int)),v= .tuple #[.int .i64 (id:Int), .int .i64 er]∧Dx Tn N [bx,ba,bm] w w'∧fC Ta Tn N ba bm R w' ns'∧jY ns ns' R c l S id er∧du pz eH w' bx dl∧sB res ns' dl
theorem PD.dx {Ta Tn:TypeId} {N ba bm R bx:Nat} {res:(Nat→Prop)→(Nat→Prop)→Nat→Prop} {w w':World} {ns:List Nd} {c l:Nat} {S:Nat→Prop} {v:Value} (h:PD Ta Tn N ba bm R bx res w ns c l S v w'):Dx Tn N [bx,ba,bm] w w':=by
  obtain⟨_,_,_,_,_,h,_⟩:=h;exact h
section
variable {Ta Tn T:TypeId} {N N' ba bm R b bx sz:Nat} {w w':World} {ns:List Nd} {c:Array Value} {dl:List ((Nat×Nat)×Int)}
theorem ab6 (k:fC Ta Tn N ba bm R w ns) (hq:du pz eH w bx dl) (hx:Dx Tn N [bx,ba,bm] w w') (hm:At w b c T) (hTa:T≠Ta) (hTn:T≠Tn):At w' b c T:=At.dx3 k hx hm hTa hTn (ab9 hm hq)
theorem Dx.done {w0:World} (h:Dx Tn N [bx,ba,bm] w0 w) (k:Dx Tn N [ba,bm] w w'):Dx Tn N [bx,ba,bm] w0 w':=h.trans (k.mono (λx hx=>aai _ hx))
theorem acB (k:Dx Tn N [ba,bm] w w'):Dx Tn N [bx,ba,bm] w w':=k.mono (λx hx=>aai _ hx)
end
end
section
open Go Go.RowKit
def iE (ns:List Nd) (id:Int):Bool:=decide (2≤id∧id<(ns.length:Int)+2)
theorem Xf {ns:List Nd} {id:Int} (h:¬2≤id):Value.bool false= .bool (iE ns id):=congrArg Value.bool (decide_eq_false (λk=>h k.1)).symm
theorem XC {ns:List Nd} {id:Int} (h:¬id-2<(ns.length:Int)):Value.bool false= .bool (iE ns id):=congrArg Value.bool (decide_eq_false (λk=>h (by omega))).symm
theorem YO {ns:List Nd} {id:Int} {x:Nat} (h:2≤id) (h2:id-2<(ns.length:Int)):Value.bool (decide (¬((x:Nat):Int)= -1))= .bool (iE ns id):=congrArg Value.bool (by
  rw[decide_eq_true (show ¬((x:Nat):Int)= -1 by omega)]
  exact(decide_eq_true ⟨h,by omega⟩).symm)
theorem XE {ns:List Nd} {id:Nat} (h:(id:Int)=0∨(id:Int)=1):Value.int .i64 24= .int .i64 ((dQ ns id:Nat):Int):=by
  rw[l6 (by omega)];rfl
theorem YH {ns:List Nd} {id:Nat} (h:¬(id:Int)=0) (h2:¬(id:Int)=1):Value.int .i64 (((ns.getD ((id:Int)-2).toNat n7).l:Nat):Int)= .int .i64 ((dQ ns id:Nat):Int):=by
  obtain⟨i,rfl⟩:∃i,id=i+2:=⟨id-2,by omega⟩
  rw[kg,show (((i+2:Nat):Int)-2).toNat=i by omega]
theorem Wj {ns:List Nd} {id:Nat} (hid:id<ns.length+2) (h:¬(id:Int)=0) (h2:¬(id:Int)=1) (h3:iE ns (id:Int)=false):False:=by
  have:=of_decide_eq_false h3
  omega
def mW (ns:List Nd) (id:Int):Nd:=if iE ns id=true then ns.getD (id-2).toNat n7 else n7
theorem Q5 {ns:List Nd} {id:Int} (h:(!iE ns id)=true):iE ns id=false∧mW ns id=n7:=by
  have h2:iE ns id=false:=by cases k:iE ns id<;>simp_all
  exact⟨h2,by unfold mW;rw[h2];rfl⟩
theorem SF {ns:List Nd} {id:Int} (h:(!iE ns id)=false):iE ns id=true∧mW ns id=ns.getD (id-2).toNat n7:=by
  have h2:iE ns id=true:=by cases k:iE ns id<;>simp_all
  exact⟨h2,by unfold mW;rw[h2];rfl⟩
theorem pi {ns:List Nd} {id:Int}:iE ns id=true↔2≤id∧id<(ns.length:Int)+2:=decide_eq_true_iff
def ur (ns:List Nd) (id:Int):Int:=if 0≤id∧id<(ns.length:Int)+2 then ((dQ ns id.toNat:Nat):Int)else-1
theorem Xy {ns:List Nd} {id:Int} (h:id=0∨id=1):Value.int .i64 24= .int .i64 (ur ns id):=by
  unfold ur
  rw[if_pos ⟨by omega,by omega⟩,l6 (by omega)];rfl
theorem Y6 {ns:List Nd} {id:Int} (h3:iE ns id=true):Value.int .i64 (((mW ns id).l:Nat):Int)= .int .i64 (ur ns id):=by
  have h4:=pi.1 h3
  unfold mW ur
  rw[h3,if_pos rfl,if_pos ⟨by omega,by omega⟩]
  obtain⟨i,rfl⟩:∃i:Nat,id=((i+2:Nat):Int):=⟨(id-2).toNat,by omega⟩
  rw[so,kg,show (((i+2:Nat):Int)-2).toNat=i by omega]
theorem Y1 {ns:List Nd} {id:Int} (h:¬id=0) (h2:¬id=1) (h3:iE ns id=false):Value.int .i64 (-1)= .int .i64 (ur ns id):=by
  have:=of_decide_eq_false h3
  unfold ur
  rw[if_neg (by omega)]
theorem EJ {ns:List Nd} {id:Nat} (h:id<ns.length+2):ur ns (id:Int)=((dQ ns id:Nat):Int):=by
  unfold ur
  rw[if_pos ⟨by omega,by omega⟩,so]
def oL (ns:List Nd) (id:Int):Bool:=decide (0≤id∧id<(ns.length:Int)+2)
theorem Gm {ns:List Nd} {id:Int}:oL ns id=true↔0≤id∧id<(ns.length:Int)+2:=decide_eq_true_iff
theorem WJ {ns:List Nd} {id:Int} (h:ur ns id<0):¬oL ns id=true:=λk=>by
  have:=Gm.1 k
  unfold ur at h
  rw[if_pos this]at h
  omega
theorem VY {ns:List Nd} {id:Int} (h:¬ur ns id<0):oL ns id=true:=Gm.2 (by
  unfold ur at h
  split at h
  · assumption
  · omega)
theorem RT {ns:List Nd} {li:List Int} {k:Nat} (hk:k<li.length) (h:ur ns (li.getD k 0)<0):Value.bool false= .bool (li.all (oL ns)):=congrArg Value.bool (Eq.symm (aah.2 λq=>WJ h (aaj.1 q _ (dy hk))))
theorem RX {ns:List Nd} {li:List Int} {k:Nat} (hk:k=li.length) (h:∀q,q<k→oL ns (li.getD q 0)=true):Value.bool true= .bool (li.all (oL ns)):=congrArg Value.bool (Eq.symm (aaj.2 λx hx=>by
  obtain⟨j,hj,rfl⟩:=abV hx
  have:=h j (by omega)
  rwa [me,th hj]at this))
theorem UN {ns:List Nd} (h:Wf ns) {n:Nd} (hs:(iy (qt ns) n).isSome=true):∃i,i<ns.length∧ns.getD i n7=n∧(iy (qt ns) n).getD 0=((i+2:Nat):Int):=by
  cases k:iy (qt ns) n with
  |none=>rw[k]at hs;cases hs
  |some v=>
    obtain⟨i,h1,h2,h3⟩:=Kv h.nd k
    exact⟨i,h1,h2,h3⟩
theorem Vv {ns:List Nd} {n:Nd} (hs:(iy (qt ns) n).isSome=false):n∉ns:=by
  cases k:iy (qt ns) n with
  |none=>exact Ke k
  |some v=>rw[k]at hs;cases hs
theorem Ue {ns:List Nd} (h:Wf ns) {i l lo hi R c:Nat} (hi':i<ns.length) (hn:ns.getD i n7=⟨l,lo,hi⟩):jY ns ns R c l (up l (M ns lo) (M ns hi)) (i+2) 0:=by
  refine jY.same (by omega) (by rw[kg,hn];exact am _) λx=> ?_
  rw[jb h hi',hn,Z6,aag]
  exact or_congr Iff.rfl ⟨λ⟨y,a,b⟩=>⟨y,a,b.symm⟩,λ⟨y,a,b⟩=>⟨y,a,b.symm⟩⟩
theorem Um {ns:List Nd} {l lo hi R:Nat} (hlo:lo<ns.length+2) (hhi:hi<ns.length+2):jY ns (ns++[⟨l,lo,hi⟩]) R 1 l (up l (M ns lo) (M ns hi)) (ns.length+2) 0:=by
  refine⟨List.prefix_append _ _,by simp, .inl ⟨rfl,by simp,?_,λx=> ?_⟩⟩
  · rw[kg,me,aaI (am _),Nat.sub_self]
    exact am _
  · rw[sG,Z6,aag]
    exact or_congr Iff.rfl ⟨λ⟨y,a,b⟩=>⟨y,a,b.symm⟩,λ⟨y,a,b⟩=>⟨y,a,b.symm⟩⟩
theorem Rv {ns:List Nd} {R c l:Nat} {S:Nat→Prop} (h:R≤ns.length):jY ns ns R c l S 0 5:=⟨aba _,by omega, .inr ⟨rfl,rfl,h⟩⟩
theorem KS {ns:List Nd} {l lo hi:Nat} (h:(hi:Int)=0):∀x,x∈dr ns lo↔up l (M ns lo) (M ns hi) x:=λx=>by
  obtain rfl:hi=0:=by omega
  unfold up
  exact⟨.inl,λk=>k.elim _root_.id λ⟨y,hy,_⟩=>absurd hy (Nt ns y)⟩
theorem AR {ns:List Nd} {f:Nat} (h:iE ns (f:Int)=true):2≤f∧mW ns (f:Int)=ns.getD (f-2) n7∧dQ ns f=(mW ns (f:Int)).l:=by
  have h4:=pi.1 h
  unfold mW
  rw[h,if_pos rfl]
  obtain⟨i,rfl⟩:∃i,f=i+2:=⟨f-2,by omega⟩
  rw[show (((i+2:Nat):Int)-2).toNat=i by omega]
  exact⟨by omega,rfl,kg i⟩
theorem Y5 {ns:List Nd} {f l:Nat} (h:iE ns (f:Int)=true) (hl:((mW ns (f:Int)).l:Int)=(l:Int)):Value.tuple #[.int .i64 ((mW ns (f:Int)).lo:Int), .int .i64 ((mW ns (f:Int)).hi:Int)]= .tuple #[.int .i64 ((dH ns f l:Nat):Int), .int .i64 ((dY ns f l:Nat):Int)]:=by
  obtain⟨h1,h2,h3⟩:=AR h
  unfold dH dY
  rw[if_pos ⟨h1,by omega⟩,if_pos ⟨h1,by omega⟩,h2]
theorem Xn {ns:List Nd} {f l:Nat} (hf:f<ns.length+2) (h:¬(iE ns (f:Int)=true∧((mW ns (f:Int)).l:Int)=(l:Int))):Value.tuple #[.int .i64 (f:Int), .int .i64 0]= .tuple #[.int .i64 ((dH ns f l:Nat):Int), .int .i64 ((dY ns f l:Nat):Int)]:=by
  unfold dH dY
  have hc:¬(2≤f∧dQ ns f=l):=λ⟨a,b⟩=>h (by
    have ht:iE ns (f:Int)=true:=pi.2 (by omega)
    obtain⟨_,_,h3⟩:=AR ht
    exact⟨ht,by omega⟩)
  rw[if_neg hc,if_neg hc]
  rfl
end
section
open Go Go.RowKit
theorem Mc {b:Bool} (h:(!b)=true):b=false:=by cases b<;>simp_all
theorem Cw {a b:Nat}:decide ((a:Int)=(b:Int))=decide (a=b):=by
  by_cases h:a=b
  · rw[decide_eq_true h,decide_eq_true (by omega)]
  · rw[decide_eq_false h,decide_eq_false (by omega)]
theorem XG {f g:Nat} (h:(f:Int)=0∨(f:Int)=(g:Int)):Value.tuple #[.int .i64 (g:Int), .bool true]= .tuple #[.int .i64 ((pb.ends f g).1:Int), .bool (pb.ends f g).2]:=by
  have e:pb.ends f g=(g,true):=if_pos (by omega)
  rw[e]
theorem Zh {f g:Nat} (h:¬(f:Int)=0) (h2:¬(f:Int)=(g:Int)):Value.tuple #[.int .i64 (f:Int), .bool (decide ((g:Int)=0))]= .tuple #[.int .i64 ((pb.ends f g).1:Int), .bool (pb.ends f g).2]:=by
  have e:pb.ends f g=(f,decide (g=0)):=if_neg (by omega)
  rw[e,show decide ((g:Int)=0)=decide (g=0) from Cw (b:=0)]
theorem Xo {f g:Nat} (h:(f:Int)=0∨(f:Int)=(g:Int)):Value.tuple #[.int .i64 0, .bool true]= .tuple #[.int .i64 ((vl.ends f g).1:Int), .bool (vl.ends f g).2]:=by
  have e:vl.ends f g=(0,true):=if_pos (by omega)
  rw[e];rfl
theorem Y3 {f g:Nat} (h:¬(f:Int)=0) (h2:¬(f:Int)=(g:Int)):Value.tuple #[.int .i64 (f:Int), .bool (decide ((g:Int)=0))]= .tuple #[.int .i64 ((vl.ends f g).1:Int), .bool (vl.ends f g).2]:=by
  have e:vl.ends f g=(f,decide (g=0)):=if_neg (by omega)
  rw[e,show decide ((g:Int)=0)=decide (g=0) from Cw (b:=0)]
theorem Yn {f g:Nat} (h:(f:Int)=0∨(g:Int)=0):Value.tuple #[.int .i64 0, .bool true]= .tuple #[.int .i64 ((rn.ends f g).1:Int), .bool (rn.ends f g).2]:=by
  have e:rn.ends f g=(0,true):=if_pos (by omega)
  rw[e];rfl
theorem YT {f g:Nat} (h:¬(f:Int)=0) (h2:¬(g:Int)=0) (h3:(f:Int)=1):Value.tuple #[.int .i64 (g:Int), .bool true]= .tuple #[.int .i64 ((rn.ends f g).1:Int), .bool (rn.ends f g).2]:=by
  have e:rn.ends f g=(g,true):=(if_neg (by omega)).trans (if_pos (by omega))
  rw[e]
theorem Y8 {f g:Nat} (h:¬(f:Int)=0) (h2:¬(g:Int)=0) (h3:¬(f:Int)=1):Value.tuple #[.int .i64 (f:Int), .bool (decide ((g:Int)=1))]= .tuple #[.int .i64 ((rn.ends f g).1:Int), .bool (rn.ends f g).2]:=by
  have e:rn.ends f g=(f,decide (g=1)):=(if_neg (by omega)).trans (if_neg (by omega))
  rw[e,show decide ((g:Int)=1)=decide (g=1) from Cw (b:=1)]
theorem jY.low {ns ns':List Nd} {R c l l2:Nat} {S:Nat→Prop} {id:Nat} {er:Int} (g:jY ns ns' R c l S id er) (h:l2≤l):jY ns ns' R c l2 S id er:=
  ⟨g.pre,g.cost,g.res.imp (λ⟨a,b,d,e⟩=>⟨a,b,by omega,e⟩) _root_.id⟩
theorem jY.cheap {ns ns':List Nd} {R c c2 l:Nat} {S:Nat→Prop} {id:Nat} {er:Int} (g:jY ns ns' R c l S id er) (h:c≤c2):jY ns ns' R c2 l S id er:=g.weak h (λ_=>Iff.rfl)
theorem OJ {res:(Nat→Prop)→(Nat→Prop)→Nat→Prop} {ns:List Nd} {dl:List ((Nat×Nat)×Int)} {f g:Nat} (h:sB res ns dl) (hs:(iy dl (f,g)).isSome=true):
    ∃id:Nat,(iy dl (f,g)).getD 0=(id:Int)∧id<ns.length+2∧min (dQ ns f) (dQ ns g)≤dQ ns id∧∀x,x∈dr ns id↔res (M ns f) (M ns g) x:=by
  cases k:iy dl (f,g)with
  |none=>rw[k]at hs;cases hs
  |some v=>
    obtain⟨id,h1,h2,h3,h4⟩:=(h _ (zq k)).id
    exact⟨id,h1,h2,h3,h4⟩
theorem L6 {res:(Nat→Prop)→(Nat→Prop)→Nat→Prop} {ns ns':List Nd} {dl:List ((Nat×Nat)×Int)} {f g id l R c:Nat} {er:Int} (h:sB res ns' dl) (hf:f<ns.length+2) (hg:g<ns.length+2) (hl:min (dQ ns f) (dQ ns g)=l) (hgot:jY ns ns' R c l (res (M ns f) (M ns g)) id er) (he:er=0):sB res ns' (iz dl (f,g) (id:Int)):=λp hp=>by
  rcases EQ hp with hp|rfl
  · exact h p hp
  · obtain⟨v1,v2,v3⟩:=hgot.ok he
    obtain⟨a1,a2,a3⟩:=hgot.old hf
    obtain⟨b1,b2,b3⟩:=hgot.old hg
    refine⟨a1,b1,id,rfl,v1,by rw[a3,b3,hl];exact v2,?_⟩
    rw[i7 hgot.pre hf,i7 hgot.pre hg]
    exact v3
theorem sB.nil {res:(Nat→Prop)→(Nat→Prop)→Nat→Prop} {ns:List Nd}:sB res ns []:=λp h=>by cases h
theorem jt:∀{l1 l2:List Nat},l1.Nodup→(∀x,x∈l1→x∈l2)→l1.length≤l2.length
  |[],_,_,_=>my _
  |x::xs,l2,hn,hs=>by
    obtain⟨h1,h2⟩:=List.nodup_cons.1 hn
    have hx:=hs x (aab ..)
    have:=jt (l2:=l2.erase x) h2 (λy hy=>(List.mem_erase_of_ne (λ(e:y=x)=>h1 (e▸hy))).2 (hs y (aai _ hy)))
    rw[abr hx]at this
    have hp:=aaG hx
    rw[aak];omega
theorem Lb {ns ns':List Nd} (h:Wf ns') {id a b:Nat} (hid:id<ns'.length+2) (hs:∀x,x∈dr ns' id→nW (M ns a) (M ns b) x):(dr ns' id).length≤(dr ns a).length*(dr ns b).length:=by
  have h1:=jt (l2:=(dr ns a).flatMap λx=>(dr ns b).map λy=>x ||| y) (jH h id hid) (λx hx=>by
    obtain⟨p,q,hp,hq,rfl⟩:=hs x hx
    exact abY.2 ⟨p,hp,aag.2 ⟨q,hq,rfl⟩⟩)
  have h2:∀(l:List Nat),(l.flatMap λx=>(dr ns b).map λy=>x ||| y).length=l.length*(dr ns b).length:=λl=>by
    induction l with
    |nil=>simp
    |cons x l ih=>rw[aaE,An,aaD,ih,aak,aaR];omega
  rw[h2]at h1
  exact h1
def DD (f0 f1 i:Nat):Nat:=[f1,f0,f1].getD i 0
def Dz (g0 g1 i:Nat):Nat:=[g0,g1,g1].getD i 0
def JU (A0 A1 B0 B1:Nat→Prop) (i:Nat) (x:Nat):Prop:=(1≤i∧nW A1 B0 x)∨(2≤i∧nW A0 B1 x)∨(3≤i∧nW A1 B1 x)
def YU (a0 a1 b0 b1:Nat):Nat→Nat
  |0=>0
  |1=>a1*b0
  |2=>a1*b0+a0*b1
  |_=>a1*b0+a0*b1+a1*b1
def Px (ns:List Nd) (l f0 f1 g0 g1:Nat):Nat→Nat
  |0=>0
  |1=>qv ns f1 g0
  |2=>qv ns f1 g0+qv ns f0 g1+(kJ ns f0 f1 g0 g1-(l+1))*min ((dr ns f1).length*(dr ns g0).length) ((dr ns f0).length*(dr ns g1).length)
  |_=>qv ns f1 g0+qv ns f0 g1+qv ns f1 g1+Pw ns l f0 f1 g0 g1
theorem YI (A0 A1 B0 B1:Nat→Prop) (ns:List Nd) (x:Nat):x∈dr ns 0↔JU A0 A1 B0 B1 0 x:=by
  rw[ny]
  unfold JU
  exact⟨λh=>(by cases h),λh=>(by omega)⟩
theorem YL (A0 A1 B0 B1:Nat→Prop) (x:Nat):JU A0 A1 B0 B1 3 x↔rn.resH A0 A1 B0 B1 x:=by
  unfold JU rn
  simp
theorem ZE {A0 A1 B0 B1 P Q:Nat→Prop} {i:Nat} (hi:i<3) (hP:P=[A1,A0,A1].getD i A0) (hQ:Q=[B0,B1,B1].getD i B0) (x:Nat):(JU A0 A1 B0 B1 i x∨nW P Q x)↔JU A0 A1 B0 B1 (i+1) x:=by
  subst hP hQ
  have:i=0∨i=1∨i=2:=by omega
  unfold JU
  rcases this with rfl|rfl|rfl
  · constructor
    · rintro(h|h)
      · omega
      · exact .inl ⟨by omega,h⟩
    · rintro(h|h|h)
      · exact .inr h.2
      · omega
      · omega
  · constructor
    · rintro((h|h|h)|h)
      · exact .inl ⟨by omega,h.2⟩
      · omega
      · omega
      · exact .inr (.inl ⟨by omega,h⟩)
    · rintro(h|h|h)
      · exact .inl (.inl ⟨by omega,h.2⟩)
      · exact .inr h.2
      · omega
  · constructor
    · rintro((h|h|h)|h)
      · exact .inl ⟨by omega,h.2⟩
      · exact .inr (.inl ⟨by omega,h.2⟩)
      · omega
      · exact .inr (.inr ⟨by omega,h⟩)
    · rintro(h|h|h)
      · exact .inl (.inl ⟨by omega,h.2⟩)
      · exact .inl (.inr (.inl ⟨by omega,h.2⟩))
      · exact .inr h.2
theorem Mz {ns:List Nd} {l f0 f1 g0 g1 i:Nat} (hi:i<3):Px ns l f0 f1 g0 g1 i+(qv ns (DD f0 f1 i) (Dz g0 g1 i)+(kJ ns f0 f1 g0 g1-(l+1))*min (YU (dr ns f0).length (dr ns f1).length (dr ns g0).length (dr ns g1).length i) ((dr ns (DD f0 f1 i)).length*(dr ns (Dz g0 g1 i)).length))=Px ns l f0 f1 g0 g1 (i+1):=by
  have:i=0∨i=1∨i=2:=by omega
  rcases this with rfl|rfl|rfl
  · show 0+(qv ns f1 g0+_*min 0 _)=qv ns f1 g0
    rw[Nat.zero_min,Nat.mul_zero];omega
  · show qv ns f1 g0+(qv ns f0 g1+_*min _ _)=qv ns f1 g0+qv ns f0 g1+_*min _ _
    exact(Nat.add_assoc _ _ _).symm
  · show qv ns f1 g0+qv ns f0 g1+(kJ ns f0 f1 g0 g1-(l+1))*min ((dr ns f1).length*(dr ns g0).length) ((dr ns f0).length*(dr ns g1).length)+(qv ns f1 g1+(kJ ns f0 f1 g0 g1-(l+1))*min ((dr ns f1).length*(dr ns g0).length+(dr ns f0).length*(dr ns g1).length) ((dr ns f1).length*(dr ns g1).length))=qv ns f1 g0+qv ns f0 g1+qv ns f1 g1+Pw ns l f0 f1 g0 g1
    unfold Pw uJ
    omega
theorem TA (ns:List Nd) (l f0 f1 g0 g1:Nat) {i:Nat} (h:i≤3):Px ns l f0 f1 g0 g1 i≤Px ns l f0 f1 g0 g1 3:=by
  have s0:=Mz (ns:=ns) (l:=l) (f0:=f0) (f1:=f1) (g0:=g0) (g1:=g1) (show 0<3 by decide)
  have s1:=Mz (ns:=ns) (l:=l) (f0:=f0) (f1:=f1) (g0:=g0) (g1:=g1) (show 1<3 by decide)
  have s2:=Mz (ns:=ns) (l:=l) (f0:=f0) (f1:=f1) (g0:=g0) (g1:=g1) (show 2<3 by decide)
  simp only[aa1,Nat.reduceAdd]at s0 s1 s2
  have:i=0∨i=1∨i=2∨i=3:=by omega
  rcases this with rfl|rfl|rfl|rfl<;>omega
theorem XV {ns:List Nd} {l f0 f1 g0 g1 i:Nat} (hi:i<3):Px ns l f0 f1 g0 g1 i+qv ns (DD f0 f1 i) (Dz g0 g1 i)≤Px ns l f0 f1 g0 g1 3:=by
  refine an ?_ (TA _ _ _ _ _ _ (show i+1≤3 by omega))
  rw[←Mz hi]
  omega
theorem zS (F G:List Nat):(F.flatMap λx=>G.map λy=>x ||| y).length=F.length*G.length:=by
  induction F with
  |nil=>simp
  |cons x F ih=>rw[aaE,An,aaD,ih,aak,aaR,aap];omega
theorem zA {F G:List Nat} {x:Nat} (h:nW (·∈F) (·∈G) x):x∈F.flatMap λx=>G.map λy=>x ||| y:=by
  obtain⟨p,q,hp,hq,rfl⟩:=h
  exact abY.2 ⟨p,hp,aag.2 ⟨q,hq,rfl⟩⟩
theorem Sk {ns nsc:List Nd} (h:Wf nsc) {f0 f1 g0 g1 i out:Nat} (ho:out<nsc.length+2) (hi:i<3) (hs:∀x,x∈dr nsc out→JU (M ns f0) (M ns f1) (M ns g0) (M ns g1) i x):(dr nsc out).length≤YU (dr ns f0).length (dr ns f1).length (dr ns g0).length (dr ns g1).length i:=by
  have hn:=jH h out ho
  have:i=0∨i=1∨i=2:=by omega
  rcases this with rfl|rfl|rfl
  · have:=jt (l2:=[]) hn (λx hx=>by
      have:=hs x hx
      unfold JU at this
      omega)
    exact this
  · have:=jt (l2:=(dr ns f1).flatMap λx=>(dr ns g0).map λy=>x ||| y) hn (λx hx=>by
      rcases hs x hx with h|h|h
      · exact zA h.2
      · omega
      · omega)
    rwa [zS]at this
  · have:=jt (l2:=((dr ns f1).flatMap λx=>(dr ns g0).map λy=>x ||| y)++((dr ns f0).flatMap λx=>(dr ns g1).map λy=>x ||| y)) hn (λx hx=>by
      rcases hs x hx with h|h|h
      · exact Z6.2 (.inl (zA h.2))
      · exact Z6.2 (.inr (zA h.2))
      · omega)
    rwa [An,zS,zS]at this
theorem xv {ns:List Nd} {f g K x:Nat} (hf:tp ns f≤K) (hg:tp ns g≤K) (h:nW (M ns f) (M ns g) x):x<2^K:=by
  obtain⟨a,b,ha,hb,rfl⟩:=h
  exact Nat.or_lt_two_pow (mm.1 hf a ha) (mm.1 hg b hb)
theorem Xz {ns nsc:List Nd} {f0 f1 g0 g1 i out:Nat} (hs:∀x,x∈dr nsc out→JU (M ns f0) (M ns f1) (M ns g0) (M ns g1) i x):tp nsc out≤kJ ns f0 f1 g0 g1:=mm.2 λx hx=>by
  have k:tp ns f0≤kJ ns f0 f1 g0 g1∧tp ns f1≤kJ ns f0 f1 g0 g1∧tp ns g0≤kJ ns f0 f1 g0 g1∧tp ns g1≤kJ ns f0 f1 g0 g1:=by unfold kJ;omega
  rcases hs x hx with h|h|h
  · exact xv k.2.1 k.2.2.1 h.2
  · exact xv k.1 k.2.2.2 h.2
  · exact xv k.2.1 k.2.2.2 h.2
theorem qM {i:Nat} (hi:i<3) (f0 f1:Nat):DD f0 f1 i=f0∨DD f0 f1 i=f1:=by
  have:i=0∨i=1∨i=2:=by omega
  rcases this with rfl|rfl|rfl
  · exact .inr rfl
  · exact .inl rfl
  · exact .inr rfl
theorem rm {i:Nat} (hi:i<3) (g0 g1:Nat):Dz g0 g1 i=g0∨Dz g0 g1 i=g1:=by
  have:i=0∨i=1∨i=2:=by omega
  rcases this with rfl|rfl|rfl
  · exact .inl rfl
  · exact .inr rfl
  · exact .inr rfl
theorem Vl {ns nsc ns1 ns2:List Nd} {R l i f0 f1 g0 g1 out id id2:Nat} {er2:Int} (hw:Wf ns) (hcw:Wf nsc) (h1w:Wf ns1) (hi:i<3) (hl:l<24)
    (v0:f0<ns.length+2) (v1:f1<ns.length+2) (v2:g0<ns.length+2) (v3:g1<ns.length+2) (k0:l<dQ ns f0) (k1:l<dQ ns f1) (k2:l<dQ ns g0) (k3:l<dQ ns g1)
    (g:jY ns nsc R (Px ns l f0 f1 g0 g1 i) (l+1) (JU (M ns f0) (M ns f1) (M ns g0) (M ns g1) i) out 0)
    (gd:jY nsc ns1 R (rn.cst nsc (DD f0 f1 i) (Dz g0 g1 i)) (min (dQ nsc (DD f0 f1 i)) (dQ nsc (Dz g0 g1 i))) (rn.res (M nsc (DD f0 f1 i)) (M nsc (Dz g0 g1 i))) id 0)
    (gu:jY ns1 ns2 R (pb.cst ns1 out id) (min (dQ ns1 out) (dQ ns1 id)) (pb.res (M ns1 out) (M ns1 id)) id2 er2):
    jY ns ns2 R (Px ns l f0 f1 g0 g1 (i+1)) (l+1) (JU (M ns f0) (M ns f1) (M ns g0) (M ns g1) (i+1)) id2 er2:=by
  obtain⟨o1,o2,o3⟩:=g.ok rfl
  obtain⟨d1,d2,d3⟩:=gd.ok rfl
  obtain⟨q1,q2,q3⟩:=gd.old o1
  have hpx:DD f0 f1 i<ns.length+2:=by rcases qM hi f0 f1 with e|e<;>rw[e]<;>assumption
  have hpy:Dz g0 g1 i<ns.length+2:=by rcases rm hi g0 g1 with e|e<;>rw[e]<;>assumption
  have hlx:l<dQ ns (DD f0 f1 i):=by rcases qM hi f0 f1 with e|e<;>rw[e]<;>assumption
  have hly:l<dQ ns (Dz g0 g1 i):=by rcases rm hi g0 g1 with e|e<;>rw[e]<;>assumption
  obtain⟨x1,x2,x3⟩:=g.old hpx
  obtain⟨y1,y2,y3⟩:=g.old hpy
  have hc:=Lb (ns:=nsc) h1w d1 (λx hx=>(d3 x).1 hx)
  rw[x2,y2]at hc
  have hco:=Sk hcw o1 hi (λx hx=>(o3 x).1 hx)
  have hto:tp ns1 out≤kJ ns f0 f1 g0 g1:=by rw[zr gd.pre o1];exact Xz (λx hx=>(o3 x).1 hx)
  have htd:tp ns1 id≤kJ ns f0 f1 g0 g1:=mm.2 λx hx=>by
    have h:=(d3 x).1 hx
    rw[i7 g.pre hpx,i7 g.pre hpy]at h
    refine xv ?_ ?_ h
    · unfold kJ;rcases qM hi f0 f1 with e|e<;>rw[e]<;>omega
    · unfold kJ;rcases rm hi g0 g1 with e|e<;>rw[e]<;>omega
  have eu:pb.cst ns1 out id≤(kJ ns f0 f1 g0 g1-(l+1))*min (YU (dr ns f0).length (dr ns f1).length (dr ns g0).length (dr ns g1).length i) ((dr ns (DD f0 f1 i)).length*(dr ns (Dz g0 g1 i)).length):=by
    refine an (SJ h1w HA.endF q1 d1 hto htd) ?_
    rw[x3,y3]at d2
    rw[q3,q2]
    exact abH (by omega) (by omega)
  have ed:rn.cst nsc (DD f0 f1 i) (Dz g0 g1 i)=qv ns (DD f0 f1 i) (Dz g0 g1 i):=uk g.pre hw hpx hpy
  rw[ed]at gd
  refine(((g.then' gd (am _)).then' gu (am _)).weak (c:=Px ns l f0 f1 g0 g1 (i+1)) ?_ λx=> ?_).low (by rw[x3,y3]at d2;omega)
  · rw[←Mz hi]
    omega
  · have ePx:([M ns f1,M ns f0,M ns f1].getD i (M ns f0))=M ns (DD f0 f1 i):=by
      have:i=0∨i=1∨i=2:=by omega
      rcases this with rfl|rfl|rfl<;>rfl
    have ePy:([M ns g0,M ns g1,M ns g1].getD i (M ns g0))=M ns (Dz g0 g1 i):=by
      have:i=0∨i=1∨i=2:=by omega
      rcases this with rfl|rfl|rfl<;>rfl
    rw[←ZE hi rfl rfl,ePx,ePy]
    refine or_congr ?_ ?_
    · show x∈dr ns1 out↔_
      rw[q2];exact o3 x
    · rw[←i7 g.pre hpx,←i7 g.pre hpy]
      exact d3 x
end
section
open Go Go.RowKit
theorem DL {n l:Nat}:((n/2^l &&& 1:Nat):Int)=1↔n.testBit l=true:=by
  rw[Nat.and_one_is_mod,aaL,decide_eq_true_eq]
  omega
section
variable {P:Program} {f:Nat→Value} {w:World} {d:Option Nat} {ty:TypeId} {ps:String} {af:Array Edge} {g:Option (Nat×Bool)} {x y:Operand} {t t2:TypeId}
theorem VI {a b:Int} {yk:IntKind} (hx:dg f x= .int .i64 a) (hy:dg f y= .int yk b) (h0:0≤a) (hb:0≤b) (hl:b≤64):(execOp (dg f) ⟨d, .binOp .shr t x y t2,ty,ps,af,g⟩).run P w= .ok (.value (.int .i64 ((a.toNat/2^b.toNat:Nat):Int))) w:=by
  obtain⟨m,rfl⟩:=aau h0
  rw[qd hx hy hb (by simpa [IntKind.bits] using hl),so]
end
def TX (n l:Nat):Nat:=n/2^l*2^l
theorem I9 (n l:Nat):TX n l=TX n (l+1)+(if n.testBit l then 2^l else 0):=by
  unfold TX
  have e:n/2^(l+1)=n/2^l/2:=by rw[Nat.div_div_eq_div_mul,aa4]
  have hb:n.testBit l=decide (n/2^l%2=1):=aaL
  rw[e,hb,aa4]
  have h2:=Nat.div_add_mod (n/2^l) 2
  generalize n/2^l=q at*
  generalize 2^l=p at*
  by_cases h:q%2=1
  · rw[if_pos (decide_eq_true h)]
    rw[h]at h2
    conv=>lhs;rw[←h2]
    rw[aaR,aap]
    congr 1
    rw[aa3 2,Nat.mul_assoc,aa3 2 p]
  · have h0:q%2=0:=by omega
    rw[if_neg (by simpa using h)]
    rw[h0]at h2
    conv=>lhs;rw[←h2]
    rw[abl,abl,aa3 2,Nat.mul_assoc,aa3 2 p]
theorem Mv {n:Nat} (h:n<2^24):TX n 24=0:=by
  unfold TX;rw[Nat.div_eq_of_lt h,abb]
theorem Be (n:Nat):TX n 0=n:=by unfold TX;simp
def bS (l:List Int) (lv:Nat) (x:Nat):Prop:=∃m,m∈l∧x=TX m.toNat lv
def AF (l:List Int) (lv k:Nat):List Int:=(l.take k).filter λm=> !m.toNat.testBit lv
def AB (l:List Int) (lv k:Nat):List Int:=(l.take k).filter λm=>m.toNat.testBit lv
theorem Hx {l:List Int} {k:Nat} (h:k<l.length):l.take (k+1)=l.take k++[l.getD k 0]:=by
  rw[aaH,me,th h];rfl
theorem XI {l:List Int} {lv k:Nat} (h:k<l.length) (hb:(l.getD k 0).toNat.testBit lv=true):AB l lv k++[l.getD k 0]=AB l lv (k+1)∧AF l lv k=AF l lv (k+1):=by
  unfold AB AF
  rw[Hx h,abI,abI]
  simp only[abD,List.filter_nil,hb,Bool.not_true,if_true]
  simp
theorem XX {l:List Int} {lv k:Nat} (h:k<l.length) (hb:¬(l.getD k 0).toNat.testBit lv=true):AF l lv k++[l.getD k 0]=AF l lv (k+1)∧AB l lv k=AB l lv (k+1):=by
  have hb2:(l.getD k 0).toNat.testBit lv=false:=aah.2 hb
  unfold AB AF
  rw[Hx h,abI,abI]
  simp only[abD,List.filter_nil,hb2,Bool.not_false,if_true]
  simp
theorem MX (l:List Int) (lv:Nat):∀k,(AF l lv k).length+(AB l lv k).length=(l.take k).length:=λk=>by
  unfold AF AB
  generalize l.take k=q
  induction q with
  |nil=>rfl
  |cons a q ih=>
    simp only[abD]
    cases a.toNat.testBit lv<;>simp<;>omega
theorem U3 {l:List Int} {lv k:Nat} {m:Int} (h:m∈AF l lv k):m∈l:=List.mem_of_mem_take (aaN.1 h).1
theorem V2 {l:List Int} {lv k:Nat} {m:Int} (h:m∈AB l lv k):m∈l:=List.mem_of_mem_take (aaN.1 h).1
theorem MY (l:List Int) (lv x:Nat):up lv (bS (AF l lv l.length) (lv+1)) (bS (AB l lv l.length) (lv+1)) x↔bS l lv x:=by
  unfold up bS AF AB
  rw[aan]
  simp only[aaN]
  constructor
  · rintro(⟨m,⟨h1,h2⟩,rfl⟩|⟨y,⟨m,⟨h1,h2⟩,rfl⟩,rfl⟩)
    · refine⟨m,h1,?_⟩
      have h3:m.toNat.testBit lv=false:=by simpa using h2
      rw[I9 m.toNat lv,h3];rfl
    · refine⟨m,h1,?_⟩
      rw[I9 m.toNat lv,h2];rfl
  · rintro⟨m,h1,rfl⟩
    cases hb:m.toNat.testBit lv with
    |true=>exact .inr ⟨_,⟨m,⟨h1,hb⟩,rfl⟩,by rw[I9 m.toNat lv,hb];rfl⟩
    |false=>exact .inl ⟨m,⟨h1,by rw[hb];rfl⟩,by rw[I9 m.toNat lv,hb];rfl⟩
def Py:Nat→Nat→Nat→Nat
  |0,_,_=>0
  |n+1,lv,m=>(if m.testBit lv=true then 1 else 0)+Py n (lv+1) m
def xy (lv:Nat):List Int→Nat
  |[]=>0
  |m::l=>Py (24-lv) lv m.toNat+xy lv l
theorem EB {lv:Nat} (h24:lv<24) (l:List Int):xy lv l=xy (lv+1) (l.filter λm=> !m.toNat.testBit lv)+xy (lv+1) (l.filter λm=>m.toNat.testBit lv)+(l.filter λm=>m.toNat.testBit lv).length:=by
  induction l with
  |nil=>rfl
  |cons m l ih=>
    obtain⟨n,hn⟩:∃n,24-lv=n+1:=⟨24-lv-1,by omega⟩
    have e:24-(lv+1)=n:=by omega
    have h1:xy lv (m::l)=(if m.toNat.testBit lv=true then 1 else 0)+Py n (lv+1) m.toNat+xy lv l:=by rw[xy,hn,Py]
    rw[h1,ih]
    cases hb:m.toNat.testBit lv
    · simp only[abD,hb,Bool.not_false,if_true,abq,if_false,xy,e];omega
    · simp only[abD,hb,Bool.not_true,if_true,abq,if_false,xy,e,aak];omega
theorem L9:∀(l:List Int),xy 0 l≤24*l.length
  |[]=>my _
  |m::l=>by
    have ih:=L9 l
    have h1:∀n lv,Py n lv m.toNat≤n:=λn=>by
      induction n with
      |zero=>intro lv;exact my _
      |succ n ih=>intro lv;have:=ih (lv+1);rw[Py];split<;>omega
    have h2:=h1 (24-0) 0
    rw[xy,aak,Nat.mul_add,abB]
    omega
theorem K9 {ns ns1 ns2 ns3:List Nd} {l:List Int} {R lv low high id:Nat} {er:Int} (h2w:Wf ns2) (h24:lv<24) (hl:1≤l.length)
    (g1:jY ns ns1 R (xy (lv+1) (AF l lv l.length)) (lv+1) (bS (AF l lv l.length) (lv+1)) low 0) (g2:jY ns1 ns2 R (xy (lv+1) (AB l lv l.length)) (lv+1) (bS (AB l lv l.length) (lv+1)) high 0)
    (g3:jY ns2 ns3 R (min high 1) lv (up lv (M ns2 low) (M ns2 high)) id er):jY ns ns3 R (xy lv l) lv (bS l lv) id er:=by
  obtain⟨v1,_,m1⟩:=g1.ok rfl
  obtain⟨v2,_,m2⟩:=g2.ok rfl
  refine((g1.then' g2 (am _)).then' g3 (am _)).weak ?_ λx=> ?_
  · have hs:=EB h24 l
    have ew:AF l lv l.length=l.filter λm=> !m.toNat.testBit lv:=by unfold AF;rw[aan]
    have ei:AB l lv l.length=l.filter λm=>m.toNat.testBit lv:=by unfold AB;rw[aan]
    rw[←ew,←ei]at hs
    by_cases h0:high=0
    · subst h0;omega
    · obtain⟨y,hy⟩:=iW h2w high v2 h0
      obtain⟨m,hm,_⟩:=(m2 y).1 hy
      have:=aaG hm
      omega
  · rw[←MY l lv x,show M ns2 low=bS (AF l lv l.length) (lv+1)by rw[i7 g2.pre v1];exact fG m1,show M ns2 high=bS (AB l lv l.length) (lv+1) from fG m2]
theorem O8 {l:List Int} {lv:Nat} (h24:lv<24):xy (lv+1) (AF l lv l.length)+xy (lv+1) (AB l lv l.length)≤xy lv l:=by
  unfold AF AB
  rw[aan,EB h24 l]
  omega
theorem PH {ns:List Nd} {l:List Int} {lv:Nat} (h:¬(1≤l.length)) (x:Nat):x∈dr ns 0↔bS l lv x:=by
  rw[ny]
  have:l=[]:=aar (by omega)
  subst this
  exact⟨λh=>(by cases h),λ⟨m,h,_⟩=>(by cases h)⟩
theorem Qp {ns:List Nd} {l:List Int} (h:1≤l.length) (hm:∀m,m∈l→0≤m∧m<16777216) (x:Nat):x∈dr ns 1↔bS l 24 x:=by
  rw[pT,Z8]
  constructor
  · rintro rfl
    obtain⟨m,hm2⟩:=List.exists_mem_of_length_pos (show 0<l.length by omega)
    exact⟨m,hm2,(Mv (by have:=hm m hm2;omega)).symm⟩
  · rintro⟨m,h2,rfl⟩
    exact Mv (by have:=hm m h2;omega)
theorem OQ {ns ns':List Nd} (h:Wf ns') {id a:Nat} (hid:id<ns'.length+2) (hs:∀x,x∈dr ns' id→x∈dr ns a):(dr ns' id).length≤(dr ns a).length:=jt (jH h id hid) hs
def ZR (F:Nat→Prop) (x:Nat):Prop:=F x∧∀y,F y→HB x y→y=x
def UU (ns:List Nd) (id:Int):Int:=if oL ns id=true then (((dr ns id.toNat).length:Nat):Int)else 0
theorem Oi {ns:List Nd} {id:Nat} (h:id<ns.length+2):UU ns (id:Int)=(((dr ns id).length:Nat):Int):=by
  unfold UU
  rw[if_pos (Gm.2 (by omega)),so]
def CE (l:List Int):Bool:=l.all λm=>decide (0≤m∧m<16777216)
theorem sf {l:List Int}:CE l=true↔∀m,m∈l→0≤m∧m<16777216:=by
  unfold CE
  rw[aaj]
  exact⟨λh m hm=>of_decide_eq_true (h m hm),λh m hm=>decide_eq_true (h m hm)⟩
theorem TU {l:List Int} {k:Nat} (hk:k<l.length) (h:l.getD k 0<0∨16777216≤l.getD k 0):CE l=false:=aah.2 λq=>by
  have:=sf.1 q _ (dy (d:=0) hk)
  omega
theorem RU {l:List Int} {k:Nat} (hk:k=l.length) (h:∀q,q<k→0≤l.getD q 0∧l.getD q 0<16777216):CE l=true:=sf.2 λm hm=>by
  obtain⟨j,hj,rfl⟩:=abV hm
  have:=h j (by omega)
  rwa [me,th hj]at this
def PE (Ta Tn:TypeId) (N ba bm R:Nat) (w:World) (ns:List Nd) (ok:Bool) (c l:Nat) (S:Nat→Prop) (v:Value) (w':World):Prop:=
  ∃(ns':List Nd) (id:Nat) (er:Int),v= .tuple #[.int .i64 (id:Int), .int .i64 er]∧Dx Tn N [ba,bm] w w'∧fC Ta Tn N ba bm R w' ns'∧((ok=true∧jY ns ns' R c l S id er)∨(ok=false∧ns'=ns∧id=0∧er=1))
end
end Go.Proofs.YtedeonkjellcpaaGreatDoor
