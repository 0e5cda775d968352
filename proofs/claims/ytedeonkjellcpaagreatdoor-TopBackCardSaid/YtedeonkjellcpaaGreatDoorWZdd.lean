/- The walks of the search's small helps. The walk of one covering, greedily. The walk of the search. The walks of arenas and diagrams: nodes, levels, halves. -/
import Derived.Test.YtedeonkjellcpaaGreatDoorWReduce3
namespace Go.Proofs.YtedeonkjellcpaaGreatDoor
set_option linter.unusedVariables false
set_option linter.unusedSimpArgs false
section
open Go Go.RowKit
theorem qQ:mU Tryz.prog 296=some (3,3):=by kernel_rfl
theorem og (n:Int) (rv:Value) (vs:List Value) (L:ML) (w:World) (hrv:cD encV 1 35 w 0 rv vs) (hLO:LO 3 0 w vs L) (hLb:L.length≤1000000):
    Fn Tryz.prog 189 #[.agg #[.int .i64 n,rv]] w λv w'=>v= .bool (jz L L.length):=by
 refine cH (n:=16) Tryz.func189 rfl rfl rfl λhB=> ?_
 have hll:=hLO.ll
 have hvl:=hll.len
 refine Zr<|Zy (dt (c:= #[_,_]) rfl rfl λd W3 i e a=> ?_)
 replace hB:=Ze hB e
 refine Zb rfl<|ct<|Zq<|Zr<|Zf rfl dO<|ZL rv rfl eB a rfl<|Zv (cT (v:=rv) rfl ((Below.ow hB hrv)).sl dF)<|ZZ rfl<|cx ?_
 refine cS (σ:=(Nat)) [2,2,4,4,8,15] (λk=>[(8, .int .i64 (k:Int))]) (λk W=>(Below w.heap.size w W)∧(At W d _ 203)∧(k≤L.length)∧(∀q,q<k→¬((L.getD q []).length:Int)=0)∧(True)) (λk=>L.length-k) (0) ⟨rfl,trivial⟩ ⟨hB,a,(my _),ef,trivial⟩ ?_
 rintro k j l ⟨hB,a,hk,hq,_⟩ m f
 refine Zr<|Zv (dk rfl rfl)<|ct<|Zq<|ZQ rfl (λg=> ?_) λg=> ?_
 refine cu<|Zq<|cx<|Zr<|Zv (df (v:=rv) rfl ((Below.ow hB hrv)).sl rfl dF Om Om)<|Zv (cB (v:=(vs.getD k undef)) rfl dV (dh.cell ((Below.ow hB hrv)).sl fS undef Om Om 0 rfl)) ?_
 have h:dh dJ 1 w ((vs.getD k undef)) (L.getD k []):=hll.get k (by omega)
 refine Zw (vs.getD k undef) rfl<|ct<|Zr<|Zw (vs.getD k undef) rfl<|Zv (cT (v:=(vs.getD k undef)) rfl (Below.slT hB h) cM)<|Zv (dW rfl rfl)<|ct<|ZQ rfl (λb=> ?_) λb=> ?_
 refine Zr<|Zb rfl<|ct<|Zt<|cV (v:= .bool false) rfl ⟨hB,?_⟩
 exact WI (k:=k) (by omega) b
 refine cu<|ZT rfl rfl rfl ?_
 exact f _ _ (k+1) Za ⟨rfl,trivial⟩ ⟨hB,a,Om,(dG hq b),trivial⟩ Zo
 refine cR<|Zr<|Zb rfl<|ct<|Zt<|cV (v:= .bool true) rfl ⟨hB,?_⟩
 exact Xl (by omega) hq
theorem zY (n:Int) (rv:Value) (vs:List Value) (L:ML) (w:World) (hrv:cD encV 1 35 w 0 rv vs) (hLO:LO 3 0 w vs L) (hr:dN n L=true) (hLb:L.length≤1000000):
    Fn Tryz.prog 190 #[.agg #[.int .i64 n,rv]] w λv w'=>v= .int .i64 (FI L L.length:Int):=by
 refine cH (n:=42) Tryz.func190 rfl rfl rfl λhB=> ?_
 have hll:=hLO.ll
 have hvl:=hll.len
 refine Zr<|Zy (dt (c:= #[_,_]) rfl rfl λg W3 B o b=> ?_)
 replace hB:=Ze hB o
 refine ZZ rfl<|EM<|Zr<|Zy (gQ (enc:=eH) (encV:=Value.bool) λd W8 p r h=> ?_)
 have s:=ZO p hB
 obtain⟨hB,b⟩:=r.k2 hB b
 replace h:du eH Value.bool _ _ (fp []):=h
 refine Zw (.map (some d)) rfl<|ct<|Zr<|ZZ rfl<|Zq<|Et<|Zq<|Zr<|Zf rfl dO<|ZL rv rfl eB b rfl<|Zv (cT (v:=rv) rfl ((Below.ow hB hrv)).sl dF)<|Zi rfl ?_
 refine ct<|cx ?_
 refine cS (σ:=(Nat)) [4,4,6,6,8,8,10,10,15,40] (λi=>[(15, .int .i64 (i:Int)),(4, .int .i64 (FI L i:Int))]) (λi W=>(Below w.heap.size w W)∧(At W g _ 203)∧(du eH Value.bool W d (fp (Aa L i)))∧(i≤L.length)∧(True)) (λi=>L.length-i) (0) ⟨rfl,rfl,trivial⟩ ⟨hB,b,h,(my _),trivial⟩ ?_
 rintro i C D ⟨hB,b,hmu,hi,_⟩ E l
 refine Zr<|Zv (dk rfl rfl)<|ct<|Zq<|ZQ rfl (λt=> ?_) λt=> ?_
 refine cu<|Zq<|cx<|Zr<|Zv (df (v:=rv) rfl ((Below.ow hB hrv)).sl rfl dF Om Om)<|Zv (cB (v:=(vs.getD i undef)) rfl dV (dh.cell ((Below.ow hB hrv)).sl fS undef Om Om 0 rfl)) ?_
 have e:dh dJ 1 w ((vs.getD i undef)) (L.getD i []):=hll.get i (by omega)
 refine Zw (vs.getD i undef) rfl<|ct<|Zq<|Zr<|Zw (vs.getD i undef) rfl<|Zv (cT (v:=(vs.getD i undef)) rfl (Below.slT hB e) cM)<|ZZ rfl<|cx ?_
 refine cS (σ:=(Nat)) [8,8,21,28] (λj=>[(21, .int .i64 (j:Int))]) (λj W=>(Below w.heap.size w W)∧(At W g _ 203)∧(du eH Value.bool W d _)∧(j≤(L.getD i []).length)∧(∀q,q<j→(iy (fp (Aa L i)) ((L.getD i []).getD q 0)).getD false=false)∧(True)) (λj=>(L.getD i []).length-j) (0) ⟨rfl,trivial⟩ ⟨hB,b,hmu,(my _),ef,trivial⟩ ?_
 rintro j F G ⟨hB,b,hmu,hj,hq,_⟩ H u
 have hri:=fK hr i
 have hbl:=GV L i
 refine Zr<|Zv (dk rfl rfl)<|ct<|Zq<|ZQ rfl (λx=> ?_) λx=> ?_
 refine cu<|Zq<|cx<|Zr<|Zv (df (v:=(vs.getD i undef)) rfl (Below.slT hB e) rfl cM Om Om)<|Zv (cB (v:= .int .i64 _) rfl cK (dh.cell (Below.slT hB e) dI 0 Om Om 0 rfl))<|ZZ rfl<|Zr<|Zw (.map (some d)) rfl<|Zi rfl<|Zv (fV (enc:=eH) (encV:=Value.bool) (v0:=false) (k:=((L.getD i []).getD j 0)) rfl rfl mp gT (λa=>⟨a,rfl⟩) fU qj rfl hmu)<|ct ?_
 refine ZQ rfl (λf=> ?_) λf=> ?_
 refine cR ?_
 skip
 refine ZT rfl rfl rfl ?_
 exact l _ _ (i+1) Za ⟨rfl,Xm (S5 Om f),trivial⟩ ⟨hB,b,(by (rw[Yo (S5 Om f)];exact hmu)),Om,trivial⟩ Zo
 refine cu<|ZT rfl rfl rfl ?_
 exact u _ _ (j+1) Za ⟨rfl,trivial⟩ ⟨hB,b,hmu,Om,(dG hq f),trivial⟩ Zo
 refine cR ?_
 have hno:=UG (by omega) hq
 refine Zr<|Zi rfl<|Zv (eP rfl rfl Om Om)<|ZZ rfl<|Zr<|Zw (vs.getD i undef) rfl<|Zv (cT (v:=(vs.getD i undef)) rfl (Below.slT hB e) cM)<|ZZ rfl<|cx ?_
 refine cS (σ:=(Nat)) [10,10,33,39] (λj=>[(33, .int .i64 (j:Int))]) (λj W=>(Below w.heap.size w W)∧(At W g _ 203)∧(du eH Value.bool W d (fp (qs (Aa L i) (L.getD i []) j)))∧(j≤(L.getD i []).length)∧(True)) (λj=>(L.getD i []).length-j) (0) ⟨rfl,trivial⟩ ⟨hB,b,hmu,(my _),trivial⟩ ?_
 rintro j I J ⟨hB,b,hmu2,hj,_⟩ K y
 refine Zr<|Zv (dk rfl rfl)<|ct<|Zq<|ZQ rfl (λz=> ?_) λz=> ?_
 refine cu<|Zq<|cx<|Zr<|Zv (df (v:=(vs.getD i undef)) rfl (Below.slT hB e) rfl cM Om Om)<|Zv (cB (v:= .int .i64 _) rfl cK (dh.cell (Below.slT hB e) dI 0 Om Om 0 rfl))<|ZZ rfl<|cN<|Zw (.map (some d)) rfl<|Zi rfl ?_
 refine gK (dd:=none) rfl rfl rfl (fJ (enc:=eH) (encV:=Value.bool) (k:=((L.getD i []).getD j 0)) (v:=true) rfl rfl rfl mp gT (λa=>⟨a,rfl⟩) fU hmu2 (λM m A=> ?_))
 replace hB:=Zg hB m s
 replace b:=At.grownMap b hmu2 m
 replace hmu2:=A
 rw[jP]at hmu2
 refine ct<|ZT rfl rfl rfl ?_
 exact y _ _ (j+1) Za ⟨rfl,trivial⟩ ⟨hB,b,(by exact hmu2),Om,trivial⟩ Zo
 refine cR ?_
 obtain rfl:j=(L.getD i []).length:=by omega
 refine ZT rfl rfl rfl ?_
 exact l _ _ (i+1) Za ⟨rfl,Xa hno,trivial⟩ ⟨hB,b,(by (rw[WE hno];exact hmu2)),Om,trivial⟩ Zo
 refine cR<|Zr<|Zi rfl<|ZZ rfl<|Zt<|cV (v:= .int .i64 _) rfl ⟨hB,?_⟩
 obtain rfl:i=L.length:=by omega
 rfl
theorem ph (n:Int) (rv:Value) (vs:List Value) (L:ML) (c:Int) (w:World) (hrv:cD encV 1 35 w 0 rv vs) (hLO:LO 3 0 w vs L) (hr:dN n L=true) (hLb:L.length≤1000000):
    Fn Tryz.prog 193 #[.agg #[.int .i64 n,rv], .int .i64 c] w λv w'=>∃rv',v= .agg #[.int .i64 n,rv']∧cD encV 1 35 w' 0 rv' (tO undef (λk=> !decide (c∈L.getD k [])) vs L.length):=by
 refine cH (n:=44) Tryz.func193 rfl rfl rfl λhB=> ?_
 have hll:=hLO.ll
 have hvl:=hll.len
 refine Zr<|Zy (dt (c:= #[_,_]) rfl rfl λs W3 T H a=> ?_)
 replace hB:=Ze hB H
 refine Zy (cI gq rfl λt W6 I J d=> ?_)
 have K:=ZO I hB
 obtain⟨hB,a⟩:=J.k2 hB a
 refine ct<|Zr<|Zf rfl iv<|Zl rfl cK a rfl<|Zv (kd (h0:=rfl) (k0:=rfl) (c0_0:= .int .i64 _))<|Zy (cI gq rfl λy U m M e=> ?_)
 have z:=ZO m hB
 have A:=Zn m a.lt
 have B:=Zn m d.lt
 obtain⟨hB,a,d⟩:=M.k3 hB a d
 refine Zy (cz rfl rfl cY rfl e rfl rfl λV o N=> ?_)
 replace hB:=Zg hB o z
 replace a:=At.grownNe a A o
 replace d:=At.grownNe d B o
 replace e:=N
 refine ct<|Zq<|Zr<|Zf rfl dO<|ZL rv rfl eB a rfl<|Zv (cT (v:=rv) rfl ((Below.ow hB hrv)).sl dF)<|ZZ rfl<|cx ?_
 refine cS (σ:=(Nat)×(Value)) [7,8,10,10,17,42] (λ(k,v0)=>[(17, .int .i64 (k:Int))]) (λsg W=>match sg with|(k,v0)=>(Below w.heap.size w W)∧(At W s _ 203)∧(At W t _ 203)∧(At W y #[.int .i64 n,v0] 203)∧(cD encV 1 35 W w.heap.size v0 (tO undef (λk=> !decide (c∈L.getD k [])) vs k))∧(k≤L.length)∧(True)) (λ(k,v0)=>L.length-k) ((0, .slice none 0 0)) ⟨rfl,trivial⟩ ⟨hB,a,d,e,cD.nil,(my _),trivial⟩ ?_
 rintro⟨k,v0⟩ X Y ⟨hB,a,d,e,ho,hk,_⟩ Z C
 refine Zr<|Zv (dk rfl rfl)<|ct<|Zq<|ZQ rfl (λO=> ?_) λO=> ?_
 refine cu<|Zq<|cx<|Zr<|Zv (df (v:=rv) rfl ((Below.ow hB hrv)).sl rfl dF Om Om)<|Zv (cB (v:=(vs.getD k undef)) rfl dV (dh.cell ((Below.ow hB hrv)).sl fS undef Om Om 0 rfl)) ?_
 have f:dh dJ 1 w ((vs.getD k undef)) (L.getD k []):=hll.get k (by omega)
 refine Zw (vs.getD k undef) rfl<|ct<|Zr<|Zb rfl<|ct<|Zq<|Zr<|Zw (vs.getD k undef) rfl<|Zv (cT (v:=(vs.getD k undef)) rfl (Below.slT hB f) cM)<|ZZ rfl<|cx ?_
 refine cS (σ:=(Nat)) [8,8,10,10,23,33] (λj=>[(23, .int .i64 (j:Int)),(8, .bool (decide (c∈(L.getD k []).take j)))]) (λj W=>(Below w.heap.size w W)∧(At W s _ 203)∧(At W t _ 203)∧(At W y _ 203)∧(cD encV 1 35 W w.heap.size v0 _)∧(j≤(L.getD k []).length)∧(True)) (λj=>(L.getD k []).length-j) (0) ⟨rfl,rfl,trivial⟩ ⟨hB,a,d,e,ho,(my _),trivial⟩ ?_
 rintro j aa ab ⟨hB,a,d,e,ho,hj,_⟩ ac D
 have hri:=fK hr k
 refine Zr<|Zv (dk rfl rfl)<|ct<|Zq<|ZQ rfl (λP=> ?_) λP=> ?_
 refine cu<|Zq<|cx<|Zr<|Zv (df (v:=(vs.getD k undef)) rfl (Below.slT hB f) rfl cM Om Om)<|Zv (cB (v:= .int .i64 _) rfl cK (dh.cell (Below.slT hB f) dI 0 Om Om 0 rfl))<|ZZ rfl<|cN<|Zb rfl<|ZX rfl (λp=> ?_) λp=> ?_
 refine Zs<|Zs<|Zs<|Zb rfl<|Zb rfl<|ct<|ZT rfl rfl rfl ?_
 exact D _ _ (j+1) Za ⟨rfl,YZ p,trivial⟩ ⟨hB,a,d,e,ho,Om,trivial⟩ Zo
 refine Zi rfl<|Zi rfl<|Zv (dW rfl rfl)<|Zb rfl<|Zb rfl<|ct<|ZT rfl rfl rfl ?_
 exact D _ _ (j+1) Za ⟨rfl,Y7 Om p,trivial⟩ ⟨hB,a,d,e,ho,Om,trivial⟩ Zo
 refine cR ?_
 obtain rfl:j=(L.getD k []).length:=by omega
 refine Zr<|Zb rfl<|Zv (eR rfl)<|ct<|ZQ rfl (λh=> ?_) λh=> ?_
 have hkl:=BU undef (λk=> !decide (c∈L.getD k [])) vs k
 refine cN<|Zf rfl dO<|ZL v0 rfl eB e rfl<|Zw (vs.getD k undef) rfl<|Zy (eK (u:=(vs.getD k undef)) rfl dF jG (by rw[dh.cells (Below.slT hB f)];rfl) Dd Dd λq ad r Q E=> ?_)
 have ae:=ZO r hB
 have af:=aaQ (b:=q) (Below.ow hB hrv) (aae r.symm)
 have ag:=aaQ (b:=q) ho (aae r.symm)
 obtain⟨hB,a,d,e,ho⟩:=Q.k5 hB a d e ho
 rw[dh.cells (Below.slT hB f)]at E
 refine Zy (dZ (v:=v0) (v2:= .slice (some ⟨q,0,none⟩) 1 1) rfl rfl dF jG Dd ho (eT E rfl) (by simp only[aa7,abL,dh.one (Below.slT hB f),aaZ]) (n4 hB) (by omega) (by omega) λF ah i g=> ?_)
 replace g:=cD.snoc (enc:=encV) (x:=(vs.getD k undef)) rfl rfl rfl rfl g
 replace hB:=ZG hB i ho
 replace a:=At.grownOw a ho i Dd
 replace d:=At.grownOw d ho i Dd
 replace e:=At.grownOw e ho i Dd
 refine Zf rfl dO<|Zy (dm (v:=F) rfl rfl eB (dh.one g.sl) e gj λai l R=> ?_)
 replace hB:=Zg hB l z
 replace a:=At.grownNe a A l
 replace d:=At.grownNe d B l
 replace g:=cD.grownAt g e l Dd
 replace e:=R
 replace e:At _ _ #[_,_] _:=e
 refine ct<|ZT rfl rfl rfl ?_
 exact C _ _ ((k+1,F)) Za ⟨rfl,trivial⟩ ⟨hB,a,d,(by exact e),(by (rw[←Th (by rw[aan]at h;exact h)];exact g)),Om,trivial⟩ (by show L.length-(k+1)<L.length-k;omega)
 refine cu<|ZT rfl rfl rfl ?_
 exact C _ _ ((k+1,v0)) Za ⟨rfl,trivial⟩ ⟨hB,a,d,(by exact e),(by (rw[←TK (by rw[aan]at h;exact h)];exact ho)),Om,trivial⟩ (by show L.length-(k+1)<L.length-k;omega)
 refine cR<|Zr<|Zv (cy rfl cY rfl e)<|Zy (cz rfl rfl cY rfl d rfl (by exact iB (cD.one ho)) λaj G S=> ?_)
 replace hB:=Zg hB G K
 replace ho:=cD.grownAt ho d G Dd
 replace d:=S
 refine ct<|Zt<|jr rfl cY d rfl ⟨hB,?_⟩
 obtain rfl:k=L.length:=by omega
 exact⟨_,rfl,cD.mono ho (my _)⟩
theorem As (n:Int) (rv:Value) (vs:List Value) (L:ML) (c:Int) (w:World) (hrv:cD encV 1 35 w 0 rv vs) (hLO:LO 3 0 w vs L) (hr:dN n L=true) (hLb:L.length≤1000000):
    Fn Tryz.prog 192 #[.agg #[.int .i64 n,rv], .int .i64 c] w λv w'=>∃rv' vs',v= .agg #[.int .i64 n,rv']∧cD encV 1 35 w' 0 rv' vs'∧LO 3 w.heap.size w' vs' (pM L c):=by
 refine cH (n:=43) Tryz.func192 rfl rfl rfl λhB=> ?_
 have hll:=hLO.ll
 have hvl:=hll.len
 refine Zr<|Zy (dt (c:= #[_,_]) rfl rfl λG W3 ac H d=> ?_)
 replace hB:=Ze hB H
 refine Zy (cI gq rfl λI W6 J K a=> ?_)
 have M:=ZO J hB
 obtain⟨hB,d⟩:=K.k2 hB d
 refine ct<|Zr<|Zf rfl iv<|Zl rfl cK d rfl<|Zv (kd (h0:=rfl) (k0:=rfl) (c0_0:= .int .i64 _))<|Zy (cI gq rfl λN ad l O e=> ?_)
 have y:=ZO l hB
 have z:=Zn l d.lt
 have A:=Zn l a.lt
 obtain⟨hB,d,a⟩:=O.k3 hB d a
 refine Zy (cz rfl rfl cY rfl e rfl rfl λae m P=> ?_)
 replace hB:=Zg hB m y
 replace d:=At.grownNe d z m
 replace a:=At.grownNe a A m
 replace e:=P
 refine ct<|Zq<|Zr<|Zf rfl dO<|ZL rv rfl eB d rfl<|Zv (cT (v:=rv) rfl ((Below.ow hB hrv)).sl dF)<|ZZ rfl<|cx ?_
 refine cS (σ:=(Nat)×(Value)×(List Value)) [7,8,10,10,17,41] (λ(k,v0,vn)=>[(17, .int .i64 (k:Int))]) (λsg W=>match sg with|(k,v0,vn)=>(Below w.heap.size w W)∧(At W G _ 203)∧(At W I _ 203)∧(At W N #[.int .i64 n,v0] 203)∧(cD encV 1 35 W w.heap.size v0 (vn))∧(LO 3 w.heap.size W vn (pM (L.take k) c))∧(k≤L.length)∧(True)) (λ(k,v0,vn)=>L.length-k) ((0, .slice none 0 0,[])) ⟨rfl,trivial⟩ ⟨hB,d,a,e,cD.nil,LO.nil,(my _),trivial⟩ ?_
 rintro⟨k,v0,vn⟩ af i ⟨hB,d,a,e,ho,hlo,hk,_⟩ ag Q
 refine Zr<|Zv (dk rfl rfl)<|ct<|Zq<|ZQ rfl (λR=> ?_) λR=> ?_
 refine cu<|Zq<|cx<|Zr<|Zv (df (v:=rv) rfl ((Below.ow hB hrv)).sl rfl dF Om Om)<|Zv (cB (v:=(vs.getD k undef)) rfl dV (dh.cell ((Below.ow hB hrv)).sl fS undef Om Om 0 rfl)) ?_
 have S:dh dJ 1 w ((vs.getD k undef)) (L.getD k []):=hll.get k (by omega)
 refine Zw (vs.getD k undef) rfl<|ct ?_
 have ah:=Below.ow hB hrv
 have ai:=LO.below hB hLO
 have o:=Below.slT hB S
 have B:=hB
 replace hB:=Below.refl i.heap.size i
 refine Zr<|Zw (.slice none 0 0) rfl<|ct<|Zq<|Zr<|Zw (vs.getD k undef) rfl<|Zv (cT (v:=(vs.getD k undef)) rfl (Below.slT hB o) cM)<|ZZ rfl<|cx ?_
 refine cS (σ:=(Nat)×(Value)) [8,8,10,10,23,34] (λ(j,v1)=>[(23, .int .i64 (j:Int)),(8,v1)]) (λsg W=>match sg with|(j,v1)=>(Below i.heap.size i W)∧(cD dJ 1 3 W i.heap.size v1 (Br ((L.getD k []).take j) c))∧(j≤(L.getD k []).length)∧(True)) (λ(j,v1)=>(L.getD k []).length-j) ((0, .slice none 0 0)) ⟨rfl,rfl,trivial⟩ ⟨hB,cD.nil,(my _),trivial⟩ ?_
 rintro⟨j,v1⟩ aj ak ⟨hB,hrst,hj,_⟩ al C
 refine Zr<|Zv (dk rfl rfl)<|ct<|Zq<|ZQ rfl (λT=> ?_) λT=> ?_
 refine cu<|Zq<|cx ?_
 have hrl:=IH (L.getD k []) c j
 have hr4:=fK hr k
 refine Zr<|Zv (df (v:=(vs.getD k undef)) rfl (Below.slT hB o) rfl cM Om Om)<|Zv (cB (v:= .int .i64 _) rfl cK (dh.cell (Below.slT hB o) dI 0 Om Om 0 rfl))<|ZZ rfl<|Zr<|Zi rfl<|Zi rfl<|Zv (ep rfl rfl)<|ct<|ZQ rfl (λp=> ?_) λp=> ?_
 refine cN<|Zw v1 rfl<|Zi rfl<|Zy (eK (u:= .int .i64 _) rfl cM eQ rfl Dd Dd λU ao ap V X=> ?_)
 obtain⟨hB,hrst⟩:=V.k2 hB hrst
 refine Zy (dZ (v:=v1) (v2:= .slice (some ⟨U,0,none⟩) 1 1) rfl rfl cM eQ Dd hrst (eT X rfl) rfl (n4 hB) (by omega) (by omega) λD aq Y q=> ?_)
 replace q:=cD.snoc (enc:=dJ) (x:=_) rfl rfl rfl rfl q
 replace hB:=ZG hB Y hrst
 refine Zw D rfl<|ct<|ZT rfl rfl rfl ?_
 exact C _ _ ((j+1,D)) Za ⟨rfl,rfl,trivial⟩ ⟨hB,(by (rw[←SY (k:=j) Om p];exact q)),Om,trivial⟩ (by show (L.getD k []).length-(j+1)<(L.getD k []).length-j;omega)
 refine cu<|ZT rfl rfl rfl ?_
 exact C _ _ ((j+1,v1)) Za ⟨rfl,rfl,trivial⟩ ⟨hB,(by (rw[←TL (k:=j) Om (aaa p)];exact hrst)),Om,trivial⟩ (by show (L.getD k []).length-(j+1)<(L.getD k []).length-j;omega)
 refine cR ?_
 replace d:=On hB d
 replace a:=On hB a
 replace e:=On hB e
 replace ho:=Below.ow hB ho
 replace hlo:=LO.below hB hlo
 have hzs:=an (am _) (Below.size B)
 replace hrst:=cD.mono hrst hzs
 replace hB:=Below.trans B (Below.mono hB hzs)
 obtain rfl:j=(L.getD k []).length:=by omega
 rw[aan]at hrst
 have hcl:=Jy L c k
 have hvn:=hlo.len
 refine cN<|Zf rfl dO<|ZL v0 rfl eB e rfl<|Zw v1 rfl<|Zy (eK (u:=v1) rfl dF jG (by rw[dh.cells hrst.sl];rfl) Dd Dd λr ar s Z E=> ?_)
 have au:=ZO s hB
 have av:=aaQ (b:=r) (Below.ow hB hrv) (aae s.symm)
 have aw:=aaQ (b:=r) ho (aae s.symm)
 obtain⟨d,a,e,ho,hlo,hB,hrst⟩:=Z.k7 d a e ho hlo hB hrst
 rw[dh.cells hrst.sl]at E
 refine Zy (dZ (v:=v0) (v2:= .slice (some ⟨r,0,none⟩) 1 1) rfl rfl dF jG Dd ho (eT E rfl) (by exact TJ (cD.one hrst)) (n4 hB) (by omega) (by omega) λF ax f g=> ?_)
 replace g:=cD.snoc (enc:=encV) (x:=v1) rfl rfl rfl rfl g
 replace d:=At.grownOw d ho f Dd
 replace a:=At.grownOw a ho f Dd
 replace e:=At.grownOw e ho f Dd
 replace hlo:=LO.grownOw hlo ho f Dd
 replace hB:=ZG hB f ho
 replace hrst:=cD.grownOw hrst ho f Dd
 refine Zf rfl dO<|Zy (dm (v:=F) rfl rfl eB (dh.one g.sl) e gj λay h aa=> ?_)
 replace d:=At.grownNe d z h
 replace a:=At.grownNe a A h
 replace hlo:=LO.grownAt hlo e h Dd
 replace hB:=Zg hB h y
 replace hrst:=cD.grownAt hrst e h Dd
 replace g:=cD.grownAt g e h Dd
 replace e:=aa
 replace e:At _ _ #[_,_] _:=e
 refine ct<|ZT rfl rfl rfl ?_
 exact Q _ _ ((k+1,F,vn++[v1])) Za ⟨rfl,trivial⟩ ⟨hB,d,a,(by exact e),(by exact g),(by rw[←E2 Om];exact LO.snoc hlo hrst),Om,trivial⟩ (by show L.length-(k+1)<L.length-k;omega)
 refine cR<|Zr<|Zv (cy rfl cY rfl e)<|Zy (cz rfl rfl cY rfl a rfl (by exact iB (cD.one ho)) λaz t ab=> ?_)
 replace hB:=Zg hB t M
 replace ho:=cD.grownAt ho a t Dd
 replace hlo:=LO.grownAt hlo a t Dd
 replace a:=ab
 refine ct<|Zt<|jr rfl cY a rfl ⟨hB,?_⟩
 exact⟨_,_,rfl,cD.mono ho (my _),by rw[←Id (k:=k) Om];exact hlo⟩
theorem oZ (n:Int) (rv:Value) (vs:List Value) (L:ML) (w:World) (hrv:cD encV 1 35 w 0 rv vs) (hLO:LO 3 0 w vs L) (hr:dN n L=true) (hLb:L.length≤1000000):
    Fn Tryz.prog 191 #[.agg #[.int .i64 n,rv]] w λv w'=>∃c,v= .int .i64 c∧((∃k,k<L.length∧0<(L.getD k []).length)→rJ L c):=by
 refine cH (n:=61) Tryz.func191 rfl rfl rfl λhB=> ?_
 have hll:=hLO.ll
 have hvl:=hll.len
 refine Zr<|Zy (dt (c:= #[_,_]) rfl rfl λp W3 Q x b=> ?_)
 replace hB:=Ze hB x
 refine ZZ rfl<|Zr<|Zy (gQ (enc:=eH) (encV:=eH) λf W8 y z q=> ?_)
 have A:=ZO y hB
 obtain⟨hB,b⟩:=z.k2 hB b
 replace q:du eH eH _ _ []:=q
 refine Zw (.map (some f)) rfl<|ct<|Zr<|ZZ rfl<|Zq<|Zr<|Zf rfl dO<|ZL rv rfl eB b rfl<|Zv (cT (v:=rv) rfl ((Below.ow hB hrv)).sl dF)<|ZZ rfl<|cx ?_
 refine cS (σ:=(Nat)×(List (Int×Int))) [6,6,8,8,15,30] (λ(i,l)=>[(15, .int .i64 (i:Int))]) (λsg W=>match sg with|(i,l)=>(Below w.heap.size w W)∧(At W p _ 203)∧(du eH eH W f l)∧(i≤L.length)∧(z7 L i (i*4001) l)∧(True)) (λ(i,l)=>L.length-i) ((0,[])) ⟨rfl,trivial⟩ ⟨hB,b,q,(my _),(z7.mono z7.nil Om),trivial⟩ ?_
 rintro⟨i,l⟩ R S ⟨hB,b,hmc,hi,g,_⟩ T B
 refine Zr<|Zv (dk rfl rfl)<|ct<|Zq<|ZQ rfl (λC=> ?_) λC=> ?_
 refine cu<|Zq<|cx<|Zr<|Zv (df (v:=rv) rfl ((Below.ow hB hrv)).sl rfl dF Om Om)<|Zv (cB (v:=(vs.getD i undef)) rfl dV (dh.cell ((Below.ow hB hrv)).sl fS undef Om Om 0 rfl)) ?_
 have r:dh dJ 1 w ((vs.getD i undef)) (L.getD i []):=hll.get i (by omega)
 refine Zw (vs.getD i undef) rfl<|ct<|Zr<|Zw (vs.getD i undef) rfl<|Zv (cT (v:=(vs.getD i undef)) rfl (Below.slT hB r) cM)<|ZZ rfl<|cx ?_
 refine cS (σ:=(Nat)×(List (Int×Int))) [8,8,21,29] (λ(j,l2)=>[(21, .int .i64 (j:Int))]) (λsg W=>match sg with|(j,l2)=>(Below w.heap.size w W)∧(At W p _ 203)∧(du eH eH W f l2)∧(j≤(L.getD i []).length)∧(z7 L i (i*4001+j) l2)∧(0<j→l2≠[])∧(True)) (λ(j,l2)=>(L.getD i []).length-j) ((0,l)) ⟨rfl,trivial⟩ ⟨hB,b,hmc,(my _),(z7.mono g Om),(λh=>absurd h (Nat.lt_irrefl _)),trivial⟩ ?_
 rintro⟨j,l2⟩ U V ⟨hB,b,hmc2,hj,hbu,hne,_⟩ X D
 have hri:=fK hr i
 refine Zr<|Zv (dk rfl rfl)<|ct<|Zq<|ZQ rfl (λE=> ?_) λE=> ?_
 refine cu<|Zq<|cx<|Zr<|Zv (df (v:=(vs.getD i undef)) rfl (Below.slT hB r) rfl cM Om Om)<|Zv (cB (v:= .int .i64 _) rfl cK (dh.cell (Below.slT hB r) dI 0 Om Om 0 rfl))<|ZZ rfl ?_
 have hgl:=hbu.get ((L.getD i []).getD j 0)
 refine cN<|Zw (.map (some f)) rfl<|Zi rfl<|Zv (fV (enc:=eH) (encV:=eH) (v0:=0) (k:=((L.getD i []).getD j 0)) rfl rfl qQ gT (λa=>⟨a,rfl⟩) fU wz rfl hmc2)<|Zv (eP rfl rfl Om Om) ?_
 refine gK (dd:=none) rfl rfl rfl (fJ (enc:=eH) (encV:=eH) (k:=((L.getD i []).getD j 0)) (v:=_) rfl rfl rfl qQ gT (λa=>⟨a,rfl⟩) fU hmc2 (λY u F=> ?_))
 replace hB:=Zg hB u A
 replace b:=At.grownMap b hmc2 u
 replace hmc2:=F
 refine ct<|ZT rfl rfl rfl ?_
 exact D _ _ ((j+1,iz l2 ((L.getD i []).getD j 0) ((iy l2 ((L.getD i []).getD j 0)).getD 0+1))) Za ⟨rfl,trivial⟩ ⟨hB,b,(by exact hmc2),Om,(z7.mono (z7.put hbu Om Om) Om),(λ_=>Jj),trivial⟩ (by show (L.getD i []).length-(j+1)<(L.getD i []).length-j;omega)
 refine cR<|ZT rfl rfl rfl ?_
 exact B _ _ ((i+1,l2)) Za ⟨rfl,trivial⟩ ⟨hB,b,(by exact hmc2),Om,(hbu.next (λh=>hne Om) Om),trivial⟩ (by show L.length-(i+1)<L.length-i;omega)
 refine cR<|Zq<|Zr<|Zw (.map (some f)) rfl<|Zy (Cd rfl qQ hmc λG Z H I d=> ?_)
 have J:=ZO H hB
 obtain⟨hB,b,hmc⟩:=I.k3 hB b hmc
 refine ct<|cx ?_
 refine cS (σ:=(List Int)×(Int)) [4,4,9,10,33,59] (λ(seen,bb)=>[(4, .int .i64 bb)]) (λsg W=>match sg with|(seen,bb)=>(Below w.heap.size w W)∧(At W p _ 203)∧(du eH eH W f _)∧(eD eH eH W G f l seen)∧(Yh L seen bb)∧(True)) (λ(seen,bb)=>l.length-seen.length) (([],-1)) ⟨rfl,trivial⟩ ⟨hB,b,hmc,d,(.inl ⟨rfl,rfl⟩),trivial⟩ ?_
 rintro⟨seen,bb⟩ aa ab ⟨hB,b,hmc,d,hbe,_⟩ ac m
 refine Zr ?_
 refine gK (dd:=some 33) rfl rfl rfl (Hn rfl d (λK=> ?_) (λe ad ae o af s M=> ?_))
 refine Zv (qy rfl)<|ct<|Zq<|dA rfl<|cR ?_
 obtain rfl:i=L.length:=by omega
 refine Zr<|Zi rfl<|ZZ rfl<|Zt<|cV (v:= .int .i64 _) rfl ⟨hB,?_⟩
 exact⟨_,rfl,VH hbe g rfl K⟩
 replace hB:=Zg hB s J
 replace b:=ab8 b d s
 replace hmc:=ab5 hmc d s
 replace d:=M
 refine Zv (iO rfl)<|ct<|Zq<|cF rfl<|cu<|cx<|Zr<|Zv (Cy rfl d o)<|Zv (c7 rfl)<|Zv (da rfl)<|Zi rfl<|ZZ rfl ?_
 refine Zr<|Zi rfl<|Zv (dk rfl rfl)<|ZX rfl (λt=> ?_) λt=> ?_
 refine Zs<|Zs<|Zs<|Zs<|Zs<|Zb rfl<|Zb rfl<|Zs<|Zs<|Zs<|Zs<|Zs<|Zs<|Zs ?_
 refine Zs<|Zs<|Zs<|Zb rfl<|ct<|cF rfl<|cN<|Zi rfl<|ZZ rfl ?_
 exact m _ _ ((e::seen,e)) Za ⟨rfl,trivial⟩ ⟨hB,b,hmc,d,(GM hr g o),trivial⟩ (by have hle:=ab7 d;show l.length-(e::seen).length<l.length-seen.length;simp only[aak]at hle ⊢;omega)
 refine Zi rfl<|Zw (.map (some f)) rfl<|Zi rfl<|Zv (fV (enc:=eH) (encV:=eH) (v0:=0) (k:=_) rfl rfl qQ gT (λa=>⟨a,rfl⟩) fU wz rfl hmc)<|Zv (il rfl rfl)<|Zb rfl<|ZX rfl (λN=> ?_) λN=> ?_
 refine Zs<|Zs<|Zs<|Zs<|Zs<|Zs<|Zs<|Zs<|Zs<|Zs<|Zb rfl<|ct<|cF rfl<|cN ?_
 refine Zi rfl<|ZZ rfl ?_
 exact m _ _ ((e::seen,e)) Za ⟨rfl,trivial⟩ ⟨hB,b,hmc,d,(GM hr g o),trivial⟩ (by have hle:=ab7 d;show l.length-(e::seen).length<l.length-seen.length;simp only[aak]at hle ⊢;omega)
 refine Zi rfl<|Zw (.map (some f)) rfl<|Zi rfl<|Zv (fV (enc:=eH) (encV:=eH) (v0:=0) (k:=_) rfl rfl qQ gT (λa=>⟨a,rfl⟩) fU wz rfl hmc)<|Zv (dW rfl rfl)<|ZX rfl (λO=> ?_) λO=> ?_
 refine Zi rfl<|Zi rfl<|Zv (dk rfl rfl)<|Zb rfl<|Zb rfl<|ct<|ZQ rfl (λP=> ?_) λP=> ?_
 refine cN<|Zi rfl<|ZZ rfl ?_
 exact m _ _ ((e::seen,e)) Za ⟨rfl,trivial⟩ ⟨hB,b,hmc,d,(GM hr g o),trivial⟩ (by have hle:=ab7 d;show l.length-(e::seen).length<l.length-seen.length;simp only[aak]at hle ⊢;omega)
 refine cu ?_
 exact m _ _ ((e::seen,bb)) Za ⟨rfl,trivial⟩ ⟨hB,b,hmc,d,(OU hbe t),trivial⟩ (by have hle:=ab7 d;show l.length-(e::seen).length<l.length-seen.length;simp only[aak]at hle ⊢;omega)
 refine Zs<|Zs<|Zs<|Zb rfl<|Zb rfl<|ct<|dA rfl<|cu ?_
 exact m _ _ ((e::seen,bb)) Za ⟨rfl,trivial⟩ ⟨hB,b,hmc,d,(OU hbe t),trivial⟩ (by have hle:=ab7 d;show l.length-(e::seen).length<l.length-seen.length;simp only[aak]at hle ⊢;omega)
theorem qp (xl:Value) (l:List Int) (n:Int) (w:World) (hl:dh dJ 1 w xl l) (hlb:l.length≤1000000) (hn:0≤n∧n≤4000):
    Fn Tryz.prog 194 #[xl, .int .i64 n] w λv w'=>cD dJ 1 3 w' w.heap.size v (lg l n.toNat):=by
 refine cH (n:=33) Tryz.func194 rfl rfl rfl λhB=> ?_
 refine Zr<|Zw (.slice none 0 0) rfl<|ct<|Zr<|Zy (gQ (enc:=eH) (encV:=Value.bool) λb W5 i j c=> ?_)
 have m:=ZO i hB
 replace hB:=Ze hB j
 replace c:du eH Value.bool _ _ (fp []):=c
 refine Zw (.map (some b)) rfl<|ct<|Zq<|Zr<|Zw xl rfl<|Zv (cT (v:=xl) rfl (Below.slT hB hl) cM)<|ZZ rfl<|cx ?_
 refine cS (σ:=(Nat)) [7,7,13,19] (λk=>[(13, .int .i64 (k:Int))]) (λk W=>(Below w.heap.size w W)∧(du eH Value.bool W b (fp (qs [] l k)))∧(k≤l.length)∧(True)) (λk=>l.length-k) (0) ⟨rfl,trivial⟩ ⟨hB,c,(my _),trivial⟩ ?_
 rintro k A B ⟨hB,hmk,hk,_⟩ C o
 refine Zr<|Zv (dk rfl rfl)<|ct<|Zq<|ZQ rfl (λp=> ?_) λp=> ?_
 refine cu<|Zq<|cx<|Zr<|Zv (df (v:=xl) rfl (Below.slT hB hl) rfl cM Om Om)<|Zv (cB (v:= .int .i64 _) rfl cK (dh.cell (Below.slT hB hl) dI 0 Om Om 0 rfl))<|ZZ rfl<|cN<|Zw (.map (some b)) rfl<|Zi rfl ?_
 refine gK (dd:=none) rfl rfl rfl (fJ (enc:=eH) (encV:=Value.bool) (k:=(l.getD k 0)) (v:=true) rfl rfl rfl mp gT (λa=>⟨a,rfl⟩) fU hmk (λD q r=> ?_))
 replace hB:=Zg hB q m
 replace hmk:=r
 rw[jP]at hmk
 refine ct<|ZT rfl rfl rfl ?_
 exact o _ _ (k+1) Za ⟨rfl,trivial⟩ ⟨hB,(by exact hmk),Om,trivial⟩ Zo
 refine cR<|Zr<|Zw (.slice none 0 0) rfl<|ct<|Zq ?_
 obtain rfl:k=l.length:=by omega
 refine Zr<|Zi rfl<|ZZ rfl<|cx ?_
 refine cS (σ:=(Nat)×(Value)) [8,9,21,31] (λ(cc,v0)=>[(21, .int .i64 (cc:Int)),(8,v0)]) (λsg W=>match sg with|(cc,v0)=>(Below w.heap.size w W)∧(du eH Value.bool W b _)∧(cD dJ 1 3 W w.heap.size v0 (lg (qs [] l l.length) cc))∧((cc:Int)≤n)∧(True)) (λ(cc,v0)=>n.toNat-cc) ((0, .slice none 0 0)) ⟨rfl,rfl,trivial⟩ ⟨hB,hmk,cD.nil,Om,trivial⟩ ?_
 rintro⟨cc,v0⟩ E F ⟨hB,hmk,ho,hcc,_⟩ G f
 refine Zr<|Zv (dk rfl rfl)<|ct<|Zq<|ZQ rfl (λs=> ?_) λs=> ?_
 refine cu<|Zq<|cx<|Zr<|Zi rfl<|ZZ rfl<|Zr<|Zw (.map (some b)) rfl<|Zi rfl<|Zv (fV (enc:=eH) (encV:=Value.bool) (v0:=false) (k:=_) rfl rfl mp gT (λa=>⟨a,rfl⟩) fU qj rfl hmk)<|ct<|ZQ rfl (λd=> ?_) λd=> ?_
 refine cN<|Zw v0 rfl<|Zi rfl<|Zy (eK (u:= .int .i64 _) rfl cM eQ rfl Dd Dd λt H I y z=> ?_)
 obtain⟨hB,hmk,ho⟩:=y.k3 hB hmk ho
 refine Zy (dZ (v:=v0) (v2:= .slice (some ⟨t,0,none⟩) 1 1) rfl rfl cM eQ Dd ho (eT z rfl) rfl (n4 hB) (by have:=mF (qs [] l l.length) cc;omega) (by have:=mF (qs [] l l.length) cc;omega) λg J h e=> ?_)
 replace e:=cD.snoc (enc:=dJ) (x:=_) rfl rfl rfl rfl e
 replace hB:=ZG hB h ho
 replace hmk:=du.grownOw hmk ho h
 refine Zw g rfl<|ct<|ZT rfl rfl rfl ?_
 exact f _ _ ((cc+1,g)) Za ⟨rfl,rfl,trivial⟩ ⟨hB,hmk,(by (rw[nh,if_pos (uf d)];exact e)),Om,trivial⟩ (by show n.toNat-(cc+1)<n.toNat-cc;omega)
 refine cu<|ZT rfl rfl rfl ?_
 exact f _ _ ((cc+1,v0)) Za ⟨rfl,rfl,trivial⟩ ⟨hB,hmk,(by (rw[nh,if_neg (qR d)];exact ho)),Om,trivial⟩ (by show n.toNat-(cc+1)<n.toNat-cc;omega)
 refine cR ?_
 obtain rfl:cc=n.toNat:=by omega
 rw[Qr]at ho
 refine Zr<|Zw v0 rfl<|Zw v0 rfl<|ct<|Zt<|cV (v:=v0) rfl ⟨hB,?_⟩
 exact ho
end
section
open Go Go.RowKit
theorem Jf:cX Tryz.prog 189=true:=by kernel_rfl
theorem I3:cX Tryz.prog 191=true:=by kernel_rfl
theorem II:cX Tryz.prog 193=true:=by kernel_rfl
theorem Ip:cX Tryz.prog 194=true:=by kernel_rfl
theorem wZ (n:Int) (rv:Value) (vs:List Value) (L:ML) (w:World) (hrv:cD encV 1 35 w 0 rv vs) (hLO:LO 3 0 w vs L) (hr:dN n L=true) (hLb:L.length≤1000000) (hfu:jz L L.length=true):
    Fn Tryz.prog 188 #[.agg #[.int .i64 n,rv]] w λv w'=>∃tv T,v= .tuple #[tv, .int .i64 0]∧cD dJ 1 3 w' w.heap.size tv T∧nM L T∧T.length≤4000:=by
 refine cH (n:=33) Tryz.func188 rfl rfl rfl λhB=> ?_
 have hll:=hLO.ll
 have hvl:=hll.len
 refine Zr<|Zy (dt (c:= #[_,_]) rfl rfl λE W3 ae F d=> ?_)
 replace hB:=Ze hB F
 refine Zw (.slice none 0 0) rfl<|ZZ rfl<|Zq<|cx<|Zr<|Zv (cy rfl cY rfl d)<|ZC (vs:=[.agg #[_,_]]) uv (kl n _ _ L _ ((Below.ow hB hrv)).sl (LO.mono (LO.below hB hLO) (my _)).ll hLb (λi=>an (fK hr i) Dd)) rfl λaf ag G H=> ?_
 obtain⟨hB,d⟩:=G.k2 hB d
 obtain rfl:=H
 refine Zv (eR rfl)<|Zb rfl<|ct<|ZQ rfl (λs=> ?_) λs=> ?_
 exact absurd (kT s) (by rw[hr];decide)
 refine Zr<|Zv (cy rfl cY rfl d)<|ZC (vs:=[.agg #[_,_]]) Jf (og n _ _ _ _ (cD.mono (Below.ow hB hrv) (my _)) (LO.mono (LO.below hB hLO) (my _)) hLb) rfl λah ai I J=> ?_
 obtain⟨hB,d⟩:=I.k2 hB d
 obtain rfl:=J
 refine Zv (eR rfl)<|Zb rfl<|ct<|ZQ rfl (λt=> ?_) λt=> ?_
 exact absurd (kT t) (by rw[hfu];decide)
 refine cu<|Zr<|Zw (.slice none 0 0) rfl<|ct<|Zr<|Zv (cy rfl cY rfl d)<|Zy (cI gq rfl λK aj y M e=> ?_)
 have z:=ZO y hB
 have A:=Zn y d.lt
 obtain⟨hB,d⟩:=M.k2 hB d
 refine Zy (cz rfl rfl cY rfl e rfl (by exact iB (cD.one hrv)) λak B N=> ?_)
 replace hB:=Zg hB B z
 replace d:=At.grownNe d A B
 replace e:=N
 refine ct<|Zq<|cx ?_
 refine cS (σ:=(Value)×(List Value)×(ML)×(Value)×(List Int)) [4,4,6,6,16,28] (λ(rv1,g,L1,v0,out)=>[(4,v0)]) (λsg W=>match sg with|(rv1,g,L1,v0,out)=>(Below w.heap.size w W)∧(At W E _ 203)∧(At W K #[.int .i64 n,rv1] 203)∧(cD encV 1 35 W 0 rv1 g)∧(cD dJ 1 3 W w.heap.size v0 (out))∧(LO 3 0 w g L1)∧(Pu n L L1 out)∧(L1.length≤1000000)∧(True)) (λ(rv1,g,L1,v0,out)=>L1.length) ((rv,vs,L, .slice none 0 0,[])) ⟨rfl,trivial⟩ ⟨hB,d,e,(Below.ow hB hrv),cD.nil,hLO,(acK hr hfu),hLb,trivial⟩ ?_
 rintro⟨rv1,g,L1,v0,out⟩ al ao ⟨hB,d,e,hrw1,ho,hlo1,hgr,hl0,_⟩ ap O
 refine Zq<|Zr<|Zf rfl dO<|ZL rv1 rfl eB e rfl<|Zv (cT (v:=rv1) rfl hrw1.sl dF)<|Zv (il rfl rfl)<|ct<|ZQ rfl (λP=> ?_) λP=> ?_
 refine cu<|cx ?_
 have hl1:L1.length≤1000000:=by have:=hgr.len;omega
 refine Zr<|Zv (cy rfl cY rfl e)<|ZC (vs:=[.agg #[_,_]]) I3 (oZ n _ _ L1 _ (cD.mono hrw1 (am _)) (LO.below hB hlo1) hgr.r hl1) rfl λaq ar Q R=> ?_
 obtain⟨hB,d,e,hrw1,ho⟩:=Q.k5 hB d e hrw1 ho
 obtain⟨c8_1,rfl,S⟩:=R
 refine Zw (.int .i64 c8_1) rfl<|ct ?_
 have hcin:=hgr.inl (by have:=hlo1.len;omega) S
 have hl1:L1.length≤1000000:=by have:=hgr.len;omega
 refine fe (λa b=>a.grownBy b v0.ownBlock) fQ (λU V=> ?_)
 obtain⟨hB,d,e,hrw1,ho⟩:=V.k5 hB d e hrw1 ho
 have X:=ho
 have hS:=World.grownBy.refl U v0.ownBlock
 refine Tw 0 v0 rfl rfl hS<|Tw 1 (.int .i64 c8_1) rfl rfl hS<|Tk 4 rfl (λ_ hq=>cy rfl cY rfl (At.grownOw e X hq Dd)) hS<|Tw 5 (.int .i64 c8_1) rfl rfl hS<|To 2 rfl (eK (u:= .int .i64 c8_1) rfl cM eQ rfl Dd Dd λY au av m Z=>⟨.inl (cC hS (dz.grown m v0.ownBlock)),?_⟩)
 obtain⟨hB,d,e,hrw1,ho⟩:=m.k5 hB d e hrw1 ho
 replace hS:=cC hS (dz.grown m v0.ownBlock)
 refine To 3 rfl (dZ (v:=v0) (v2:= .slice (some ⟨Y,0,none⟩) 1 1) rfl rfl cM eQ Dd ho (eT Z rfl) rfl (n4 hB) (by have:=hgr.len;omega) (by have:=hgr.len;omega) λC aw j f=>⟨.inl (cC hS j),?_⟩)
 replace hS:=cC hS j
 replace f:=cD.snoc (enc:=dJ) (x:=c8_1) rfl rfl rfl rfl f
 replace hB:=ZG hB j ho
 replace d:=At.grownOw d ho j Dd
 replace e:=At.grownOw e ho j Dd
 replace hrw1:=cD.grownOw hrw1 ho j Dd
 refine To 6 rfl (TC (vs:=[.agg #[_,_], .int .i64 c8_1]) II (ph n _ _ L1 c8_1 _ (cD.mono hrw1 (am _)) (LO.below hB hlo1) hgr.r hl1) rfl λax ay o aa=>⟨.inl (cC hS (dz.grown o v0.ownBlock)),?_⟩)
 obtain⟨hB,d,e,f⟩:=o.k4 hB d e f
 replace hS:=cC hS (dz.grown o v0.ownBlock)
 obtain⟨rv9_6,rfl,hk9_6⟩:=aa
 refine Tw 7 C rfl rfl hS<|To 8 rfl (cz rfl rfl cY rfl e rfl (by exact iB (cD.one hk9_6)) λaz l ab=>⟨.inr jW,?_⟩)
 replace hB:=Zg hB l z
 replace d:=At.grownNe d A l
 replace f:=cD.grownAt f e l Dd
 replace hk9_6:=cD.grownAt hk9_6 e l Dd
 replace e:=ab
 refine Td ?_
 exact O _ _ ((rv9_6,tO undef (λk=> !decide (c8_1∈L1.getD k [])) g L1.length,sQ L1 c8_1,C,out++[c8_1])) Za ⟨rfl,trivial⟩ ⟨hB,d,(by exact e),hk9_6,(by exact f),(by have h:=acr hlo1 (λk=> !decide (c8_1∈L1.getD k [])) L1.length (am _);rw[Oe]at h;exact h),(hgr.next hcin),(by have:=(hgr.next hcin).len;omega),trivial⟩ (by exact A4 hcin)
 refine cR ?_
 have hTl:=mF out n.toNat
 have hn4:=(fm.1 hr).2.1
 refine Zr<|Zw v0 rfl<|Zf rfl iv<|Zl rfl cK d rfl<|ZC Ip (qp _ out n _ ho.sl (by have:=hgr.len;omega) (by have q:=fm.1 hr;exact⟨q.1,q.2.1⟩)) rfl λD aA ac p=> ?_
 have aB:=abU ho
 have ad:=(Below.size hB)
 replace hB:=Ze hB ac
 replace p:=cD.mono p ad
 refine Zw D rfl<|ZZ rfl<|Zt<|dL (v:=D) rfl (v1:= .int .i64 0) rfl ⟨hB,?_⟩
 exact⟨_,_,rfl,p,hgr.fin hr (by have:=hlo1.len;omega),by omega⟩
end
section
open Go Go.RowKit
theorem RA:cX Tryz.prog 188=true:=by kernel_rfl
theorem Iq:dT Tryz.prog 253=some (.agg #[.int .i64 0, .slice none 0 0, .slice none 0 0]):=by kernel_rfl
theorem Hc:(Tryz.prog.info? 203).map (·.size)=some 2:=by kernel_rfl
theorem mO {f:Nat→Value} {w:World} {d:Option Nat} {ty:TypeId} {ps:String} {af:Array Edge} {g:Option (Nat×Bool)} {x0 x1:Operand} {c0_0 c0_1 c1_0:Value} (h0:dg f x0= .agg #[c0_0,c0_1]) (h1:dg f x1=c1_0) (k1:c1_0.cells= #[c1_0]):
    (execOp (dg f) ⟨d, .build 253 #[(0,x0),(1,x1)],ty,ps,af,g⟩).run Tryz.prog w= .ok (.value (.agg #[c0_0,c0_1,c1_0])) w:=by
  obtain⟨i0,hi0,hz0⟩:=Do.1 (show (Tryz.prog.info? 253).bind (·.zero)=_ from Iq)
  obtain⟨j35,hj35,hs35⟩:=go.1 vK
  obtain⟨j203,hj203,hs203⟩:=go.1 Hc
  simp[execOp,h0,h1,k1,Instr.build,zeroValue,typeInfo,sizeOf,hi0,hz0,run_underlying Tryz.underlying253,Instr.fill,dX,hj35,hs35,hj203,hs203]
theorem mG:fj Tryz.prog 254=some (253,3,56):=by kernel_rfl
theorem yN:(dT Tryz.prog 253).map (λz=>z.cells.size)=some 3:=by kernel_rfl
theorem ET:j8 Tryz.prog 253=some 3:=by kernel_rfl
theorem zV:dS Tryz.prog 253 0=some 0:=by kernel_rfl
theorem It:cX Tryz.prog 147=true:=by kernel_rfl
theorem HK:dS Tryz.prog 253 1=some 2:=by kernel_rfl
theorem SA:cX Tryz.prog 190=true:=by kernel_rfl
theorem Sv:cX Tryz.prog 192=true:=by kernel_rfl
set_option maxHeartbeats 2000000 in
theorem w8 (n:Int) (rv:Value) (vs:List Value) (L:ML) (b:Int) (w:World) (hrv:cD encV 1 35 w 0 rv vs) (hLO:LO 3 0 w vs L) (hr:dN n L=true) (hLb:L.length≤1000000) (hfu:jz L L.length=true) (hb:0≤b∧b≤1000000):
    Fn Tryz.prog 148 #[.agg #[.int .i64 n,rv], .int .i64 b] w λv w'=>(∃tv X s,v= .tuple #[tv, .int .i64 s, .int .i64 0]∧cD dJ 1 3 w' w.heap.size tv X∧Re L n X∧X.length≤4000∧0≤s∧s≤b)∨(v= .tuple #[.slice none 0 0, .int .i64 b, .int .i64 6]∧b.toNat+1<2^cnt L):=by
 refine cH (n:=110) Tryz.func148 rfl rfl rfl λhB=> ?_
 have hll:=hLO.ll
 have hvl:=hll.len
 refine Zr<|Zy (dt (c:= #[_,_]) rfl rfl λaf W3 a9 ag d=> ?_)
 replace hB:=Ze hB ag
 refine Zw (.slice none 0 0) rfl<|Zi rfl<|ZZ rfl<|Zr<|Zv (cy rfl cY rfl d)<|ZC (vs:=[.agg #[_,_]]) RA (wZ n _ _ _ _ (cD.mono (Below.ow hB hrv) (my _)) (LO.mono (LO.below hB hLO) (my _)) hr hLb hfu) rfl λba W8 ah ai=> ?_
 have aj:=(Below.size hB)
 obtain⟨hB,d⟩:=ah.k2 hB d
 obtain⟨tv1_1,T1_1,rfl,hk1_1,hT1_1,hTl1_1⟩:=ai
 replace hk1_1:=cD.mono hk1_1 aj
 refine Zw (.tuple #[tv1_1, .int .i64 0]) rfl<|Zv (c7 rfl)<|Zv (da rfl)<|Zw tv1_1 rfl<|ZZ rfl<|Zq<|Zr<|Zi rfl<|Zv (ep rfl rfl)<|ct<|ZQ rfl (λR=> ?_) λR=> ?_
 exact absurd rfl R
 refine cu<|Zr<|Zi rfl<|Zv (Ug rfl rfl)<|ZZ rfl ?_
 have hmx:max 0 b=b:=by omega
 refine Zr<|Zv (cy rfl cY rfl d)<|Zv (mO (h0:=rfl) (h1:=rfl) (k1:=rfl) (c1_0:= .slice none 0 0))<|Zy (eK (u:= .agg #[_,_,_]) rfl mG yN rfl Dd Dd λS bb ak al ao=> ?_)
 have ap:=ZO ak hB
 obtain⟨hB,d,hk1_1⟩:=al.k3 hB d hk1_1
 refine Zw (.slice (some ⟨S,0,none⟩) 1 1) rfl<|ct<|Zr<|ZZ rfl<|Zq<|cx ?_
 refine cS (σ:=(Value)×(List EF)×(List Gs)×(Value)×(List Int)×(Int)) [4,7,9,16,30,104] (λ(v9,xs,st,v7,best,steps)=>[(9,v9),(7,v7),(10, .int .i64 steps)]) (λsg W=>match sg with|(v9,xs,st,v7,best,steps)=>(Below w.heap.size w W)∧(At W af _ 203)∧(cD Gu 3 253 W w.heap.size v9 xs)∧(cD dJ 1 3 W w.heap.size v7 (best))∧(ii 35 3 W xs st)∧(pa n L b xs st best steps)∧(True)) (λ(v9,xs,st,v7,best,steps)=>Dy st) ((.slice (some ⟨S,0,none⟩) 1 1,[⟨n,rv, .slice none 0 0⟩],[(L,[])],tv1_1,T1_1,0)) ⟨rfl,rfl,rfl,trivial⟩ ⟨hB,d,(jU (enc:=Gu) (a:=⟨n,rv, .slice none 0 0⟩) ao rfl rfl ap),hk1_1,(ii.one (Below.ow hB hrv) (LO.below hB hLO) cD.nil),(acL hr hLb hT1_1 hTl1_1 hb.1),trivial⟩ ?_
 rintro⟨v9,xs,st,v7,best,steps⟩ bc bd ⟨hB,d,hst,hbest,hch,hfw,_⟩ bf F
 refine Zq<|Zr<|Zw v9 rfl<|Zv (cT (v:=v9) rfl hst.sl mG)<|Zv (il rfl rfl)<|ct<|ZQ rfl (λaq=> ?_) λaq=> ?_
 refine cu<|cx ?_
 have hpos:0<xs.length:=by omega
 obtain⟨k,hk1⟩:∃k,xs.length=k+1:=⟨xs.length-1,by omega⟩
 have hks:st.length=k+1:=by rw[←hfw.len];exact hk1
 have hxl:=hfw.sl.len
 have hxr:=hfw.sl.r k (by omega)
 have hxl2:=hfw.sl.l k (by omega)
 have hxt:=hfw.sl.t k (by omega)
 obtain⟨vx,hkx,hLx⟩:=hch.mx k (by omega)
 have hcx:=hch.ch k (by omega)
 refine Zr<|Zw v9 rfl<|Zw v9 rfl<|Zv (cT (v:=v9) rfl hst.sl mG)<|Zv (N3 rfl rfl (show (xs.length:Int)-1=(k:Int)by omega) Om)<|Zv (df (v:=v9) rfl hst.sl rfl mG Om Om)<|Zv (gH rfl ET (dh.cell hst.sl tY CR Om Om 0 rfl) (dh.cell hst.sl tY CR Om Om 1 rfl) (dh.cell hst.sl tY CR Om Om 2 rfl))<|Zy (cI Iq rfl λar bg U I o=> ?_)
 have au:=ZO U hB
 have av:=aaQ (b:=ar) hst (aae U.symm)
 obtain⟨hB,d,hst,hbest⟩:=I.k4 hB d hst hbest
 replace hch:=ii.ext I hch
 obtain⟨hkx,hLx,hcx⟩:=I.k3 hkx hLx hcx
 refine Zy (cz rfl rfl ET rfl o rfl (by exact U2 (cD.one hkx) (cD.one hcx)) λbh D aw=> ?_)
 replace hB:=Zg hB D au
 replace d:=At.grownAt d o D Dd
 replace hst:=aat hst av D
 replace hbest:=cD.grownAt hbest o D Dd
 replace hch:=ii.grownAt hch o D Dd Dd
 replace hkx:=cD.grownAt hkx o D Dd
 replace hLx:=LO.grownAt hLx o D Dd
 replace hcx:=cD.grownAt hcx o D Dd
 replace o:=aw
 refine ct ?_
 have hC9:xs.length≤iZ v9:=(Sl.eqv hst.sl).2.1
 refine Zr<|Zw v9 rfl<|Zw v9 rfl<|Zv (cT (v:=v9) rfl hst.sl mG)<|Zv (N3 rfl rfl (show (xs.length:Int)-1=(k:Int)by omega) Om)<|Zv (BI (v:=v9) rfl hst.sl mG rfl Om Om) ?_
 replace hst:=cD.hi hst tY (k:=k) Om
 refine Zw (fP 3 v9 0 k (iZ v9)) rfl<|ct<|Zq<|Zr<|Zf rfl zV<|Zv (fD rfl cY (At.cell o rfl) (At.cell o rfl))<|ZC (vs:=[.agg #[_,_]]) Jf (og _ _ _ _ _ (cD.mono hkx (my _)) (LO.mono hLx (my _)) hxl2) rfl λbi bj J ax=> ?_
 obtain⟨hB,d,hst,hbest⟩:=J.k4 hB d hst hbest
 replace hch:=ii.ext J hch
 obtain⟨hkx,hLx,hcx,o⟩:=J.k4 hkx hLx hcx o
 obtain rfl:=ax
 refine Zv (eR rfl)<|ct<|ZQ rfl (λK=> ?_) λK=> ?_
 refine cR ?_
 exact F _ _ ((fP 3 v9 0 k (iZ v9),xs.take k,st.take k,v7,best,steps)) Za ⟨rfl,rfl,rfl,trivial⟩ ⟨hB,d,hst,(by exact hbest),(ii.take hch k),(pa.none hfw hks K),trivial⟩ (by exact aci hks)
 refine cu ?_
 have hfl:jz (st.getD k mJ).1 (st.getD k mJ).1.length=true:=by simpa using K
 refine Zr<|Zf rfl zV<|Zv (fD rfl cY (At.cell o rfl) (At.cell o rfl))<|ZC (vs:=[.agg #[_,_]]) It (qa _ _ _ _ _ (cD.mono hkx (my _)) (LO.mono hLx (my _)) hxr hxl2) rfl λbk bm M ay=> ?_
 have bn:=abU hbest
 have bo:=abU hcx
 have az:=(Below.size hB)
 obtain⟨hB,d,hst,hbest⟩:=M.k4 hB d hst hbest
 replace hch:=ii.ext M hch
 obtain⟨hcx,o⟩:=M.k2 hcx o
 obtain⟨tv11_2,T11_2,rv11_2,aA,L11_2,rfl,ht11_2,hk11_2,hLO11_2,hrd11_2,E,hln11_2,hTl11_2⟩:=ay
 skip
 replace ht11_2:=cD.mono ht11_2 az
 refine Zw (.tuple #[tv11_2, .agg #[.int .i64 _,rv11_2], .int .i64 0]) rfl<|Zv (iO rfl)<|Zv (kf rfl)<|Zv (jS rfl)<|Zy (cI gq rfl λbp bq V N x=> ?_)
 have aB:=ZO V hB
 have aC:=Zn V d.lt
 obtain⟨hB,d,hst,hbest⟩:=N.k4 hB d hst hbest
 replace hch:=ii.ext N hch
 obtain⟨hcx,o,ht11_2,hk11_2,hLO11_2⟩:=N.k5 hcx o ht11_2 hk11_2 hLO11_2
 refine Zw tv11_2 rfl<|Zy (cz rfl rfl cY rfl x rfl (by exact iB (cD.one hk11_2)) λY y aD=> ?_)
 replace hB:=Zg hB y aB
 replace d:=At.grownNe d aC y
 replace hst:=cD.grownAt hst x y Dd
 replace hbest:=cD.grownAt hbest x y Dd
 replace hch:=ii.grownAt hch x y Dd Dd
 replace hcx:=cD.grownAt hcx x y Dd
 replace o:=At.grownAt o x y Dd
 replace ht11_2:=cD.grownAt ht11_2 x y Dd
 replace hk11_2:=cD.grownAt hk11_2 x y Dd
 replace hLO11_2:=LO.grownAt hLO11_2 x y Dd
 replace x:=aD
 refine ZZ rfl ?_
 have br:=Below.ow hB hrv
 have bs:=LO.below hB hLO
 have z:=hB
 replace hB:=Below.refl Y.heap.size Y
 have hvl11:=hLO11_2.len
 have hT4:T11_2.length≤4000:=by have q:=(fm.1 hxr).2.1;omega
 refine Zr<|Zy (Cp cM λaE bt aF aG aH=> ?_)
 have aI:=ZO aF hB
 replace hB:=Ze hB aG
 have Z:=uq (enc:=dJ) (sz:=1) aH aI
 refine Zf rfl HK<|ZL ((xs.getD k CR).tv) rfl dV (On hB o) rfl<|Zy (dZ (v:= .slice (some ⟨aE,0,none⟩) 0 0) (v2:=(xs.getD k CR).tv) rfl rfl cM eQ Dd Z ((Below.ow hB hcx)).sl (lN) (n4 hB) (by have hz:([]:List Int).length=0:=rfl;omega) (by have hz:([]:List Int).length=0:=rfl;omega) λaJ bu aK G=> ?_)
 replace G:=cD.app (enc:=dJ) rfl rfl rfl rfl G
 replace hB:=ZG hB aK Z
 rw[aaM]at G
 refine Zw tv11_2 rfl<|Zy (dZ (v:=aJ) (v2:=tv11_2) rfl rfl cM eQ Dd G ((Below.ow hB ht11_2)).sl (lN) (n4 hB) Om Om λp bv aL f=> ?_)
 replace f:=cD.app (enc:=dJ) rfl rfl rfl rfl f
 replace hB:=ZG hB aL G
 refine Zw p rfl<|ct<|Zq<|Zr<|Zf rfl dO<|ZL rv11_2 rfl eB (On hB x) rfl<|Zv (cT (v:=rv11_2) rfl ((Below.ow hB hk11_2)).sl dF)<|Zv (dW rfl rfl)<|ct<|ZQ rfl (λaM=> ?_) λaM=> ?_
 refine Zq<|Zr<|Zw p rfl<|Zv (cT (v:=p) rfl f.sl cM)<|Zw v7 rfl<|Zv (cT (v:=v7) rfl ((Below.ow hB hbest)).sl cM)<|Zv (dk rfl rfl)<|ct<|ZQ rfl (λaN=> ?_) λaN=> ?_
 refine cN<|Zw p rfl<|Zw p rfl<|ct<|cR ?_
 replace d:=On hB d
 replace hst:=Below.ow hB hst
 replace hch:=ii.below hB hch
 have hzs:=an (am _) (Below.size z)
 replace f:=cD.mono f hzs
 replace hB:=Below.trans z (Below.mono hB hzs)
 exact F _ _ ((fP 3 v9 0 k (iZ v9),xs.take k,st.take k,p,((st.getD k mJ).2++T11_2),steps)) Za ⟨rfl,rfl,rfl,trivial⟩ ⟨hB,d,hst,(by exact f),(ii.take hch k),(pa.leaf hfw hks hrd11_2 Om Om),trivial⟩ (by exact aci hks)
 refine cu<|cR ?_
 replace d:=On hB d
 replace hst:=Below.ow hB hst
 replace hbest:=Below.ow hB hbest
 replace hch:=ii.below hB hch
 have hzs:=an (am _) (Below.size z)
 replace hB:=Below.trans z (Below.mono hB hzs)
 exact F _ _ ((fP 3 v9 0 k (iZ v9),xs.take k,st.take k,v7,best,steps)) Za ⟨rfl,rfl,rfl,trivial⟩ ⟨hB,d,hst,(by exact hbest),(ii.take hch k),(pa.leaf0 hfw hks hrd11_2 Om),trivial⟩ (by exact aci hks)
 refine cu<|Zq ?_
 have hbn:=GV L11_2 L11_2.length
 have hol:((st.getD k mJ).2++T11_2).length≤16008000:=by rw[An];omega
 refine Zr<|Zw p rfl<|Zv (cT (v:=p) rfl f.sl cM)<|Zv (cy rfl cY rfl (On hB x))<|ZC (vs:=[.agg #[_,_]]) SA (zY _ _ _ L11_2 _ (cD.mono (Below.ow hB hk11_2) (my _)) (LO.mono (LO.below hB hLO11_2) (my _)) E Om) rfl λbw bx aO aP=> ?_
 obtain⟨hB,f⟩:=aO.k2 hB f
 obtain rfl:=aP
 refine Zv (eP rfl rfl Om Om)<|Zw v7 rfl<|Zv (cT (v:=v7) rfl ((Below.ow hB hbest)).sl cM)<|Zv (mT rfl rfl)<|ct<|ZQ rfl (λaQ=> ?_) λaQ=> ?_
 refine cR ?_
 replace d:=On hB d
 replace hst:=Below.ow hB hst
 replace hbest:=Below.ow hB hbest
 replace hch:=ii.below hB hch
 have hzs:=an (am _) (Below.size z)
 replace hB:=Below.trans z (Below.mono hB hzs)
 exact F _ _ ((fP 3 v9 0 k (iZ v9),xs.take k,st.take k,v7,best,steps)) Za ⟨rfl,rfl,rfl,trivial⟩ ⟨hB,d,hst,(by exact hbest),(ii.take hch k),(pa.prune hfw hks hrd11_2 Om),trivial⟩ (by exact aci hks)
 refine cu<|Zq ?_
 have bz:=hfw.s0
 have hsb:=hfw.sb
 refine Zr<|Zi rfl<|Zi rfl<|Zv (dW rfl rfl)<|ct<|ZQ rfl (λaR=> ?_) λaR=> ?_
 refine Zr<|Zi rfl<|Zw (.slice none 0 0) rfl<|Zi rfl<|ZZ rfl ?_
 refine lh ?_
 have hzs:=an (am _) (Below.size z)
 replace hB:=Below.trans z (Below.mono hB hzs)
 repeat (first|refine eJ ?_|refine eg ?_)
 refine IW (v:= .slice none 0 0) rfl (v1:= .int .i64 _) rfl (v2:= .int .i64 6) rfl ⟨hB,?_⟩
 exact .inr ⟨by rw[hmx],by obtain⟨ci,hci⟩:=QW hxr hfl hrd11_2 Om;exact pa.out hfw hks hrd11_2 E hci Om⟩
 refine cu<|Zr<|Zi rfl<|Zv (eP rfl rfl Om Om)<|ZZ rfl<|Zr<|Zv (cy rfl cY rfl (On hB x))<|ZC (vs:=[.agg #[_,_]]) I3 (oZ _ _ _ L11_2 _ (cD.mono (Below.ow hB hk11_2) (my _)) (LO.mono (LO.below hB hLO11_2) (my _)) E Om) rfl λbA bB aS aT=> ?_
 obtain⟨hB,f⟩:=aS.k2 hB f
 obtain⟨c20_1,rfl,aU⟩:=aT
 refine Zw (.int .i64 c20_1) rfl<|ct ?_
 have hcin:=aU ⟨0,by omega,JS hxr hfl hrd11_2 _ (dy (by omega))⟩
 refine fe dz fQ (λaa aV=> ?_)
 obtain⟨hB,f⟩:=aV.k2 hB f
 have hS:=dz.refl aa
 refine Tw 0 (fP 3 v9 0 k (iZ v9)) rfl rfl hS<|Tk 1 rfl (λ_ hq=>cy rfl cY rfl (hq.at (On hB x))) hS<|Tw 2 (.int .i64 c20_1) rfl rfl hS<|Tw 4 p rfl rfl hS<|Tk 6 rfl (λ_ hq=>cy rfl cY rfl (hq.at (On hB x))) hS<|Tw 7 (.int .i64 c20_1) rfl rfl hS<|Tw 10 p rfl rfl hS<|Tw 12 (.int .i64 c20_1) rfl rfl hS ?_
 have hrwX:=(cD.mono (Below.ow hB hk11_2) (my _))
 have hlwX:=(LO.mono (LO.below hB hLO11_2) (my _))
 have hovX:=f
 refine Q6 (m:=8) (A:=[3,5,8,9,11,13,14,15]) (L1:= #[true,true,true,true,true,true,true,true,true,true,true,true,true,true,true,true,false,false,false]) (T:=[90,90,92,92,95,96,98,98,100,102]) (λL g W=>iU 35 3 aa (xs.getD k CR).n c20_1 L11_2 (tO undef (λk=> !decide (c20_1∈L11_2.getD k [])) aA L11_2.length) p ((st.getD k mJ).2++T11_2) (L.getD 3 false) (L.getD 5 false) (L.getD 8 false) (L.getD 9 false) (L.getD 11 false) (L.getD 13 false) (L.getD 14 false) (L.getD 15 false) (g 90) (g 92) (g 95) (g 96) (g 98) (g 100) (g 101) (g 102) W) jW (acI _) ?_ ?_
 rintro i hi L g W hlt hrd hI
 have hi2:i=3∨i=5∨i=8∨i=9∨i=11∨i=13∨i=14∨i=15:=by simpa using hi
 rcases hi2 with rfl|rfl|rfl|rfl|rfl|rfl|rfl|rfl
 refine⟨_,90,rfl,rfl,rfl,rfl,rfl,?_⟩
 refine Yd.call (xR Sv (v0:= .agg #[_,_]) rfl (v1:= .int .i64 c20_1) rfl) (As _ _ _ L11_2 c20_1 _ (hI.s.ow hrwX) (LO.ext hI.s hlwX) E Om) (λv W' hE hP=> ?_)
 obtain⟨r,vs,rfl,h1,h2⟩:=hP
 have k:=hI.p3 (ma hrd) hE h1 h2
 exact⟨.inl k.s,acb k (qS hlt) (d6 hlt Dd) (d6 hlt Dd) (d6 hlt Dd) (d6 hlt Dd) (d6 hlt Dd) (d6 hlt Dd) (d6 hlt Dd)⟩
 refine⟨_,92,rfl,rfl,rfl,rfl,rfl,?_⟩
 have n3:=kU (j:=3) hrd rfl
 obtain⟨r,vs,e,_⟩:=hI.o3 n3
 refine Yd.val (mO (h0:=e) (h1:=rfl) (k1:=dh.cells hovX.sl) (c1_0:=p)) ?_
 have k:=hI.p5 n3 e
 exact⟨.inl k.s,acb k (d6 hlt Dd) (qS hlt) (d6 hlt Dd) (d6 hlt Dd) (d6 hlt Dd) (d6 hlt Dd) (d6 hlt Dd) (d6 hlt Dd)⟩
 refine⟨_,95,rfl,rfl,rfl,rfl,rfl,?_⟩
 refine Yd.call (xR II (v0:= .agg #[_,_]) rfl (v1:= .int .i64 c20_1) rfl) (ph _ _ _ L11_2 c20_1 _ (hI.s.ow hrwX) (LO.ext hI.s hlwX) E Om) (λv W' hE hP=> ?_)
 obtain⟨r,rfl,h1⟩:=hP
 have k:=hI.p8 (kU (j:=3) hrd rfl) (ma hrd) hE h1
 exact⟨.inl k.s,acb k (d6 hlt Dd) (d6 hlt Dd) (qS hlt) (d6 hlt Dd) (d6 hlt Dd) (d6 hlt Dd) (d6 hlt Dd) (d6 hlt Dd)⟩
 refine⟨_,96,rfl,rfl,rfl,rfl,rfl,?_⟩
 refine Cp cM (λb W' hb hE hm=> ?_)
 have k:=hI.p9 (ma hrd) hb hE hm
 exact⟨.inl k.s,acb k (d6 hlt Dd) (d6 hlt Dd) (d6 hlt Dd) (qS hlt) (d6 hlt Dd) (d6 hlt Dd) (d6 hlt Dd) (d6 hlt Dd)⟩
 refine⟨_,98,rfl,rfl,rfl,rfl,rfl,?_⟩
 have n9:=kU (j:=9) hrd rfl
 have h9:=hI.o9 n9 (ma hrd)
 have hsX:dh dJ 1 W p ((st.getD k mJ).2++T11_2):=(hI.s.ow hovX).sl
 have hzX:(([]:List Int).length+(((st.getD k mJ).2++T11_2)).length)*8≤140737488355328:=by have hz:([]:List Int).length=0:=rfl;omega
 have hzY:(([]:List Int).length+(((st.getD k mJ).2++T11_2)).length)≤9223372036854775807:=by have hz:([]:List Int).length=0:=rfl;omega
 refine i6 (v:=g 96) (v2:=p) rfl rfl cM eQ Dd h9 hsX lN (dz.size hI.s) hzX hzY (λv' W' hG hO hob=> ?_)
 replace hO:=cD.app (enc:=dJ) (l:=[]) (l2:=((st.getD k mJ).2++T11_2)) rfl rfl rfl rfl hO
 rw[aaM]at hO
 have k:=hI.p11 (by decide) (ma hrd) (kU (j:=8) hrd rfl) n9 hG hO hob
 exact⟨.inl k.s,acb k (d6 hlt Dd) (d6 hlt Dd) (d6 hlt Dd) (d6 hlt Dd) (qS hlt) (d6 hlt Dd) (d6 hlt Dd) (d6 hlt Dd)⟩
 refine⟨_,100,rfl,rfl,rfl,rfl,rfl,?_⟩
 refine eK (u:= .int .i64 c20_1) rfl cM eQ rfl Dd Dd (λb W' hb hE hm=> ?_)
 have k:=hI.p13 (ma hrd) hE (jU (enc:=dJ) (a:=c20_1) hm rfl rfl (aae hb.symm))
 exact⟨.inl k.s,acb k (d6 hlt Dd) (d6 hlt Dd) (d6 hlt Dd) (d6 hlt Dd) (d6 hlt Dd) (qS hlt) (d6 hlt Dd) (d6 hlt Dd)⟩
 refine⟨_,101,rfl,rfl,rfl,rfl,rfl,?_⟩
 have n11:=kU (j:=11) hrd rfl
 have n13:=kU (j:=13) hrd rfl
 have n14:=ma hrd
 have h11:=hI.o11 n11 n14
 refine dZ (v:=g 98) (v2:=g 100) rfl rfl cM eQ Dd h11 (hI.o13 n13 n14).1.sl lN (dz.size hI.s) (by have hz:[c20_1].length=1:=rfl;omega) (by have hz:[c20_1].length=1:=rfl;omega) (λv' W' hG hO=> ?_)
 replace hO:=cD.app (enc:=dJ) (l:=((st.getD k mJ).2++T11_2)) (l2:=[c20_1]) rfl rfl rfl rfl hO
 have k:=hI.p14 (by decide) n14 n11 n13 hG hO
 exact⟨.inl k.s,acb k (d6 hlt Dd) (d6 hlt Dd) (d6 hlt Dd) (d6 hlt Dd) (d6 hlt Dd) (d6 hlt Dd) (qS hlt) (d6 hlt Dd)⟩
 refine⟨_,102,rfl,rfl,rfl,rfl,rfl,?_⟩
 have n14:=kU (j:=14) hrd rfl
 have n8:=kU (j:=8) hrd rfl
 obtain⟨r,e,_⟩:=hI.o8 n8
 refine Yd.val (mO (h0:=e) (h1:=rfl) (k1:=dh.cells (hI.o14 n14).sl) (c1_0:=g 101)) ?_
 have k:=hI.p15 n14 e
 exact⟨.inl k.s,acb k (d6 hlt Dd) (d6 hlt Dd) (d6 hlt Dd) (d6 hlt Dd) (d6 hlt Dd) (d6 hlt Dd) (d6 hlt Dd) (qS hlt)⟩
 rintro aW bC hIX
 have hleX:=(Below.size hB)
 obtain⟨rv21_3,bD,aX,hk21_3,hLO21_3,_⟩:=hIX.o3 rfl
 obtain⟨r5,e5,aY⟩:=hIX.o5 rfl
 obtain rfl:rv21_3=r5:=by rw[aX]at e5;simpa using e5
 obtain⟨rv21_8,aZ,hk21_8⟩:=hIX.o8 rfl
 have C:=cD.mono (hIX.o14 rfl) hleX
 obtain⟨r15,e15,ab⟩:=hIX.o15 rfl
 obtain rfl:rv21_8=r15:=by rw[aZ]at e15;simpa using e15
 obtain⟨H,a2⟩:∃u,aW 101=u:=⟨_,rfl⟩
 rw[a2]at ab C
 have hXs:=hIX.s
 refine D0 (Bq [(92, .agg #[.int .i64 (xs.getD k CR).n,rv21_3,p]),(102, .agg #[.int .i64 (xs.getD k CR).n,rv21_8,H])] ⟨aY,ab,trivial⟩) ?_
 obtain⟨hB,f⟩:=hXs.k2 hB f
 replace hS:=hS.trans hXs
 refine To 16 rfl (Gg (u0:= .agg #[.int .i64 (xs.getD k CR).n,rv21_3,p]) (u1:= .agg #[.int .i64 (xs.getD k CR).n,rv21_8,H]) rfl rfl mG yN rfl rfl Dd Dd λa3 bE a4 ac a5=>⟨.inl (hS.trans ac),?_⟩)
 have a6:=ZO a4 hB
 obtain⟨hB,f,hk21_3,hLO21_3,hk21_8,C⟩:=ac.k6 hB f hk21_3 hLO21_3 hk21_8 C
 have O:=yH (enc:=Gu) (sz:=3) (a0:=⟨(xs.getD k CR).n,rv21_3,p⟩) (a1:=⟨(xs.getD k CR).n,rv21_8,H⟩) a5 rfl rfl rfl rfl a6
 replace d:=On hB d
 replace hst:=Below.ow hB hst
 replace hbest:=Below.ow hB hbest
 replace hch:=ii.below hB hch
 replace hLO11_2:=LO.below hB hLO11_2
 have hzs:=an (am _) (Below.size z)
 replace f:=cD.mono f hzs
 replace C:=cD.mono C hzs
 replace O:=cD.mono O hzs
 replace hB:=Below.trans z (Below.mono hB hzs)
 refine To 17 rfl (dZ (v:=fP 3 v9 0 k (iZ v9)) (v2:= .slice (some ⟨a3,0,none⟩) 2 2) rfl rfl mG yN Dd hst O.sl ((RR (cD.one hk21_3) (cD.one f) (cD.one hk21_8) (cD.one C))) (n4 hB) iq iq λad bF B P=>⟨.inr jW,?_⟩)
 replace P:=cD.app (enc:=Gu) rfl rfl rfl rfl P
 replace hB:=ZG hB B hst
 replace d:=At.grownOw d hst B Dd
 replace hbest:=cD.grownOw hbest hst B Dd
 replace hch:=ii.grownOw hch hst B Dd Dd
 replace hLO11_2:=LO.grownOw hLO11_2 hst B Dd
 replace f:=cD.grownOw f hst B Dd
 replace hk21_3:=cD.grownOw hk21_3 hst B Dd
 replace hLO21_3:=LO.grownOw hLO21_3 hst B Dd
 replace hk21_8:=cD.grownOw hk21_8 hst B Dd
 replace C:=cD.grownOw C hst B Dd
 refine jK (dd:=some 9) 18 jW rfl rfl rfl rfl (Yd.val (FW (v:=ad) rfl) ⟨.inr jW,?_⟩)
 refine Td ?_
 exact F _ _ ((ad,xs.take k++[⟨(xs.getD k CR).n,rv21_3,p⟩,⟨(xs.getD k CR).n,rv21_8,H⟩],st.take k++[(pM L11_2 c20_1,((st.getD k mJ).2++T11_2)),(sQ L11_2 c20_1,((st.getD k mJ).2++T11_2)++[c20_1])],v7,best,steps+1)) Za ⟨rfl,rfl,rfl,trivial⟩ ⟨hB,d,P,(by exact hbest),(ii.two (x1:=⟨(xs.getD k CR).n,rv21_3,p⟩) (x2:=⟨(xs.getD k CR).n,rv21_8,H⟩) (y1:=(pM L11_2 c20_1,((st.getD k mJ).2++T11_2))) (y2:=(sQ L11_2 c20_1,((st.getD k mJ).2++T11_2)++[c20_1])) (ii.take hch k) hk21_3 hLO21_3 (cD.mono f (my _)) hk21_8 (by have h:=acr hLO11_2 (λk=> !decide (c20_1∈L11_2.getD k [])) L11_2.length (am _);rw[Oe]at h;exact h) (cD.mono C (my _))),(pa.branch hfw hks hrd11_2 E hT4 Om hcin Om rfl rfl),trivial⟩ (by exact acF hks hrd11_2 E hcin)
 refine cR ?_
 have hbl:=hfw.bl
 refine Zr<|Zw v7 rfl<|Zf rfl iv<|Zl rfl cK d rfl<|ZC Ip (qp _ best n _ hbest.sl Om (by have q:=fm.1 hr;exact⟨q.1,q.2.1⟩)) rfl λae bG a7 Q=> ?_
 have bH:=abU hbest
 have a8:=(Below.size hB)
 replace hB:=Ze hB a7
 replace Q:=cD.mono Q a8
 refine Zi rfl<|Zw ae rfl<|Zi rfl<|ZZ rfl<|Zt<|IW (v:=ae) rfl (v1:= .int .i64 _) rfl (v2:= .int .i64 0) rfl ⟨hB,?_⟩
 have hfin:=hfw.fin hr (by omega)
 have hrl:=mF best n.toNat
 have hn4:=(fm.1 hr).2.1
 exact .inl ⟨_,_,_,rfl,Q,hfin,by omega,hfw.s0,hfw.sb⟩
end
section
open Go Go.RowKit
theorem jl:dS Tryz.prog 222 1=some 1:=by kernel_rfl
theorem lA:eE Tryz.prog 220=true:=by kernel_rfl
theorem lx:fj Tryz.prog 220=some (228,3,24):=by kernel_rfl
theorem pX:dS Tryz.prog 228 0=some 0:=by kernel_rfl
theorem IL:cX Tryz.prog 159=true:=by kernel_rfl
theorem Ju:cX Tryz.prog 238=true:=by kernel_rfl
theorem C9:dT Tryz.prog 228=some (.agg #[.int .i64 0, .int .i64 0, .int .i64 0]):=by kernel_rfl
theorem vj {f:Nat→Value} {w:World} {d:Option Nat} {ty:TypeId} {ps:String} {af:Array Edge} {g:Option (Nat×Bool)} {x0 x1 x2:Operand} {c0_0 c1_0 c2_0:Value} (h0:dg f x0=c0_0) (k0:c0_0.cells= #[c0_0]) (h1:dg f x1=c1_0) (k1:c1_0.cells= #[c1_0]) (h2:dg f x2=c2_0) (k2:c2_0.cells= #[c2_0]):
    (execOp (dg f) ⟨d, .build 228 #[(0,x0),(1,x1),(2,x2)],ty,ps,af,g⟩).run Tryz.prog w= .ok (.value (.agg #[c0_0,c1_0,c2_0])) w:=by
  obtain⟨i0,hi0,hz0⟩:=Do.1 (show (Tryz.prog.info? 228).bind (·.zero)=_ from C9)
  obtain⟨j3,hj3,hs3⟩:=go.1 fH
  simp[execOp,h0,k0,h1,k1,h2,k2,Instr.build,zeroValue,typeInfo,sizeOf,hi0,hz0,run_underlying Tryz.underlying228,Instr.fill,dX,hj3,hs3]
theorem pf:j8 Tryz.prog 228=some 3:=by kernel_rfl
theorem sX:dS Tryz.prog 222 2=some 2:=by kernel_rfl
theorem zN:eE Tryz.prog 219=true:=by kernel_rfl
theorem yI:mU Tryz.prog 219=some (228,3):=by kernel_rfl
theorem Nv {f:Nat→Value} {w:World} {d:Option Nat} {ty t2:TypeId} {ps:String} {af:Array Edge} {g:Option (Nat×Bool)} {x y:Operand} {a0 a1 a2 b0 b1 b2:Int} (hx:dg f x= .agg #[.int .i64 a0, .int .i64 a1, .int .i64 a2]) (hy:dg f y= .agg #[.int .i64 b0, .int .i64 b1, .int .i64 b2]):
    (execOp (dg f) ⟨d, .binOp .eql 228 x y t2,ty,ps,af,g⟩).run Tryz.prog w= .ok (.value (.bool (decide ((a0=b0∧a1=b1∧a2=b2))))) w:=by
  have hg:Tryz.prog.eqGuardType Tryz.prog.depth 228=false:=by kernel_rfl
  have hp228:Tryz.prog.stoodInHeld 228=false:=by kernel_rfl
  have hu228:Tryz.prog.underlying 228=some (.struct (Tryz.prog.fieldsOf 228)):=by kernel_rfl
  simp only[execOp,hx,hy,Sem.run_bind,run_eqGuard_agg _ _ _ _ _ _ _ hg,Result.andThen_ok,run_eql_struct,run_equalIn_agg _ 9999 228 _ _ hu228 hp228]
  simp only[Program.fieldsOf,Tryz.underlying228]
  simp[Op.eqFields,part,isAgg,run_equalIn_int _ 9998 3 _ _ _ _ Tryz.underlying3,run_underlying Tryz.underlying3]
  by_cases q0:a0=b0<;>by_cases q1:a1=b1<;>by_cases q2:a2=b2<;>simp[q0,q1,q2]
theorem AY:qc Tryz.prog 228 (λv=>∃a:Nd,v=vD a):=by
  refine pd Tryz.underlying228 ?_ ?_ ?_ ?_
  · rintro w _ _ ⟨a,rfl⟩ ⟨c,rfl⟩
    have hg:Tryz.prog.eqGuardType Tryz.prog.depth 228=false:=by kernel_rfl
    exact⟨_,rW hg (Nv rfl rfl),by rw[decide_eq_true_eq];constructor<;>intro h<;>simpa [vD] using h⟩
  · rintro _ _ ⟨a,rfl⟩ ⟨c,rfl⟩
    exact .inl rfl
  · rintro w em _ ⟨a,rfl⟩
    have h2:∀k,(Instr.checkKey em (k+1+1+1) 228 (vD a)).run Tryz.prog w= .ok () w:=λk=>by
      simp[vD,Instr.checkKey,part,isAgg,run_underlying Tryz.underlying228,run_underlying Tryz.underlying3]
    exact h2 9997
  · rintro _ ⟨a,rfl⟩
    simp[vD,Instr.sameBits]
theorem GX:dS Tryz.prog 222 0=some 0:=by kernel_rfl
theorem EE:(dT Tryz.prog 228).map (λz=>z.cells.size)=some 3:=by kernel_rfl
theorem Hb:dS Tryz.prog 228 1=some 1:=by kernel_rfl
theorem G9:dS Tryz.prog 228 2=some 2:=by kernel_rfl
theorem sW:dS Tryz.prog 282 0=some 0:=by kernel_rfl
theorem yt:eE Tryz.prog 166=true:=by kernel_rfl
theorem I7:cX Tryz.prog 119=true:=by kernel_rfl
theorem Cz:cX Tryz.prog 273=true:=by kernel_rfl
theorem SO:cX Tryz.prog 202=true:=by kernel_rfl
theorem ly (N ba bm R:Nat) (ns:List Nd) (id:Int) (w:World) (hD:fC 222 228 N ba bm R w ns) (hid:id≤9223372036854775807):
    Fn Tryz.prog 159 #[.pointer (some ⟨ba,0,none⟩), .int .i64 id] w λv w'=>v= .bool (iE ns id):=by
 refine cH (n:=29) Tryz.func159 rfl rfl rfl λhB=> ?_
 obtain⟨nv,hha,hno⟩:=hD.out
 have hmp:=hD.hm
 have hwf:=hD.wf
 have hroom:=hD.room
 have htop:=hD.top
 have hla:=hD.la
 have hlm:=hD.lm
 refine Zr<|Zb rfl<|ct<|Zr<|Zi rfl<|Zv (mT rfl rfl)<|ZX rfl (λa=> ?_) λa=> ?_
 refine Zi rfl<|Zv (ld rfl rfl Om Om)<|Zp rfl<|Zc rfl<|Zf rfl jl<|ZL nv rfl lA (On hB hha) rfl<|Zv (cT (v:=nv) rfl ((Below.ow hB hno)).sl lx)<|Zv (dk rfl rfl)<|Zb rfl<|ZX rfl (λb=> ?_) λb=> ?_
 refine Zp rfl<|Zc rfl<|Zf rfl jl<|ZL nv rfl lA (On hB hha) rfl<|Zi rfl<|Zv (ld rfl rfl Om Om)<|Zv (df (v:=nv) rfl ((Below.ow hB hno)).sl rfl lx Om Om)<|Zf rfl pX<|Zv (cB (v:= .int .i64 _) rfl cK (dh.cell ((Below.ow hB hno)).sl pn n7 Om Om 0 rfl))<|Zv (ep rfl rfl)<|Zb rfl<|Zb rfl<|ct<|Zt ?_
 refine cV (v:= .bool _) rfl ⟨hB,?_⟩
 exact YO a b
 refine Zs<|Zs<|Zs<|Zs<|Zs<|Zs<|Zs<|Zs<|Zs<|Zs<|Zb rfl<|Zb rfl<|ct<|Zt ?_
 refine cV (v:= .bool false) rfl ⟨hB,?_⟩
 exact XC b
 refine Zs<|Zs<|Zs<|Zs<|Zs<|Zs<|Zs<|Zs<|Zb rfl<|Zb rfl<|Zs<|Zs<|Zs<|Zs ?_
 refine Zs<|Zs<|Zs<|Zs<|Zs<|Zs<|Zb rfl<|Zb rfl<|ct<|Zt<|cV (v:= .bool false) rfl ⟨hB,?_⟩
 exact Xf a
theorem lF (N ba bm R:Nat) (ns:List Nd) (id:Nat) (w:World) (hD:fC 222 228 N ba bm R w ns) (hid:id<ns.length+2):
    Fn Tryz.prog 238 #[.pointer (some ⟨ba,0,none⟩), .int .i64 (id:Int)] w λv w'=>v= .int .i64 ((dQ ns id:Nat):Int):=by
 refine cH (n:=25) Tryz.func238 rfl rfl rfl λhB=> ?_
 obtain⟨nv,hha,hno⟩:=hD.out
 have hmp:=hD.hm
 have hwf:=hD.wf
 have hroom:=hD.room
 have htop:=hD.top
 have hla:=hD.la
 have hlm:=hD.lm
 refine Zr<|ZZ rfl<|Zq<|cx<|Zr<|Zi rfl<|Zv (dW rfl rfl)<|ZX rfl (λa=> ?_) λa=> ?_
 refine Zs<|Zs<|Zb rfl<|Zb rfl<|ct<|cF rfl<|Zr<|ZZ rfl<|Zt<|cV (v:= .int .i64 24) rfl ⟨hB,?_⟩
 exact XE (.inl a)
 refine Zi rfl<|Zv (dW rfl rfl)<|Zb rfl<|Zb rfl<|ct<|ZQ rfl (λb=> ?_) λb=> ?_
 refine Zr<|ZZ rfl<|Zt<|cV (v:= .int .i64 24) rfl ⟨hB,?_⟩
 exact XE (.inr b)
 refine Zr<|Zp rfl<|Zi rfl<|ZC IL (ly _ _ _ _ _ _ _ (fC.below hB hD) (by omega)) rfl λf g d e=> ?_
 replace hB:=Ze hB d
 obtain rfl:=e
 refine Zb rfl<|ct<|ZQ rfl (λc=> ?_) λc=> ?_
 have hth:=pi.1 c
 refine Zr<|Zp rfl<|Zc rfl<|Zf rfl jl<|ZL nv rfl lA (On hB hha) rfl<|Zi rfl<|Zv (ld rfl rfl Om Om)<|Zv (df (v:=nv) rfl ((Below.ow hB hno)).sl rfl lx Om Om)<|Zf rfl pX<|Zv (cB (v:= .int .i64 _) rfl cK (dh.cell ((Below.ow hB hno)).sl pn n7 Om Om 0 rfl))<|ZZ rfl<|Zt<|cV (v:= .int .i64 _) rfl ?_
 refine⟨hB,?_⟩
 exact YH a b
 exact(Wj hid a b c).elim
theorem qr (N ba bm R:Nat) (ns:List Nd) (l lo hi:Nat) (w:World) (hN0:N≤w.heap.size) (hD:fC 222 228 N ba bm R w ns) (hlo:lo<ns.length+2) (hhi:hi<ns.length+2) (h0:hi≠0) (l1:l<dQ ns lo) (l2:l<dQ ns hi) (h24:l<24):
    mS Tryz.prog 202 #[.pointer (some ⟨ba,0,none⟩), .int .i64 (l:Int), .int .i64 (lo:Int), .int .i64 (hi:Int)] w λv w'=>PO 222 228 N ba bm R w ns (1) (l) (up l (M ns lo) (M ns hi)) v w':=by
 refine d5 (n:=112) (N:=N) Tryz.func202 rfl rfl rfl λhB=> ?_
 obtain⟨nv,hha,hno⟩:=hD.out
 have hmp:=hD.hm
 have hwf:=hD.wf
 have hroom:=hD.room
 have htop:=hD.top
 have hla:=hD.la
 have hlm:=hD.lm
 have hX:Dx 228 N [ba,bm] w w:=Dx.refl
 have hil:=ME ns
 have g:=hB
 replace hB:=Below.refl w.heap.size w
 refine Zr<|Zi rfl<|ZZ rfl<|Zq<|Zr<|Zp rfl<|Zv (qJ rfl rfl Tryz.underlying166)<|Zb rfl<|Zi rfl<|Zv (dk rfl rfl)<|Zb rfl<|ZX rfl (λp=> ?_) λp=> ?_
 exact absurd p Om
 refine Zp rfl<|Zi rfl<|ZC Ju (lF _ _ _ _ _ _ _ (fC.below hB hD) m5) rfl λad W8 y z=> ?_
 replace hB:=Ze hB y
 obtain rfl:=z
 refine Zi rfl<|Zv (Bd rfl rfl)<|Zb rfl<|ZX rfl (λq=> ?_) λq=> ?_
 exact absurd q Om
 refine Zp rfl<|Zi rfl<|ZC Ju (lF _ _ _ _ _ _ _ (fC.below hB hD) m5) rfl λae af A B=> ?_
 replace hB:=Ze hB A
 obtain rfl:=B
 refine Zi rfl<|Zv (Bd rfl rfl)<|Zb rfl<|ct<|ZQ rfl (λr=> ?_) λr=> ?_
 exact absurd r Om
 refine cu<|Zr<|Zi rfl<|Zi rfl<|Zi rfl<|Zv (vj (h0:=rfl) (k0:=rfl) (h1:=rfl) (k1:=rfl) (h2:=rfl) (k2:=rfl) (c0_0:= .int .i64 _) (c1_0:= .int .i64 _) (c2_0:= .int .i64 _))<|Zy (cI C9 rfl λs ag t C c=> ?_)
 have D:=ZO t hB
 have E:=aaQ (b:=s) (Below.ow hB hno) (aae t.symm)
 replace hB:=Ze hB C
 refine Zy (cz rfl rfl pf rfl c rfl rfl λah F G=> ?_)
 replace hB:=Zg hB F D
 replace c:=G
 refine ct<|Zq<|Zd dz λH I=> ?_
 obtain⟨hB,c⟩:=I.k2 hB c
 have hS:=dz.refl H
 refine Tq 0 rfl rfl hS<|Tc 1 rfl rfl hS<|Tf 2 rfl rfl sX hS<|Tk 3 rfl (λ_ hq=>cB (v:= .map (some bm)) rfl zN (At.cell (hq.at (On hB hha)) rfl)) hS<|Tk 4 rfl (λ_ hq=>cy rfl pf rfl (hq.at c)) hS<|Tk 5 rfl (λ_ hq=>BM (enc:=vD) (encV:=eH) (v0:=0) (k:=⟨l,lo,hi⟩) rfl rfl yI AY (λa=>⟨a,rfl⟩) E6 wz rfl (hq.mapT (abt hB hmp))) hS<|Tw 6 (.tuple #[.int .i64 _, .bool _]) rfl rfl hS<|Tk 7 rfl (λ_ _=>c7 rfl) hS<|Tk 8 rfl (λ_ _=>da rfl) hS<|Ti 9 rfl rfl hS<|Ty 10 rfl rfl hS<|Td<|Zr<|Zb rfl ?_
 refine ct<|ZQ rfl (λj=> ?_) λj=> ?_
 refine Zr<|Zi rfl<|Zi rfl<|ZZ rfl ?_
 refine lh ?_
 replace hha:=On hB hha
 replace hno:=Below.ow hB hno
 replace hmp:=abt hB hmp
 replace hX:=Dx.trans hX (Dx.below hB)
 have hzs:=an hN0 (Below.size g)
 repeat (first|refine eJ ?_|refine eg ?_)
 refine dL (v:= .int .i64 _) rfl (v1:= .int .i64 0) rfl ?_
 obtain⟨i,hi2,hn,he⟩:=UN hwf j
 rw[he]
 exact⟨ns,i+2,0,rfl,hX,⟨⟨nv,hha,hno⟩,hmp,hla,hlm,hwf,hroom,htop⟩,Ue hwf hi2 hn⟩
 refine cu<|Zq ?_
 have hnew:=Vv j
 refine Zd dz λJ K=> ?_
 obtain⟨hB,c⟩:=K.k2 hB c
 have hS:=dz.refl J
 refine Tq 0 rfl rfl hS<|Tc 1 rfl rfl hS<|Tf 2 rfl rfl sX hS<|Tk 3 rfl (λ_ hq=>cB (v:= .map (some bm)) rfl zN (At.cell (hq.at (On hB hha)) rfl)) hS<|Tk 4 rfl (λ_ hq=>Ng rfl yI (hq.mapT (abt hB hmp))) hS<|Tq 5 rfl rfl hS<|Tc 6 rfl rfl hS<|Tf 7 rfl rfl GX hS<|Tk 8 rfl (λ_ hq=>cB (v:= .int .i64 _) rfl cK (At.cell (hq.at (On hB hha)) rfl)) hS<|Tk 9 rfl (λ_ _=>mT rfl rfl) hS<|Td<|ZQ rfl (λL=> ?_) λL=> ?_
 refine Zr<|Zi rfl<|ZZ rfl ?_
 refine lh ?_
 replace hha:=On hB hha
 replace hno:=Below.ow hB hno
 replace hmp:=abt hB hmp
 replace hX:=Dx.trans hX (Dx.below hB)
 have hzs:=an hN0 (Below.size g)
 repeat (first|refine eJ ?_|refine eg ?_)
 refine dL (v:= .int .i64 0) rfl (v1:= .int .i64 5) rfl ?_
 exact⟨ns,0,5,rfl,hX,⟨⟨nv,hha,hno⟩,hmp,hla,hlm,hwf,hroom,htop⟩,Rv Om⟩
 refine cu<|Zr<|ZZ rfl<|Zq<|cx ?_
 refine cS (σ:=(Nat)) [13,13,59,78] (λi=>[(13, .int .i64 (i:Int))]) (λi W=>(Below w.heap.size w W)∧(At W s _ 228)∧(i≤ns.length)∧(True)) (λi=>ns.length-i) (0) ⟨rfl,trivial⟩ ⟨hB,c,(my _),trivial⟩ ?_
 rintro i ai aj ⟨hB,c,hi2,_⟩ ak O
 refine Zq<|Zr<|Zi rfl<|Zp rfl<|Zc rfl<|Zf rfl jl<|ZL nv rfl lA (On hB hha) rfl<|Zv (cT (v:=nv) rfl ((Below.ow hB hno)).sl lx)<|Zv (dk rfl rfl)<|ZX rfl (λP=> ?_) λP=> ?_
 refine Zp rfl<|Zc rfl<|Zf rfl jl<|ZL nv rfl lA (On hB hha) rfl<|Zi rfl<|Zv (df (v:=nv) rfl ((Below.ow hB hno)).sl rfl lx Om Om)<|Zf rfl pX<|Zv (cB (v:= .int .i64 _) rfl cK (dh.cell ((Below.ow hB hno)).sl pn n7 Om Om 0 rfl))<|Zv (ep rfl rfl)<|Zb rfl<|ct<|ZQ rfl (λQ=> ?_) λQ=> ?_
 refine cu<|cx<|cN<|Zi rfl<|Zv (eP rfl rfl Om Om)<|ZZ rfl ?_
 exact O _ _ (i+1) Za ⟨rfl,trivial⟩ ⟨hB,c,Om,trivial⟩ Zo
 omega
 refine Zs<|Zs<|Zs<|Zs<|Zs<|Zs<|Zs<|Zs<|Zs<|Zb rfl<|ct<|dA rfl<|cR ?_
 refine Zq ?_
 obtain rfl:i=ns.length:=by omega
 refine Zr<|Zi rfl<|Zp rfl<|Zc rfl<|Zf rfl jl<|ZL nv rfl lA (On hB hha) rfl<|Zv (cT (v:=nv) rfl ((Below.ow hB hno)).sl lx)<|Zv (dW rfl rfl)<|ct<|ZQ rfl (λS=> ?_) λS=> ?_
 replace hha:=On hB hha
 replace hno:=Below.ow hB hno
 replace hmp:=abt hB hmp
 replace hX:=Dx.trans hX (Dx.below hB)
 have hzs:=an hN0 (Below.size g)
 replace hB:=Below.trans g (Below.mono hB hzs)
 refine fe (λa b=>a.grownBy b nv.ownBlock) fQ (λT m=> ?_)
 obtain⟨hha,hno,hmp,hX⟩:=m.k4 hha hno hmp hX
 replace hB:=cW hB m hN0
 replace c:=m.at c
 have U:=hno
 have hS:=World.grownBy.refl T nv.ownBlock
 refine Tq 0 rfl rfl hS<|Tq 1 rfl rfl hS<|Tc 2 rfl rfl hS<|Tf 3 rfl rfl jl hS<|Tk 4 rfl (λ_ hq=>cB (v:=nv) rfl lA (At.cell (At.grownOw hha U hq Dd) rfl)) hS ?_
 refine jK (dd:=some 91) 5 jW rfl rfl rfl rfl (Yd.val (cy rfl pf rfl c) ⟨.inl hS,?_⟩)
 refine To 6 rfl (eK (u:= .agg #[_,_,_]) rfl lx EE rfl Dd Dd λV al ao f X=>⟨.inl (cC hS (dz.grown f nv.ownBlock)),?_⟩)
 obtain⟨hha,hno,hmp,hX⟩:=f.k4 hha hno hmp hX
 replace hB:=cW hB f hN0
 replace c:=f.at c
 replace hS:=cC hS (dz.grown f nv.ownBlock)
 refine To 7 rfl (dZ (v:=nv) (v2:= .slice (some ⟨V,0,none⟩) 1 1) rfl rfl lx EE Dd hno (eT X rfl) rfl (n4 hB) (by omega) (by omega) λY ap e d=>⟨.inl (cC hS e),?_⟩)
 replace hS:=cC hS e
 replace d:=cD.snoc (enc:=Vt) (x:=⟨l,lo,hi⟩) rfl rfl rfl rfl d
 replace hha:=At.grownOw hha hno e Dd
 replace hmp:=du.grownOw hmp hno e
 replace hX:=Dx.trans hX (Dx.row hno e)
 replace c:=acx c E e
 refine Tc 8 rfl rfl hS<|Tf 9 rfl rfl jl hS<|To 10 rfl (dm (v:=Y) rfl rfl lA (dh.one d.sl) hha gj λaq h Z=>⟨.inr jW,?_⟩)
 replace hmp:=du.grownAt hmp hha h
 replace hX:=Dx.trans hX (Dx.grown h gj hla)
 replace c:=At.grownAt c hha h Dd
 replace d:=cD.grownAt d hha h Dd
 replace hha:=Z
 replace hha:At _ _ #[_,_,_] _:=hha
 refine Td<|Zd dz λaa ab=> ?_
 obtain⟨hha,hmp,hX,c,d⟩:=ab.k5 hha hmp hX c d
 have hS:=dz.refl aa
 refine Tq 0 rfl rfl hS<|Tc 1 rfl rfl hS<|Tf 2 rfl rfl sX hS<|Tk 3 rfl (λ_ hq=>cB (v:= .map (some bm)) rfl zN (At.cell (hq.at hha) rfl)) hS<|Tk 4 rfl (λ_ hq=>cy rfl pf rfl (hq.at c)) hS<|Ti 5 rfl rfl hS<|Tk 6 rfl (λ_ _=>eP rfl rfl Om Om) hS<|To 7 rfl (fJ (enc:=vD) (encV:=eH) (k:=⟨l,lo,hi⟩) (v:=((ns.length+2:Nat):Int)) rfl rfl rfl yI AY (λa=>⟨a,rfl⟩) E6 hmp λar o ac=>⟨.inr jW,?_⟩)
 replace hha:=At.grownMap hha hmp o
 replace hX:=Dx.trans hX (Dx.grown o gj hlm)
 replace d:=cD.grownMap d hmp o
 replace hmp:=ac
 rw[Me hnew]at hmp
 refine Td<|Zr<|Zi rfl<|Zv (eP rfl rfl Om Om)<|Zi rfl<|ZZ rfl<|Zt<|dL (v:= .int .i64 _) rfl (v1:= .int .i64 0) rfl ?_
 exact⟨ns++[⟨l,lo,hi⟩],ns.length+2,0,rfl,hX,⟨⟨_,hha,d⟩,hmp,hla,hlm,hwf.snoc hnew hlo hhi h0 l1 l2 h24,iq,htop⟩,Um hlo hhi⟩
 omega
theorem lR (N ba bm R:Nat) (ns:List Nd) (id:Int) (w:World) (hD:fC 222 228 N ba bm R w ns) (hid:id≤9223372036854775807):
    Fn Tryz.prog 119 #[.pointer (some ⟨ba,0,none⟩), .int .i64 id] w λv w'=>v= .tuple #[.int .i64 ((mW ns id).l:Int), .int .i64 ((mW ns id).lo:Int), .int .i64 ((mW ns id).hi:Int), .bool (iE ns id)]:=by
 refine cH (n:=31) Tryz.func119 rfl rfl rfl λhB=> ?_
 obtain⟨nv,hha,hno⟩:=hD.out
 have hmp:=hD.hm
 have hwf:=hD.wf
 have hroom:=hD.room
 have htop:=hD.top
 have hla:=hD.la
 have hlm:=hD.lm
 refine Zr<|Zi rfl<|Zi rfl<|Zi rfl<|Zb rfl<|ct<|Zq<|Zr<|Zp rfl<|Zv (qJ rfl rfl Tryz.underlying166)<|Zb rfl<|Zp rfl<|Zi rfl<|ZC IL (ly _ _ _ _ _ _ _ (fC.below hB hD) m5) rfl λm W7 c d=> ?_
 replace hB:=Ze hB c
 obtain rfl:=d
 refine Zv (eR rfl)<|Zb rfl<|ct<|ZQ rfl (λb=> ?_) λb=> ?_
 refine Zr<|Zi rfl<|Zi rfl<|Zi rfl<|Zb rfl<|ct<|Zt<|Fj (v:= .int .i64 0) rfl (v1:= .int .i64 0) rfl (v2:= .int .i64 0) rfl (v3:= .bool false) rfl ⟨hB,?_⟩
 obtain⟨ht,hn⟩:=Q5 b
 rw[ht,hn]
 rfl
 refine cu ?_
 obtain⟨ht,hn⟩:=SF b
 have hth:=pi.1 ht
 refine Zr<|Zp rfl<|Zc rfl<|Zf rfl jl<|ZL nv rfl lA (On hB hha) rfl<|Zi rfl<|Zv (ld rfl rfl Om Om)<|Zv (df (v:=nv) rfl ((Below.ow hB hno)).sl rfl lx Om Om)<|Zv (gH rfl pf (dh.cell ((Below.ow hB hno)).sl pn n7 Om Om 0 rfl) (dh.cell ((Below.ow hB hno)).sl pn n7 Om Om 1 rfl) (dh.cell ((Below.ow hB hno)).sl pn n7 Om Om 2 rfl))<|Zy (cI C9 rfl λo p e f a=> ?_)
 have g:=ZO e hB
 replace hB:=Ze hB f
 refine Zy (cz rfl rfl pf rfl a rfl rfl λq h i=> ?_)
 replace hB:=Zg hB h g
 replace a:=i
 refine ct<|Zd dz λj k=> ?_
 obtain⟨hB,a⟩:=k.k2 hB a
 have hS:=dz.refl j
 refine Tf 0 rfl rfl pX hS<|Tk 1 rfl (λ_ hq=>cB (v:= .int .i64 _) rfl cK (At.cell (hq.at a) rfl)) hS<|Tf 2 rfl rfl Hb hS<|Tk 3 rfl (λ_ hq=>cB (v:= .int .i64 _) rfl cK (At.cell (hq.at a) rfl)) hS<|Tf 4 rfl rfl G9 hS<|Tk 5 rfl (λ_ hq=>cB (v:= .int .i64 _) rfl cK (At.cell (hq.at a) rfl)) hS<|Ti 6 rfl rfl hS<|Ti 7 rfl rfl hS<|Ti 8 rfl rfl hS<|Ty 9 rfl rfl hS<|Td<|Zt<|Fj (v:= .int .i64 _) rfl (v1:= .int .i64 _) rfl (v2:= .int .i64 _) rfl (v3:= .bool true) rfl ⟨hB,?_⟩
 rw[ht,hn]
theorem kD (N ba bm bz R:Nat) (ns:List Nd) (id:Int) (w:World) (hz:At w bz #[.pointer (some ⟨ba,0,none⟩)] 282) (hD:fC 222 228 N ba bm R w ns) (hid:id≤9223372036854775807):
    Fn Tryz.prog 273 #[.pointer (some ⟨bz,0,none⟩), .int .i64 id] w λv w'=>v= .int .i64 (ur ns id):=by
 refine cH (n:=28) Tryz.func273 rfl rfl rfl λhB=> ?_
 refine Zr<|ZZ rfl<|Zq<|Zr<|Zi rfl<|Zv (dW rfl rfl)<|ZX rfl (λa=> ?_) λa=> ?_
 refine Zs<|Zs<|Zb rfl<|ct<|cF rfl<|Zr<|ZZ rfl<|Zt<|cV (v:= .int .i64 24) rfl ⟨hB,?_⟩
 exact Xy (.inl a)
 refine Zi rfl<|Zv (dW rfl rfl)<|Zb rfl<|ct<|ZQ rfl (λb=> ?_) λb=> ?_
 refine Zr<|ZZ rfl<|Zt<|cV (v:= .int .i64 24) rfl ⟨hB,?_⟩
 exact Xy (.inr b)
 refine cu<|Zq<|Zr<|Zp rfl<|Zc rfl<|Zf rfl sW<|ZL (.pointer (some ⟨ba,0,none⟩)) rfl yt (On hB hz) rfl<|Zi rfl<|ZC I7 (lR _ _ _ _ _ _ _ (fC.below hB hD) m5) rfl λf g d e=> ?_
 replace hB:=Ze hB d
 obtain rfl:=e
 refine Zw (.tuple #[.int .i64 _, .int .i64 _, .int .i64 _, .bool _]) rfl<|Zv (Ea rfl)<|Zv (En rfl)<|Zv (FA rfl)<|Zv (EO rfl)<|Zi rfl<|Zi rfl<|Zi rfl<|Zb rfl<|ct<|Zr<|Zb rfl<|ct<|ZQ rfl (λc=> ?_) λc=> ?_
 refine Zr<|Zi rfl<|ZZ rfl<|Zt<|cV (v:= .int .i64 _) rfl ⟨hB,?_⟩
 exact Y6 c
 refine cu<|Zr<|ZZ rfl<|Zt<|cV (v:= .int .i64 _) rfl ⟨hB,?_⟩
 exact Y1 a b c
theorem tD (N ba bm bz R:Nat) (ns:List Nd) (xi:Value) (li:List Int) (w:World) (hz:At w bz #[.pointer (some ⟨ba,0,none⟩)] 282) (hD:fC 222 228 N ba bm R w ns) (hli:dh dJ 1 w xi li) (hlb:li.length≤1000) (hmx:∀x,x∈li→x≤9223372036854775807):
    Fn Tryz.prog 271 #[.pointer (some ⟨bz,0,none⟩),xi] w λv w'=>v= .bool (li.all (oL ns)):=by
 refine cH (n:=20) Tryz.func271 rfl rfl rfl λhB=> ?_
 refine Zr<|Zb rfl<|ct<|Zq<|Zr<|Zp rfl<|Zv (qJ rfl rfl Tryz.underlying238)<|ct<|dA rfl<|cu<|Zq<|Zr<|Zw xi rfl ?_
 refine Zv (cT (v:=xi) rfl (Below.slT hB hli) cM)<|ZZ rfl<|cx ?_
 refine cS (σ:=(Nat)) [4,4,6,6,11,19] (λk=>[(11, .int .i64 (k:Int))]) (λk W=>(Below w.heap.size w W)∧(k≤li.length)∧(∀q,q<k→oL ns (li.getD q 0)=true)∧(True)) (λk=>li.length-k) (0) ⟨rfl,trivial⟩ ⟨hB,(my _),ef,trivial⟩ ?_
 rintro k f g ⟨hB,hk,hq,_⟩ h b
 refine Zr<|Zv (dk rfl rfl)<|ct<|Zq<|ZQ rfl (λc=> ?_) λc=> ?_
 refine cu<|Zq<|cx<|Zr<|Zv (df (v:=xi) rfl (Below.slT hB hli) rfl cM Om Om)<|Zv (cB (v:= .int .i64 _) rfl cK (dh.cell (Below.slT hB hli) dI 0 Om Om 0 rfl))<|ZZ rfl ?_
 have hmk:=hmx (li.getD k 0) (dy (by omega))
 refine Zr<|Zp rfl<|Zi rfl<|ZC Cz (kD _ _ _ _ _ _ _ _ (On hB hz) (fC.below hB hD) m5) rfl λi j d e=> ?_
 replace hB:=Ze hB d
 obtain rfl:=e
 refine Zv (dk rfl rfl)<|ct<|ZQ rfl (λa=> ?_) λa=> ?_
 refine Zr<|Zb rfl<|ct<|Zt<|cV (v:= .bool false) rfl ⟨hB,?_⟩
 exact RT (k:=k) Om a
 refine cu<|ZT rfl rfl rfl ?_
 exact b _ _ (k+1) Za ⟨rfl,trivial⟩ ⟨hB,Om,(dG hq (VY a)),trivial⟩ Zo
 refine cR<|Zr<|Zb rfl<|ct<|Zt<|cV (v:= .bool true) rfl ⟨hB,?_⟩
 exact RX (k:=k) Om hq
theorem oF (N ba bm bz R:Nat) (ns:List Nd) (l lo hi:Nat) (w:World) (hN0:N≤w.heap.size) (hz:At w bz #[.pointer (some ⟨ba,0,none⟩)] 282) (hD:fC 222 228 N ba bm R w ns) (hlo:lo<ns.length+2) (hhi:hi<ns.length+2) (l1:l<dQ ns lo) (l2:l<dQ ns hi) (h24:l<24):
    mS Tryz.prog 275 #[.pointer (some ⟨bz,0,none⟩), .int .i64 (l:Int), .int .i64 (lo:Int), .int .i64 (hi:Int)] w λv w'=>PO 222 228 N ba bm R w ns (min hi 1) (l) (up l (M ns lo) (M ns hi)) v w':=by
 refine d5 (n:=23) (N:=N) Tryz.func275 rfl rfl rfl λhB=> ?_
 have hX:Dx 228 N [ba,bm] w w:=Dx.refl
 refine Zr<|Zi rfl<|ZZ rfl<|Zq<|Zr<|Zi rfl<|Zv (dW rfl rfl)<|ct<|ZQ rfl (λa=> ?_) λa=> ?_
 refine Zr<|Zi rfl<|Zi rfl<|ZZ rfl<|Zt<|dL (v:= .int .i64 _) rfl (v1:= .int .i64 0) rfl ?_
 exact⟨ns,lo,0,rfl,hX,hD,jY.same hlo (Nat.le_of_lt l1) (KS a)⟩
 refine cu<|Zr<|Zp rfl<|Zc rfl<|Zf rfl sW<|ZL (.pointer (some ⟨ba,0,none⟩)) rfl yt hz rfl<|Zi rfl<|Zi rfl<|Zi rfl<|ZH SO (qr N ba bm R ns l lo hi _ hN0 hD hlo hhi Om l1 l2 h24) rfl λf g b=> ?_
 obtain⟨h,i,j,rfl,c,d,e⟩:=b
 replace hX:=Dx.trans hX (c)
 replace hD:=d
 refine Zv (c7 rfl)<|Zv (da rfl)<|Zi rfl<|ZZ rfl<|Zt<|dL (v:= .int .i64 _) rfl (v1:= .int .i64 _) rfl ?_
 exact⟨_,_,_,rfl,hX,hD,e.weak (show 1≤min hi 1 by omega) (λ_=>Iff.rfl)⟩
theorem m0 (N ba bm bz R:Nat) (ns:List Nd) (f l:Nat) (w:World) (hz:At w bz #[.pointer (some ⟨ba,0,none⟩)] 282) (hD:fC 222 228 N ba bm R w ns) (hf:f<ns.length+2):
    Fn Tryz.prog 274 #[.pointer (some ⟨bz,0,none⟩), .int .i64 (f:Int), .int .i64 (l:Int)] w λv w'=>v= .tuple #[.int .i64 ((dH ns f l:Nat):Int), .int .i64 ((dY ns f l:Nat):Int)]:=by
 refine cH (n:=32) Tryz.func274 rfl rfl rfl λhB=> ?_
 have hroom:=hD.room
 have htop:=hD.top
 refine Zr<|Zi rfl<|ZZ rfl<|Zq<|Zr<|Zp rfl<|Zc rfl<|Zf rfl sW<|ZL (.pointer (some ⟨ba,0,none⟩)) rfl yt (On hB hz) rfl<|Zi rfl<|ZC I7 (lR _ _ _ _ _ _ _ (fC.below hB hD) (by omega)) rfl λe W7 c d=> ?_
 replace hB:=Ze hB c
 obtain rfl:=d
 refine Zw (.tuple #[.int .i64 _, .int .i64 _, .int .i64 _, .bool _]) rfl<|Zv (Ea rfl)<|Zv (En rfl)<|Zv (FA rfl)<|Zv (EO rfl)<|Zi rfl<|Zi rfl<|Zi rfl<|Zb rfl<|ct<|Zr<|Zb rfl<|ZX rfl (λa=> ?_) λa=> ?_
 refine Zi rfl<|Zi rfl<|Zv (dW rfl rfl)<|Zb rfl<|ct<|ZQ rfl (λb=> ?_) λb=> ?_
 refine Zr<|Zi rfl<|Zi rfl<|Zi rfl<|ZZ rfl<|Zt<|dL (v:= .int .i64 _) rfl (v1:= .int .i64 _) rfl ⟨hB,?_⟩
 exact Y5 a b
 refine cu<|Zr<|Zi rfl<|Zi rfl<|ZZ rfl<|Zt<|dL (v:= .int .i64 _) rfl (v1:= .int .i64 0) rfl ⟨hB,?_⟩
 exact Xn hf (λh=>b h.2)
 refine Zs<|Zs<|Zs<|Zb rfl<|ct<|dA rfl<|cu<|Zr<|Zi rfl<|Zi rfl<|ZZ rfl<|Zt ?_
 refine dL (v:= .int .i64 _) rfl (v1:= .int .i64 0) rfl ⟨hB,?_⟩
 exact Xn hf (λh=>by rw[a]at h;cases h.1)
end
end Go.Proofs.YtedeonkjellcpaaGreatDoor
