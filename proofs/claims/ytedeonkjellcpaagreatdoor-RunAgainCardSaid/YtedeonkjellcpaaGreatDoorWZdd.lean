/- The walks of the search's small helps. The walk of one covering, greedily. The walk of the search. The walks of arenas and diagrams: nodes, levels, halves. -/
import Derived.Test.YtedeonkjellcpaaGreatDoorWReduce3
namespace Go.Proofs.YtedeonkjellcpaaGreatDoor
set_option linter.unusedVariables false
set_option linter.unusedSimpArgs false
section
open Go Go.RowKit
theorem rc:m3 Tryz.prog 296=some (3,3):=by kernel_rfl
theorem oE (n:Int) (rv:Value) (vs:List Value) (L:ML) (w:World) (hrv:cH encV 1 35 w 0 rv vs) (hLO:LO 3 0 w vs L) (hLb:L.length≤1000000):
    Fn Tryz.prog 189 #[.agg #[.int .i64 n,rv]] w λv w'=>v= .bool (jG L L.length):=by
 refine cM (n:=16) Tryz.func189 rfl rfl rfl λhB=> ?_
 have hll:=hLO.ll
 have hvl:=hll.len
 refine Zr<|Zy (dw (c:= #[_,_]) rfl rfl λd W3 i e a=> ?_)
 replace hB:=Ze hB e
 refine Zb rfl<|ct<|Zq<|Zr<|Zf rfl dS<|ZL rv rfl eI a rfl<|Zv (de (v:=rv) rfl ((Below.ow hB hrv)).sl dF)<|ZZ rfl<|cy ?_
 refine cY (σ:=(Nat)) [2,2,4,4,8,15] (λk=>[(8, .int .i64 (k:Int))]) (λk W=>(Below w.heap.size w W)∧(At W d _ 203)∧(k≤L.length)∧(∀q,q<k→¬((L.getD q []).length:Int)=0)∧(True)) (λk=>L.length-k) (0) ⟨rfl,trivial⟩ ⟨hB,a,(my _),eT,trivial⟩ ?_
 rintro k j l ⟨hB,a,hk,hq,_⟩ m f
 refine Zr<|Zv (dq rfl rfl)<|ct<|Zq<|ZQ rfl (λg=> ?_) λg=> ?_
 refine cx<|Zq<|cy<|Zr<|Zv (dm (v:=rv) rfl ((Below.ow hB hrv)).sl rfl dF Om Om)<|Zv (cD (v:=(vs.getD k undef)) rfl fp (dp.cell ((Below.ow hB hrv)).sl fX undef Om Om 0 rfl)) ?_
 have h:dp dT 1 w ((vs.getD k undef)) (L.getD k []):=hll.get k (by omega)
 refine Zw (vs.getD k undef) rfl<|ct<|Zr<|Zw (vs.getD k undef) rfl<|Zv (de (v:=(vs.getD k undef)) rfl (Below.slT hB h) cV)<|Zv (dJ rfl rfl)<|ct<|ZQ rfl (λb=> ?_) λb=> ?_
 refine Zr<|Zb rfl<|ct<|Zt<|df (v:= .bool false) rfl ⟨hB,?_⟩
 exact ZF (k:=k) (by omega) b
 refine cx<|ZT rfl rfl rfl ?_
 exact f _ _ (k+1) Za ⟨rfl,trivial⟩ ⟨hB,a,Om,(d6 hq b),trivial⟩ Zo
 refine cT<|Zr<|Zb rfl<|ct<|Zt<|df (v:= .bool true) rfl ⟨hB,?_⟩
 exact Zj (by omega) hq
theorem zB (n:Int) (rv:Value) (vs:List Value) (L:ML) (w:World) (hrv:cH encV 1 35 w 0 rv vs) (hLO:LO 3 0 w vs L) (hr:dQ n L=true) (hLb:L.length≤1000000):
    Fn Tryz.prog 190 #[.agg #[.int .i64 n,rv]] w λv w'=>v= .int .i64 (Gn L L.length:Int):=by
 refine cM (n:=42) Tryz.func190 rfl rfl rfl λhB=> ?_
 have hll:=hLO.ll
 have hvl:=hll.len
 refine Zr<|Zy (dw (c:= #[_,_]) rfl rfl λg W3 B o b=> ?_)
 replace hB:=Ze hB o
 refine ZZ rfl<|Fy<|Zr<|Zy (g7 (enc:=eM) (encV:=Value.bool) λd W8 p r h=> ?_)
 have s:=ZO p hB
 obtain⟨hB,b⟩:=r.k2 hB b
 replace h:dy eM Value.bool _ _ (fz []):=h
 refine Zw (.map (some d)) rfl<|ct<|Zr<|ZZ rfl<|Zq<|Ec<|Zq<|Zr<|Zf rfl dS<|ZL rv rfl eI b rfl<|Zv (de (v:=rv) rfl ((Below.ow hB hrv)).sl dF)<|Zi rfl ?_
 refine ct<|cy ?_
 refine cY (σ:=(Nat)) [4,4,6,6,8,8,10,10,15,40] (λi=>[(15, .int .i64 (i:Int)),(4, .int .i64 (Gn L i:Int))]) (λi W=>(Below w.heap.size w W)∧(At W g _ 203)∧(dy eM Value.bool W d (fz (AE L i)))∧(i≤L.length)∧(True)) (λi=>L.length-i) (0) ⟨rfl,rfl,trivial⟩ ⟨hB,b,h,(my _),trivial⟩ ?_
 rintro i C D ⟨hB,b,hmu,hi,_⟩ E l
 refine Zr<|Zv (dq rfl rfl)<|ct<|Zq<|ZQ rfl (λt=> ?_) λt=> ?_
 refine cx<|Zq<|cy<|Zr<|Zv (dm (v:=rv) rfl ((Below.ow hB hrv)).sl rfl dF Om Om)<|Zv (cD (v:=(vs.getD i undef)) rfl fp (dp.cell ((Below.ow hB hrv)).sl fX undef Om Om 0 rfl)) ?_
 have e:dp dT 1 w ((vs.getD i undef)) (L.getD i []):=hll.get i (by omega)
 refine Zw (vs.getD i undef) rfl<|ct<|Zq<|Zr<|Zw (vs.getD i undef) rfl<|Zv (de (v:=(vs.getD i undef)) rfl (Below.slT hB e) cV)<|ZZ rfl<|cy ?_
 refine cY (σ:=(Nat)) [8,8,21,28] (λj=>[(21, .int .i64 (j:Int))]) (λj W=>(Below w.heap.size w W)∧(At W g _ 203)∧(dy eM Value.bool W d _)∧(j≤(L.getD i []).length)∧(∀q,q<j→(iH (fz (AE L i)) ((L.getD i []).getD q 0)).getD false=false)∧(True)) (λj=>(L.getD i []).length-j) (0) ⟨rfl,trivial⟩ ⟨hB,b,hmu,(my _),eT,trivial⟩ ?_
 rintro j F G ⟨hB,b,hmu,hj,hq,_⟩ H u
 have hri:=fL hr i
 have hbl:=GY L i
 refine Zr<|Zv (dq rfl rfl)<|ct<|Zq<|ZQ rfl (λx=> ?_) λx=> ?_
 refine cx<|Zq<|cy<|Zr<|Zv (dm (v:=(vs.getD i undef)) rfl (Below.slT hB e) rfl cV Om Om)<|Zv (cD (v:= .int .i64 _) rfl cR (dp.cell (Below.slT hB e) ez 0 Om Om 0 rfl))<|ZZ rfl<|Zr<|Zw (.map (some d)) rfl<|Zi rfl<|Zv (fR (enc:=eM) (encV:=Value.bool) (v0:=false) (k:=((L.getD i []).getD j 0)) rfl rfl mP g6 (λa=>⟨a,rfl⟩) fU rz rfl hmu)<|ct ?_
 refine ZQ rfl (λf=> ?_) λf=> ?_
 refine cT ?_
 skip
 refine ZT rfl rfl rfl ?_
 exact l _ _ (i+1) Za ⟨rfl,YH (TW Om f),trivial⟩ ⟨hB,b,(by (rw[Yr (TW Om f)];exact hmu)),Om,trivial⟩ Zo
 refine cx<|ZT rfl rfl rfl ?_
 exact u _ _ (j+1) Za ⟨rfl,trivial⟩ ⟨hB,b,hmu,Om,(d6 hq f),trivial⟩ Zo
 refine cT ?_
 have hno:=UZ (by omega) hq
 refine Zr<|Zi rfl<|Zv (eB rfl rfl Om Om)<|ZZ rfl<|Zr<|Zw (vs.getD i undef) rfl<|Zv (de (v:=(vs.getD i undef)) rfl (Below.slT hB e) cV)<|ZZ rfl<|cy ?_
 refine cY (σ:=(Nat)) [10,10,33,39] (λj=>[(33, .int .i64 (j:Int))]) (λj W=>(Below w.heap.size w W)∧(At W g _ 203)∧(dy eM Value.bool W d (fz (qS (AE L i) (L.getD i []) j)))∧(j≤(L.getD i []).length)∧(True)) (λj=>(L.getD i []).length-j) (0) ⟨rfl,trivial⟩ ⟨hB,b,hmu,(my _),trivial⟩ ?_
 rintro j I J ⟨hB,b,hmu2,hj,_⟩ K y
 refine Zr<|Zv (dq rfl rfl)<|ct<|Zq<|ZQ rfl (λz=> ?_) λz=> ?_
 refine cx<|Zq<|cy<|Zr<|Zv (dm (v:=(vs.getD i undef)) rfl (Below.slT hB e) rfl cV Om Om)<|Zv (cD (v:= .int .i64 _) rfl cR (dp.cell (Below.slT hB e) ez 0 Om Om 0 rfl))<|ZZ rfl<|cI<|Zw (.map (some d)) rfl<|Zi rfl ?_
 refine gM (dd:=none) rfl rfl rfl (fK (enc:=eM) (encV:=Value.bool) (k:=((L.getD i []).getD j 0)) (v:=true) rfl rfl rfl mP g6 (λa=>⟨a,rfl⟩) fU hmu2 (λM m A=> ?_))
 replace hB:=Zg hB m s
 replace b:=At.grownMap b hmu2 m
 replace hmu2:=A
 rw[jX]at hmu2
 refine ct<|ZT rfl rfl rfl ?_
 exact y _ _ (j+1) Za ⟨rfl,trivial⟩ ⟨hB,b,(by exact hmu2),Om,trivial⟩ Zo
 refine cT ?_
 obtain rfl:j=(L.getD i []).length:=by omega
 refine ZT rfl rfl rfl ?_
 exact l _ _ (i+1) Za ⟨rfl,X8 hno,trivial⟩ ⟨hB,b,(by (rw[Zk hno];exact hmu2)),Om,trivial⟩ Zo
 refine cT<|Zr<|Zi rfl<|ZZ rfl<|Zt<|df (v:= .int .i64 _) rfl ⟨hB,?_⟩
 obtain rfl:i=L.length:=by omega
 rfl
theorem pk (n:Int) (rv:Value) (vs:List Value) (L:ML) (c:Int) (w:World) (hrv:cH encV 1 35 w 0 rv vs) (hLO:LO 3 0 w vs L) (hr:dQ n L=true) (hLb:L.length≤1000000):
    Fn Tryz.prog 193 #[.agg #[.int .i64 n,rv], .int .i64 c] w λv w'=>∃rv',v= .agg #[.int .i64 n,rv']∧cH encV 1 35 w' 0 rv' (tS undef (λk=> !decide (c∈L.getD k [])) vs L.length):=by
 refine cM (n:=44) Tryz.func193 rfl rfl rfl λhB=> ?_
 have hll:=hLO.ll
 have hvl:=hll.len
 refine Zr<|Zy (dw (c:= #[_,_]) rfl rfl λs W3 T H a=> ?_)
 replace hB:=Ze hB H
 refine Zy (cK gq rfl λt W6 I J d=> ?_)
 have K:=ZO I hB
 obtain⟨hB,a⟩:=J.k2 hB a
 refine ct<|Zr<|Zf rfl iv<|Zl rfl cR a rfl<|Zv (ko (h0:=rfl) (k0:=rfl) (c0_0:= .int .i64 _))<|Zy (cK gq rfl λy U m M e=> ?_)
 have z:=ZO m hB
 have A:=Zn m a.lt
 have B:=Zn m d.lt
 obtain⟨hB,a,d⟩:=M.k3 hB a d
 refine Zy (cA rfl rfl da rfl e rfl rfl λV o N=> ?_)
 replace hB:=Zg hB o z
 replace a:=At.grownNe a A o
 replace d:=At.grownNe d B o
 replace e:=N
 refine ct<|Zq<|Zr<|Zf rfl dS<|ZL rv rfl eI a rfl<|Zv (de (v:=rv) rfl ((Below.ow hB hrv)).sl dF)<|ZZ rfl<|cy ?_
 refine cY (σ:=(Nat)×(Value)) [7,8,10,10,17,42] (λ(k,v0)=>[(17, .int .i64 (k:Int))]) (λsg W=>match sg with|(k,v0)=>(Below w.heap.size w W)∧(At W s _ 203)∧(At W t _ 203)∧(At W y #[.int .i64 n,v0] 203)∧(cH encV 1 35 W w.heap.size v0 (tS undef (λk=> !decide (c∈L.getD k [])) vs k))∧(k≤L.length)∧(True)) (λ(k,v0)=>L.length-k) ((0, .slice none 0 0)) ⟨rfl,trivial⟩ ⟨hB,a,d,e,cH.nil,(my _),trivial⟩ ?_
 rintro⟨k,v0⟩ X Y ⟨hB,a,d,e,ho,hk,_⟩ Z C
 refine Zr<|Zv (dq rfl rfl)<|ct<|Zq<|ZQ rfl (λO=> ?_) λO=> ?_
 refine cx<|Zq<|cy<|Zr<|Zv (dm (v:=rv) rfl ((Below.ow hB hrv)).sl rfl dF Om Om)<|Zv (cD (v:=(vs.getD k undef)) rfl fp (dp.cell ((Below.ow hB hrv)).sl fX undef Om Om 0 rfl)) ?_
 have f:dp dT 1 w ((vs.getD k undef)) (L.getD k []):=hll.get k (by omega)
 refine Zw (vs.getD k undef) rfl<|ct<|Zr<|Zb rfl<|ct<|Zq<|Zr<|Zw (vs.getD k undef) rfl<|Zv (de (v:=(vs.getD k undef)) rfl (Below.slT hB f) cV)<|ZZ rfl<|cy ?_
 refine cY (σ:=(Nat)) [8,8,10,10,23,33] (λj=>[(23, .int .i64 (j:Int)),(8, .bool (decide (c∈(L.getD k []).take j)))]) (λj W=>(Below w.heap.size w W)∧(At W s _ 203)∧(At W t _ 203)∧(At W y _ 203)∧(cH encV 1 35 W w.heap.size v0 _)∧(j≤(L.getD k []).length)∧(True)) (λj=>(L.getD k []).length-j) (0) ⟨rfl,rfl,trivial⟩ ⟨hB,a,d,e,ho,(my _),trivial⟩ ?_
 rintro j aa ab ⟨hB,a,d,e,ho,hj,_⟩ ac D
 have hri:=fL hr k
 refine Zr<|Zv (dq rfl rfl)<|ct<|Zq<|ZQ rfl (λP=> ?_) λP=> ?_
 refine cx<|Zq<|cy<|Zr<|Zv (dm (v:=(vs.getD k undef)) rfl (Below.slT hB f) rfl cV Om Om)<|Zv (cD (v:= .int .i64 _) rfl cR (dp.cell (Below.slT hB f) ez 0 Om Om 0 rfl))<|ZZ rfl<|cI<|Zb rfl<|ZX rfl (λp=> ?_) λp=> ?_
 refine Zs<|Zs<|Zs<|Zb rfl<|Zb rfl<|ct<|ZT rfl rfl rfl ?_
 exact D _ _ (j+1) Za ⟨rfl,aao p,trivial⟩ ⟨hB,a,d,e,ho,Om,trivial⟩ Zo
 refine Zi rfl<|Zi rfl<|Zv (dJ rfl rfl)<|Zb rfl<|Zb rfl<|ct<|ZT rfl rfl rfl ?_
 exact D _ _ (j+1) Za ⟨rfl,aau Om p,trivial⟩ ⟨hB,a,d,e,ho,Om,trivial⟩ Zo
 refine cT ?_
 obtain rfl:j=(L.getD k []).length:=by omega
 refine Zr<|Zb rfl<|Zv (eR rfl)<|ct<|ZQ rfl (λh=> ?_) λh=> ?_
 have hkl:=Du undef (λk=> !decide (c∈L.getD k [])) vs k
 refine cI<|Zf rfl dS<|ZL v0 rfl eI e rfl<|Zw (vs.getD k undef) rfl<|Zy (eC (u:=(vs.getD k undef)) rfl dF jJ (by rw[dp.cells (Below.slT hB f)];rfl) Dd Dd λq ad r Q E=> ?_)
 have ae:=ZO r hB
 have af:=abE (b:=q) (Below.ow hB hrv) (aa1 r.symm)
 have ag:=abE (b:=q) ho (aa1 r.symm)
 obtain⟨hB,a,d,e,ho⟩:=Q.k5 hB a d e ho
 rw[dp.cells (Below.slT hB f)]at E
 refine Zy (dR (v:=v0) (v2:= .slice (some ⟨q,0,none⟩) 1 1) rfl rfl dF jJ Dd ho (eK E rfl) (by simp only[ab1,acD,dp.one (Below.slT hB f),abN]) (mV hB) (by omega) (by omega) λF ah i g=> ?_)
 replace g:=cH.snoc (enc:=encV) (x:=(vs.getD k undef)) rfl rfl rfl rfl g
 replace hB:=ZG hB i ho
 replace a:=At.grownOw a ho i Dd
 replace d:=At.grownOw d ho i Dd
 replace e:=At.grownOw e ho i Dd
 refine Zf rfl dS<|Zy (db (v:=F) rfl rfl eI (dp.one g.sl) e fD λai l R=> ?_)
 replace hB:=Zg hB l z
 replace a:=At.grownNe a A l
 replace d:=At.grownNe d B l
 replace g:=cH.grownAt g e l Dd
 replace e:=R
 replace e:At _ _ #[_,_] _:=e
 refine ct<|ZT rfl rfl rfl ?_
 exact C _ _ ((k+1,F)) Za ⟨rfl,trivial⟩ ⟨hB,a,d,(by exact e),(by (rw[←TJ (by rw[aa7]at h;exact h)];exact g)),Om,trivial⟩ (by show L.length-(k+1)<L.length-k;omega)
 refine cx<|ZT rfl rfl rfl ?_
 exact C _ _ ((k+1,v0)) Za ⟨rfl,trivial⟩ ⟨hB,a,d,(by exact e),(by (rw[←Ul (by rw[aa7]at h;exact h)];exact ho)),Om,trivial⟩ (by show L.length-(k+1)<L.length-k;omega)
 refine cT<|Zr<|Zv (cz rfl da rfl e)<|Zy (cA rfl rfl da rfl d rfl (by exact iI (cH.one ho)) λaj G S=> ?_)
 replace hB:=Zg hB G K
 replace ho:=cH.grownAt ho d G Dd
 replace d:=S
 refine ct<|Zt<|jw rfl da d rfl ⟨hB,?_⟩
 obtain rfl:k=L.length:=by omega
 exact⟨_,rfl,cH.mono ho (my _)⟩
theorem AW (n:Int) (rv:Value) (vs:List Value) (L:ML) (c:Int) (w:World) (hrv:cH encV 1 35 w 0 rv vs) (hLO:LO 3 0 w vs L) (hr:dQ n L=true) (hLb:L.length≤1000000):
    Fn Tryz.prog 192 #[.agg #[.int .i64 n,rv], .int .i64 c] w λv w'=>∃rv' vs',v= .agg #[.int .i64 n,rv']∧cH encV 1 35 w' 0 rv' vs'∧LO 3 w.heap.size w' vs' (qD L c):=by
 refine cM (n:=43) Tryz.func192 rfl rfl rfl λhB=> ?_
 have hll:=hLO.ll
 have hvl:=hll.len
 refine Zr<|Zy (dw (c:= #[_,_]) rfl rfl λG W3 ac H d=> ?_)
 replace hB:=Ze hB H
 refine Zy (cK gq rfl λI W6 J K a=> ?_)
 have M:=ZO J hB
 obtain⟨hB,d⟩:=K.k2 hB d
 refine ct<|Zr<|Zf rfl iv<|Zl rfl cR d rfl<|Zv (ko (h0:=rfl) (k0:=rfl) (c0_0:= .int .i64 _))<|Zy (cK gq rfl λN ad l O e=> ?_)
 have y:=ZO l hB
 have z:=Zn l d.lt
 have A:=Zn l a.lt
 obtain⟨hB,d,a⟩:=O.k3 hB d a
 refine Zy (cA rfl rfl da rfl e rfl rfl λae m P=> ?_)
 replace hB:=Zg hB m y
 replace d:=At.grownNe d z m
 replace a:=At.grownNe a A m
 replace e:=P
 refine ct<|Zq<|Zr<|Zf rfl dS<|ZL rv rfl eI d rfl<|Zv (de (v:=rv) rfl ((Below.ow hB hrv)).sl dF)<|ZZ rfl<|cy ?_
 refine cY (σ:=(Nat)×(Value)×(List Value)) [7,8,10,10,17,41] (λ(k,v0,vn)=>[(17, .int .i64 (k:Int))]) (λsg W=>match sg with|(k,v0,vn)=>(Below w.heap.size w W)∧(At W G _ 203)∧(At W I _ 203)∧(At W N #[.int .i64 n,v0] 203)∧(cH encV 1 35 W w.heap.size v0 (vn))∧(LO 3 w.heap.size W vn (qD (L.take k) c))∧(k≤L.length)∧(True)) (λ(k,v0,vn)=>L.length-k) ((0, .slice none 0 0,[])) ⟨rfl,trivial⟩ ⟨hB,d,a,e,cH.nil,LO.nil,(my _),trivial⟩ ?_
 rintro⟨k,v0,vn⟩ af i ⟨hB,d,a,e,ho,hlo,hk,_⟩ ag Q
 refine Zr<|Zv (dq rfl rfl)<|ct<|Zq<|ZQ rfl (λR=> ?_) λR=> ?_
 refine cx<|Zq<|cy<|Zr<|Zv (dm (v:=rv) rfl ((Below.ow hB hrv)).sl rfl dF Om Om)<|Zv (cD (v:=(vs.getD k undef)) rfl fp (dp.cell ((Below.ow hB hrv)).sl fX undef Om Om 0 rfl)) ?_
 have S:dp dT 1 w ((vs.getD k undef)) (L.getD k []):=hll.get k (by omega)
 refine Zw (vs.getD k undef) rfl<|ct ?_
 have ah:=Below.ow hB hrv
 have ai:=LO.below hB hLO
 have o:=Below.slT hB S
 have B:=hB
 replace hB:=Below.refl i.heap.size i
 refine Zr<|Zw (.slice none 0 0) rfl<|ct<|Zq<|Zr<|Zw (vs.getD k undef) rfl<|Zv (de (v:=(vs.getD k undef)) rfl (Below.slT hB o) cV)<|ZZ rfl<|cy ?_
 refine cY (σ:=(Nat)×(Value)) [8,8,10,10,23,34] (λ(j,v1)=>[(23, .int .i64 (j:Int)),(8,v1)]) (λsg W=>match sg with|(j,v1)=>(Below i.heap.size i W)∧(cH dT 1 3 W i.heap.size v1 (Br ((L.getD k []).take j) c))∧(j≤(L.getD k []).length)∧(True)) (λ(j,v1)=>(L.getD k []).length-j) ((0, .slice none 0 0)) ⟨rfl,rfl,trivial⟩ ⟨hB,cH.nil,(my _),trivial⟩ ?_
 rintro⟨j,v1⟩ aj ak ⟨hB,hrst,hj,_⟩ al C
 refine Zr<|Zv (dq rfl rfl)<|ct<|Zq<|ZQ rfl (λT=> ?_) λT=> ?_
 refine cx<|Zq<|cy ?_
 have hrl:=IR (L.getD k []) c j
 have hr4:=fL hr k
 refine Zr<|Zv (dm (v:=(vs.getD k undef)) rfl (Below.slT hB o) rfl cV Om Om)<|Zv (cD (v:= .int .i64 _) rfl cR (dp.cell (Below.slT hB o) ez 0 Om Om 0 rfl))<|ZZ rfl<|Zr<|Zi rfl<|Zi rfl<|Zv (e7 rfl rfl)<|ct<|ZQ rfl (λp=> ?_) λp=> ?_
 refine cI<|Zw v1 rfl<|Zi rfl<|Zy (eC (u:= .int .i64 _) rfl cV eL rfl Dd Dd λU ao ap V X=> ?_)
 obtain⟨hB,hrst⟩:=V.k2 hB hrst
 refine Zy (dR (v:=v1) (v2:= .slice (some ⟨U,0,none⟩) 1 1) rfl rfl cV eL Dd hrst (eK X rfl) rfl (mV hB) (by omega) (by omega) λD aq Y q=> ?_)
 replace q:=cH.snoc (enc:=dT) (x:=_) rfl rfl rfl rfl q
 replace hB:=ZG hB Y hrst
 refine Zw D rfl<|ct<|ZT rfl rfl rfl ?_
 exact C _ _ ((j+1,D)) Za ⟨rfl,rfl,trivial⟩ ⟨hB,(by (rw[←TR (k:=j) Om p];exact q)),Om,trivial⟩ (by show (L.getD k []).length-(j+1)<(L.getD k []).length-j;omega)
 refine cx<|ZT rfl rfl rfl ?_
 exact C _ _ ((j+1,v1)) Za ⟨rfl,rfl,trivial⟩ ⟨hB,(by (rw[←Ui (k:=j) Om (aaN p)];exact hrst)),Om,trivial⟩ (by show (L.getD k []).length-(j+1)<(L.getD k []).length-j;omega)
 refine cT ?_
 replace d:=On hB d
 replace a:=On hB a
 replace e:=On hB e
 replace ho:=Below.ow hB ho
 replace hlo:=LO.below hB hlo
 have hzs:=go (am _) (Below.size B)
 replace hrst:=cH.mono hrst hzs
 replace hB:=Below.trans B (Below.mono hB hzs)
 obtain rfl:j=(L.getD k []).length:=by omega
 rw[aa7]at hrst
 have hcl:=IE L c k
 have hvn:=hlo.len
 refine cI<|Zf rfl dS<|ZL v0 rfl eI e rfl<|Zw v1 rfl<|Zy (eC (u:=v1) rfl dF jJ (by rw[dp.cells hrst.sl];rfl) Dd Dd λr ar s Z E=> ?_)
 have au:=ZO s hB
 have av:=abE (b:=r) (Below.ow hB hrv) (aa1 s.symm)
 have aw:=abE (b:=r) ho (aa1 s.symm)
 obtain⟨d,a,e,ho,hlo,hB,hrst⟩:=Z.k7 d a e ho hlo hB hrst
 rw[dp.cells hrst.sl]at E
 refine Zy (dR (v:=v0) (v2:= .slice (some ⟨r,0,none⟩) 1 1) rfl rfl dF jJ Dd ho (eK E rfl) (by exact TM (cH.one hrst)) (mV hB) (by omega) (by omega) λF ax f g=> ?_)
 replace g:=cH.snoc (enc:=encV) (x:=v1) rfl rfl rfl rfl g
 replace d:=At.grownOw d ho f Dd
 replace a:=At.grownOw a ho f Dd
 replace e:=At.grownOw e ho f Dd
 replace hlo:=LO.grownOw hlo ho f Dd
 replace hB:=ZG hB f ho
 replace hrst:=cH.grownOw hrst ho f Dd
 refine Zf rfl dS<|Zy (db (v:=F) rfl rfl eI (dp.one g.sl) e fD λay h aa=> ?_)
 replace d:=At.grownNe d z h
 replace a:=At.grownNe a A h
 replace hlo:=LO.grownAt hlo e h Dd
 replace hB:=Zg hB h y
 replace hrst:=cH.grownAt hrst e h Dd
 replace g:=cH.grownAt g e h Dd
 replace e:=aa
 replace e:At _ _ #[_,_] _:=e
 refine ct<|ZT rfl rfl rfl ?_
 exact Q _ _ ((k+1,F,vn++[v1])) Za ⟨rfl,trivial⟩ ⟨hB,d,a,(by exact e),(by exact g),(by rw[←F9 Om];exact LO.snoc hlo hrst),Om,trivial⟩ (by show L.length-(k+1)<L.length-k;omega)
 refine cT<|Zr<|Zv (cz rfl da rfl e)<|Zy (cA rfl rfl da rfl a rfl (by exact iI (cH.one ho)) λaz t ab=> ?_)
 replace hB:=Zg hB t M
 replace ho:=cH.grownAt ho a t Dd
 replace hlo:=LO.grownAt hlo a t Dd
 replace a:=ab
 refine ct<|Zt<|jw rfl da a rfl ⟨hB,?_⟩
 exact⟨_,_,rfl,cH.mono ho (my _),by rw[←IB (k:=k) Om];exact hlo⟩
theorem pi (n:Int) (rv:Value) (vs:List Value) (L:ML) (w:World) (hrv:cH encV 1 35 w 0 rv vs) (hLO:LO 3 0 w vs L) (hr:dQ n L=true) (hLb:L.length≤1000000):
    Fn Tryz.prog 191 #[.agg #[.int .i64 n,rv]] w λv w'=>∃c,v= .int .i64 c∧((∃k,k<L.length∧0<(L.getD k []).length)→sM L c):=by
 refine cM (n:=61) Tryz.func191 rfl rfl rfl λhB=> ?_
 have hll:=hLO.ll
 have hvl:=hll.len
 refine Zr<|Zy (dw (c:= #[_,_]) rfl rfl λp W3 Q x b=> ?_)
 replace hB:=Ze hB x
 refine ZZ rfl<|Zr<|Zy (g7 (enc:=eM) (encV:=eM) λf W8 y z q=> ?_)
 have A:=ZO y hB
 obtain⟨hB,b⟩:=z.k2 hB b
 replace q:dy eM eM _ _ []:=q
 refine Zw (.map (some f)) rfl<|ct<|Zr<|ZZ rfl<|Zq<|Zr<|Zf rfl dS<|ZL rv rfl eI b rfl<|Zv (de (v:=rv) rfl ((Below.ow hB hrv)).sl dF)<|ZZ rfl<|cy ?_
 refine cY (σ:=(Nat)×(List (Int×Int))) [6,6,8,8,15,30] (λ(i,l)=>[(15, .int .i64 (i:Int))]) (λsg W=>match sg with|(i,l)=>(Below w.heap.size w W)∧(At W p _ 203)∧(dy eM eM W f l)∧(i≤L.length)∧(AB L i (i*4001) l)∧(True)) (λ(i,l)=>L.length-i) ((0,[])) ⟨rfl,trivial⟩ ⟨hB,b,q,(my _),(AB.mono AB.nil Om),trivial⟩ ?_
 rintro⟨i,l⟩ R S ⟨hB,b,hmc,hi,g,_⟩ T B
 refine Zr<|Zv (dq rfl rfl)<|ct<|Zq<|ZQ rfl (λC=> ?_) λC=> ?_
 refine cx<|Zq<|cy<|Zr<|Zv (dm (v:=rv) rfl ((Below.ow hB hrv)).sl rfl dF Om Om)<|Zv (cD (v:=(vs.getD i undef)) rfl fp (dp.cell ((Below.ow hB hrv)).sl fX undef Om Om 0 rfl)) ?_
 have r:dp dT 1 w ((vs.getD i undef)) (L.getD i []):=hll.get i (by omega)
 refine Zw (vs.getD i undef) rfl<|ct<|Zr<|Zw (vs.getD i undef) rfl<|Zv (de (v:=(vs.getD i undef)) rfl (Below.slT hB r) cV)<|ZZ rfl<|cy ?_
 refine cY (σ:=(Nat)×(List (Int×Int))) [8,8,21,29] (λ(j,l2)=>[(21, .int .i64 (j:Int))]) (λsg W=>match sg with|(j,l2)=>(Below w.heap.size w W)∧(At W p _ 203)∧(dy eM eM W f l2)∧(j≤(L.getD i []).length)∧(AB L i (i*4001+j) l2)∧(0<j→l2≠[])∧(True)) (λ(j,l2)=>(L.getD i []).length-j) ((0,l)) ⟨rfl,trivial⟩ ⟨hB,b,hmc,(my _),(AB.mono g Om),(λh=>absurd h (Nat.lt_irrefl _)),trivial⟩ ?_
 rintro⟨j,l2⟩ U V ⟨hB,b,hmc2,hj,hbu,hne,_⟩ X D
 have hri:=fL hr i
 refine Zr<|Zv (dq rfl rfl)<|ct<|Zq<|ZQ rfl (λE=> ?_) λE=> ?_
 refine cx<|Zq<|cy<|Zr<|Zv (dm (v:=(vs.getD i undef)) rfl (Below.slT hB r) rfl cV Om Om)<|Zv (cD (v:= .int .i64 _) rfl cR (dp.cell (Below.slT hB r) ez 0 Om Om 0 rfl))<|ZZ rfl ?_
 have hgl:=hbu.get ((L.getD i []).getD j 0)
 refine cI<|Zw (.map (some f)) rfl<|Zi rfl<|Zv (fR (enc:=eM) (encV:=eM) (v0:=0) (k:=((L.getD i []).getD j 0)) rfl rfl rc g6 (λa=>⟨a,rfl⟩) fU wL rfl hmc2)<|Zv (eB rfl rfl Om Om) ?_
 refine gM (dd:=none) rfl rfl rfl (fK (enc:=eM) (encV:=eM) (k:=((L.getD i []).getD j 0)) (v:=_) rfl rfl rfl rc g6 (λa=>⟨a,rfl⟩) fU hmc2 (λY u F=> ?_))
 replace hB:=Zg hB u A
 replace b:=At.grownMap b hmc2 u
 replace hmc2:=F
 refine ct<|ZT rfl rfl rfl ?_
 exact D _ _ ((j+1,iJ l2 ((L.getD i []).getD j 0) ((iH l2 ((L.getD i []).getD j 0)).getD 0+1))) Za ⟨rfl,trivial⟩ ⟨hB,b,(by exact hmc2),Om,(AB.mono (AB.put hbu Om Om) Om),(λ_=>J2),trivial⟩ (by show (L.getD i []).length-(j+1)<(L.getD i []).length-j;omega)
 refine cT<|ZT rfl rfl rfl ?_
 exact B _ _ ((i+1,l2)) Za ⟨rfl,trivial⟩ ⟨hB,b,(by exact hmc2),Om,(hbu.next (λh=>hne Om) Om),trivial⟩ (by show L.length-(i+1)<L.length-i;omega)
 refine cT<|Zq<|Zr<|Zw (.map (some f)) rfl<|Zy (CA rfl rc hmc λG Z H I d=> ?_)
 have J:=ZO H hB
 obtain⟨hB,b,hmc⟩:=I.k3 hB b hmc
 refine ct<|cy ?_
 refine cY (σ:=(List Int)×(Int)) [4,4,9,10,33,59] (λ(seen,bb)=>[(4, .int .i64 bb)]) (λsg W=>match sg with|(seen,bb)=>(Below w.heap.size w W)∧(At W p _ 203)∧(dy eM eM W f _)∧(eO eM eM W G f l seen)∧(Yc L seen bb)∧(True)) (λ(seen,bb)=>l.length-seen.length) (([],-1)) ⟨rfl,trivial⟩ ⟨hB,b,hmc,d,(.inl ⟨rfl,rfl⟩),trivial⟩ ?_
 rintro⟨seen,bb⟩ aa ab ⟨hB,b,hmc,d,hbe,_⟩ ac m
 refine Zr ?_
 refine gM (dd:=some 33) rfl rfl rfl (GZ rfl d (λK=> ?_) (λe ad ae o af s M=> ?_))
 refine Zv (sd rfl)<|ct<|Zq<|dH rfl<|cT ?_
 obtain rfl:i=L.length:=by omega
 refine Zr<|Zi rfl<|ZZ rfl<|Zt<|df (v:= .int .i64 _) rfl ⟨hB,?_⟩
 exact⟨_,rfl,Va hbe g rfl K⟩
 replace hB:=Zg hB s J
 replace b:=acY b d s
 replace hmc:=acT hmc d s
 replace d:=M
 refine Zv (gR rfl)<|ct<|Zq<|cQ rfl<|cx<|cy<|Zr<|Zv (Dr rfl d o)<|Zv (cZ rfl)<|Zv (c7 rfl)<|Zi rfl<|ZZ rfl ?_
 refine Zr<|Zi rfl<|Zv (dq rfl rfl)<|ZX rfl (λt=> ?_) λt=> ?_
 refine Zs<|Zs<|Zs<|Zs<|Zs<|Zb rfl<|Zb rfl<|Zs<|Zs<|Zs<|Zs<|Zs<|Zs<|Zs ?_
 refine Zs<|Zs<|Zs<|Zb rfl<|ct<|cQ rfl<|cI<|Zi rfl<|ZZ rfl ?_
 exact m _ _ ((e::seen,e)) Za ⟨rfl,trivial⟩ ⟨hB,b,hmc,d,(HR hr g o),trivial⟩ (by have hle:=acV d;show l.length-(e::seen).length<l.length-seen.length;simp only[aa5]at hle ⊢;omega)
 refine Zi rfl<|Zw (.map (some f)) rfl<|Zi rfl<|Zv (fR (enc:=eM) (encV:=eM) (v0:=0) (k:=_) rfl rfl rc g6 (λa=>⟨a,rfl⟩) fU wL rfl hmc)<|Zv (iG rfl rfl)<|Zb rfl<|ZX rfl (λN=> ?_) λN=> ?_
 refine Zs<|Zs<|Zs<|Zs<|Zs<|Zs<|Zs<|Zs<|Zs<|Zs<|Zb rfl<|ct<|cQ rfl<|cI ?_
 refine Zi rfl<|ZZ rfl ?_
 exact m _ _ ((e::seen,e)) Za ⟨rfl,trivial⟩ ⟨hB,b,hmc,d,(HR hr g o),trivial⟩ (by have hle:=acV d;show l.length-(e::seen).length<l.length-seen.length;simp only[aa5]at hle ⊢;omega)
 refine Zi rfl<|Zw (.map (some f)) rfl<|Zi rfl<|Zv (fR (enc:=eM) (encV:=eM) (v0:=0) (k:=_) rfl rfl rc g6 (λa=>⟨a,rfl⟩) fU wL rfl hmc)<|Zv (dJ rfl rfl)<|ZX rfl (λO=> ?_) λO=> ?_
 refine Zi rfl<|Zi rfl<|Zv (dq rfl rfl)<|Zb rfl<|Zb rfl<|ct<|ZQ rfl (λP=> ?_) λP=> ?_
 refine cI<|Zi rfl<|ZZ rfl ?_
 exact m _ _ ((e::seen,e)) Za ⟨rfl,trivial⟩ ⟨hB,b,hmc,d,(HR hr g o),trivial⟩ (by have hle:=acV d;show l.length-(e::seen).length<l.length-seen.length;simp only[aa5]at hle ⊢;omega)
 refine cx ?_
 exact m _ _ ((e::seen,bb)) Za ⟨rfl,trivial⟩ ⟨hB,b,hmc,d,(Nx hbe t),trivial⟩ (by have hle:=acV d;show l.length-(e::seen).length<l.length-seen.length;simp only[aa5]at hle ⊢;omega)
 refine Zs<|Zs<|Zs<|Zb rfl<|Zb rfl<|ct<|dH rfl<|cx ?_
 exact m _ _ ((e::seen,bb)) Za ⟨rfl,trivial⟩ ⟨hB,b,hmc,d,(Nx hbe t),trivial⟩ (by have hle:=acV d;show l.length-(e::seen).length<l.length-seen.length;simp only[aa5]at hle ⊢;omega)
theorem qH (xl:Value) (l:List Int) (n:Int) (w:World) (hl:dp dT 1 w xl l) (hlb:l.length≤1000000) (hn:0≤n∧n≤4000):
    Fn Tryz.prog 194 #[xl, .int .i64 n] w λv w'=>cH dT 1 3 w' w.heap.size v (lY l n.toNat):=by
 refine cM (n:=33) Tryz.func194 rfl rfl rfl λhB=> ?_
 refine Zr<|Zw (.slice none 0 0) rfl<|ct<|Zr<|Zy (g7 (enc:=eM) (encV:=Value.bool) λb W5 i j c=> ?_)
 have m:=ZO i hB
 replace hB:=Ze hB j
 replace c:dy eM Value.bool _ _ (fz []):=c
 refine Zw (.map (some b)) rfl<|ct<|Zq<|Zr<|Zw xl rfl<|Zv (de (v:=xl) rfl (Below.slT hB hl) cV)<|ZZ rfl<|cy ?_
 refine cY (σ:=(Nat)) [7,7,13,19] (λk=>[(13, .int .i64 (k:Int))]) (λk W=>(Below w.heap.size w W)∧(dy eM Value.bool W b (fz (qS [] l k)))∧(k≤l.length)∧(True)) (λk=>l.length-k) (0) ⟨rfl,trivial⟩ ⟨hB,c,(my _),trivial⟩ ?_
 rintro k A B ⟨hB,hmk,hk,_⟩ C o
 refine Zr<|Zv (dq rfl rfl)<|ct<|Zq<|ZQ rfl (λp=> ?_) λp=> ?_
 refine cx<|Zq<|cy<|Zr<|Zv (dm (v:=xl) rfl (Below.slT hB hl) rfl cV Om Om)<|Zv (cD (v:= .int .i64 _) rfl cR (dp.cell (Below.slT hB hl) ez 0 Om Om 0 rfl))<|ZZ rfl<|cI<|Zw (.map (some b)) rfl<|Zi rfl ?_
 refine gM (dd:=none) rfl rfl rfl (fK (enc:=eM) (encV:=Value.bool) (k:=(l.getD k 0)) (v:=true) rfl rfl rfl mP g6 (λa=>⟨a,rfl⟩) fU hmk (λD q r=> ?_))
 replace hB:=Zg hB q m
 replace hmk:=r
 rw[jX]at hmk
 refine ct<|ZT rfl rfl rfl ?_
 exact o _ _ (k+1) Za ⟨rfl,trivial⟩ ⟨hB,(by exact hmk),Om,trivial⟩ Zo
 refine cT<|Zr<|Zw (.slice none 0 0) rfl<|ct<|Zq ?_
 obtain rfl:k=l.length:=by omega
 refine Zr<|Zi rfl<|ZZ rfl<|cy ?_
 refine cY (σ:=(Nat)×(Value)) [8,9,21,31] (λ(cc,v0)=>[(21, .int .i64 (cc:Int)),(8,v0)]) (λsg W=>match sg with|(cc,v0)=>(Below w.heap.size w W)∧(dy eM Value.bool W b _)∧(cH dT 1 3 W w.heap.size v0 (lY (qS [] l l.length) cc))∧((cc:Int)≤n)∧(True)) (λ(cc,v0)=>n.toNat-cc) ((0, .slice none 0 0)) ⟨rfl,rfl,trivial⟩ ⟨hB,hmk,cH.nil,Om,trivial⟩ ?_
 rintro⟨cc,v0⟩ E F ⟨hB,hmk,ho,hcc,_⟩ G f
 refine Zr<|Zv (dq rfl rfl)<|ct<|Zq<|ZQ rfl (λs=> ?_) λs=> ?_
 refine cx<|Zq<|cy<|Zr<|Zi rfl<|ZZ rfl<|Zr<|Zw (.map (some b)) rfl<|Zi rfl<|Zv (fR (enc:=eM) (encV:=Value.bool) (v0:=false) (k:=_) rfl rfl mP g6 (λa=>⟨a,rfl⟩) fU rz rfl hmk)<|ct<|ZQ rfl (λd=> ?_) λd=> ?_
 refine cI<|Zw v0 rfl<|Zi rfl<|Zy (eC (u:= .int .i64 _) rfl cV eL rfl Dd Dd λt H I y z=> ?_)
 obtain⟨hB,hmk,ho⟩:=y.k3 hB hmk ho
 refine Zy (dR (v:=v0) (v2:= .slice (some ⟨t,0,none⟩) 1 1) rfl rfl cV eL Dd ho (eK z rfl) rfl (mV hB) (by have:=mH (qS [] l l.length) cc;omega) (by have:=mH (qS [] l l.length) cc;omega) λg J h e=> ?_)
 replace e:=cH.snoc (enc:=dT) (x:=_) rfl rfl rfl rfl e
 replace hB:=ZG hB h ho
 replace hmk:=dy.grownOw hmk ho h
 refine Zw g rfl<|ct<|ZT rfl rfl rfl ?_
 exact f _ _ ((cc+1,g)) Za ⟨rfl,rfl,trivial⟩ ⟨hB,hmk,(by (rw[nr,if_pos (vD d)];exact e)),Om,trivial⟩ (by show n.toNat-(cc+1)<n.toNat-cc;omega)
 refine cx<|ZT rfl rfl rfl ?_
 exact f _ _ ((cc+1,v0)) Za ⟨rfl,rfl,trivial⟩ ⟨hB,hmk,(by (rw[nr,if_neg (rh d)];exact ho)),Om,trivial⟩ (by show n.toNat-(cc+1)<n.toNat-cc;omega)
 refine cT ?_
 obtain rfl:cc=n.toNat:=by omega
 rw[QR]at ho
 refine Zr<|Zw v0 rfl<|Zw v0 rfl<|ct<|Zt<|df (v:=v0) rfl ⟨hB,?_⟩
 exact ho
end
section
open Go Go.RowKit
theorem JQ:cX Tryz.prog 189=true:=by kernel_rfl
theorem Jc:cX Tryz.prog 191=true:=by kernel_rfl
theorem It:cX Tryz.prog 193=true:=by kernel_rfl
theorem J6:cX Tryz.prog 194=true:=by kernel_rfl
theorem xH (n:Int) (rv:Value) (vs:List Value) (L:ML) (w:World) (hrv:cH encV 1 35 w 0 rv vs) (hLO:LO 3 0 w vs L) (hr:dQ n L=true) (hLb:L.length≤1000000) (hfu:jG L L.length=true):
    Fn Tryz.prog 188 #[.agg #[.int .i64 n,rv]] w λv w'=>∃tv T,v= .tuple #[tv, .int .i64 0]∧cH dT 1 3 w' w.heap.size tv T∧nL L T∧T.length≤4000:=by
 refine cM (n:=33) Tryz.func188 rfl rfl rfl λhB=> ?_
 have hll:=hLO.ll
 have hvl:=hll.len
 refine Zr<|Zy (dw (c:= #[_,_]) rfl rfl λE W3 ae F d=> ?_)
 replace hB:=Ze hB F
 refine Zw (.slice none 0 0) rfl<|ZZ rfl<|Zq<|cy<|Zr<|Zv (cz rfl da rfl d)<|ZC (vs:=[.agg #[_,_]]) uX (kA n _ _ L _ ((Below.ow hB hrv)).sl (LO.mono (LO.below hB hLO) (my _)).ll hLb (λi=>go (fL hr i) Dd)) rfl λaf ag G H=> ?_
 obtain⟨hB,d⟩:=G.k2 hB d
 obtain rfl:=H
 refine Zv (eR rfl)<|Zb rfl<|ct<|ZQ rfl (λs=> ?_) λs=> ?_
 exact absurd (kZ s) (by rw[hr];decide)
 refine Zr<|Zv (cz rfl da rfl d)<|ZC (vs:=[.agg #[_,_]]) JQ (oE n _ _ _ _ (cH.mono (Below.ow hB hrv) (my _)) (LO.mono (LO.below hB hLO) (my _)) hLb) rfl λah ai I J=> ?_
 obtain⟨hB,d⟩:=I.k2 hB d
 obtain rfl:=J
 refine Zv (eR rfl)<|Zb rfl<|ct<|ZQ rfl (λt=> ?_) λt=> ?_
 exact absurd (kZ t) (by rw[hfu];decide)
 refine cx<|Zr<|Zw (.slice none 0 0) rfl<|ct<|Zr<|Zv (cz rfl da rfl d)<|Zy (cK gq rfl λK aj y M e=> ?_)
 have z:=ZO y hB
 have A:=Zn y d.lt
 obtain⟨hB,d⟩:=M.k2 hB d
 refine Zy (cA rfl rfl da rfl e rfl (by exact iI (cH.one hrv)) λak B N=> ?_)
 replace hB:=Zg hB B z
 replace d:=At.grownNe d A B
 replace e:=N
 refine ct<|Zq<|cy ?_
 refine cY (σ:=(Value)×(List Value)×(ML)×(Value)×(List Int)) [4,4,6,6,16,28] (λ(rv1,g,L1,v0,out)=>[(4,v0)]) (λsg W=>match sg with|(rv1,g,L1,v0,out)=>(Below w.heap.size w W)∧(At W E _ 203)∧(At W K #[.int .i64 n,rv1] 203)∧(cH encV 1 35 W 0 rv1 g)∧(cH dT 1 3 W w.heap.size v0 (out))∧(LO 3 0 w g L1)∧(MX n L L1 out)∧(L1.length≤1000000)∧(True)) (λ(rv1,g,L1,v0,out)=>L1.length) ((rv,vs,L, .slice none 0 0,[])) ⟨rfl,trivial⟩ ⟨hB,d,e,(Below.ow hB hrv),cH.nil,hLO,(adv hr hfu),hLb,trivial⟩ ?_
 rintro⟨rv1,g,L1,v0,out⟩ al ao ⟨hB,d,e,hrw1,ho,hlo1,hgr,hl0,_⟩ ap O
 refine Zq<|Zr<|Zf rfl dS<|ZL rv1 rfl eI e rfl<|Zv (de (v:=rv1) rfl hrw1.sl dF)<|Zv (iG rfl rfl)<|ct<|ZQ rfl (λP=> ?_) λP=> ?_
 refine cx<|cy ?_
 have hl1:L1.length≤1000000:=by have:=hgr.len;omega
 refine Zr<|Zv (cz rfl da rfl e)<|ZC (vs:=[.agg #[_,_]]) Jc (pi n _ _ L1 _ (cH.mono hrw1 (am _)) (LO.below hB hlo1) hgr.r hl1) rfl λaq ar Q R=> ?_
 obtain⟨hB,d,e,hrw1,ho⟩:=Q.k5 hB d e hrw1 ho
 obtain⟨c8_1,rfl,S⟩:=R
 refine Zw (.int .i64 c8_1) rfl<|ct ?_
 have hcin:=hgr.inl (by have:=hlo1.len;omega) S
 have hl1:L1.length≤1000000:=by have:=hgr.len;omega
 refine eP (λa b=>a.grownBy b v0.ownBlock) fC (λU V=> ?_)
 obtain⟨hB,d,e,hrw1,ho⟩:=V.k5 hB d e hrw1 ho
 have X:=ho
 have hS:=World.grownBy.refl U v0.ownBlock
 refine Tw 0 v0 rfl rfl hS<|Tw 1 (.int .i64 c8_1) rfl rfl hS<|Tk 4 rfl (λ_ hq=>cz rfl da rfl (At.grownOw e X hq Dd)) hS<|Tw 5 (.int .i64 c8_1) rfl rfl hS<|To 2 rfl (eC (u:= .int .i64 c8_1) rfl cV eL rfl Dd Dd λY au av m Z=>⟨.inl (cB hS (dC.grown m v0.ownBlock)),?_⟩)
 obtain⟨hB,d,e,hrw1,ho⟩:=m.k5 hB d e hrw1 ho
 replace hS:=cB hS (dC.grown m v0.ownBlock)
 refine To 3 rfl (dR (v:=v0) (v2:= .slice (some ⟨Y,0,none⟩) 1 1) rfl rfl cV eL Dd ho (eK Z rfl) rfl (mV hB) (by have:=hgr.len;omega) (by have:=hgr.len;omega) λC aw j f=>⟨.inl (cB hS j),?_⟩)
 replace hS:=cB hS j
 replace f:=cH.snoc (enc:=dT) (x:=c8_1) rfl rfl rfl rfl f
 replace hB:=ZG hB j ho
 replace d:=At.grownOw d ho j Dd
 replace e:=At.grownOw e ho j Dd
 replace hrw1:=cH.grownOw hrw1 ho j Dd
 refine To 6 rfl (TC (vs:=[.agg #[_,_], .int .i64 c8_1]) It (pk n _ _ L1 c8_1 _ (cH.mono hrw1 (am _)) (LO.below hB hlo1) hgr.r hl1) rfl λax ay o aa=>⟨.inl (cB hS (dC.grown o v0.ownBlock)),?_⟩)
 obtain⟨hB,d,e,f⟩:=o.k4 hB d e f
 replace hS:=cB hS (dC.grown o v0.ownBlock)
 obtain⟨rv9_6,rfl,hk9_6⟩:=aa
 refine Tw 7 C rfl rfl hS<|To 8 rfl (cA rfl rfl da rfl e rfl (by exact iI (cH.one hk9_6)) λaz l ab=>⟨.inr ka,?_⟩)
 replace hB:=Zg hB l z
 replace d:=At.grownNe d A l
 replace f:=cH.grownAt f e l Dd
 replace hk9_6:=cH.grownAt hk9_6 e l Dd
 replace e:=ab
 refine Td ?_
 exact O _ _ ((rv9_6,tS undef (λk=> !decide (c8_1∈L1.getD k [])) g L1.length,tD L1 c8_1,C,out++[c8_1])) Za ⟨rfl,trivial⟩ ⟨hB,d,(by exact e),hk9_6,(by exact f),(by have h:=adg hlo1 (λk=> !decide (c8_1∈L1.getD k [])) L1.length (am _);rw[Pd]at h;exact h),(hgr.next hcin),(by have:=(hgr.next hcin).len;omega),trivial⟩ (by exact BR hcin)
 refine cT ?_
 have hTl:=mH out n.toNat
 have hn4:=(fv.1 hr).2.1
 refine Zr<|Zw v0 rfl<|Zf rfl iv<|Zl rfl cR d rfl<|ZC J6 (qH _ out n _ ho.sl (by have:=hgr.len;omega) (by have q:=fv.1 hr;exact⟨q.1,q.2.1⟩)) rfl λD aA ac p=> ?_
 have aB:=acL ho
 have ad:=(Below.size hB)
 replace hB:=Ze hB ac
 replace p:=cH.mono p ad
 refine Zw D rfl<|ZZ rfl<|Zt<|dG (v:=D) rfl (v1:= .int .i64 0) rfl ⟨hB,?_⟩
 exact⟨_,_,rfl,p,hgr.fin hr (by have:=hlo1.len;omega),by omega⟩
end
section
open Go Go.RowKit
theorem Te:cX Tryz.prog 188=true:=by kernel_rfl
theorem I2:dW Tryz.prog 253=some (.agg #[.int .i64 0, .slice none 0 0, .slice none 0 0]):=by kernel_rfl
theorem HP:(Tryz.prog.info? 203).map (·.size)=some 2:=by kernel_rfl
theorem mU {f:Nat→Value} {w:World} {d:Option Nat} {ty:TypeId} {ps:String} {af:Array Edge} {g:Option (Nat×Bool)} {x0 x1:Operand} {c0_0 c0_1 c1_0:Value} (h0:dk f x0= .agg #[c0_0,c0_1]) (h1:dk f x1=c1_0) (k1:c1_0.cells= #[c1_0]):
    (execOp (dk f) ⟨d, .build 253 #[(0,x0),(1,x1)],ty,ps,af,g⟩).run Tryz.prog w= .ok (.value (.agg #[c0_0,c0_1,c1_0])) w:=by
  obtain⟨i0,hi0,hz0⟩:=Do.1 (show (Tryz.prog.info? 253).bind (·.zero)=_ from I2)
  obtain⟨j35,hj35,hs35⟩:=an.1 sx
  obtain⟨j203,hj203,hs203⟩:=an.1 HP
  simp[execOp,h0,h1,k1,Instr.build,zeroValue,typeInfo,sizeOf,hi0,hz0,run_underlying Tryz.underlying253,Instr.fill,d7,hj35,hs35,hj203,hs203]
theorem mI:fl Tryz.prog 254=some (253,3,56):=by kernel_rfl
theorem yR:(dW Tryz.prog 253).map (λz=>z.cells.size)=some 3:=by kernel_rfl
theorem E3:kf Tryz.prog 253=some 3:=by kernel_rfl
theorem zp:d5 Tryz.prog 253 0=some 0:=by kernel_rfl
theorem Kf:cX Tryz.prog 147=true:=by kernel_rfl
theorem G6:d5 Tryz.prog 253 1=some 2:=by kernel_rfl
theorem Sx:cX Tryz.prog 190=true:=by kernel_rfl
theorem Tt:cX Tryz.prog 192=true:=by kernel_rfl
set_option maxHeartbeats 2000000 in
theorem xm (n:Int) (rv:Value) (vs:List Value) (L:ML) (b:Int) (w:World) (hrv:cH encV 1 35 w 0 rv vs) (hLO:LO 3 0 w vs L) (hr:dQ n L=true) (hLb:L.length≤1000000) (hfu:jG L L.length=true) (hb:0≤b∧b≤1000000):
    Fn Tryz.prog 148 #[.agg #[.int .i64 n,rv], .int .i64 b] w λv w'=>(∃tv X s,v= .tuple #[tv, .int .i64 s, .int .i64 0]∧cH dT 1 3 w' w.heap.size tv X∧SP L n X∧X.length≤4000∧0≤s∧s≤b)∨(v= .tuple #[.slice none 0 0, .int .i64 b, .int .i64 6]∧b.toNat+1<2^cnt L):=by
 refine cM (n:=110) Tryz.func148 rfl rfl rfl λhB=> ?_
 have hll:=hLO.ll
 have hvl:=hll.len
 refine Zr<|Zy (dw (c:= #[_,_]) rfl rfl λaf W3 a9 ag d=> ?_)
 replace hB:=Ze hB ag
 refine Zw (.slice none 0 0) rfl<|Zi rfl<|ZZ rfl<|Zr<|Zv (cz rfl da rfl d)<|ZC (vs:=[.agg #[_,_]]) Te (xH n _ _ _ _ (cH.mono (Below.ow hB hrv) (my _)) (LO.mono (LO.below hB hLO) (my _)) hr hLb hfu) rfl λba W8 ah ai=> ?_
 have aj:=(Below.size hB)
 obtain⟨hB,d⟩:=ah.k2 hB d
 obtain⟨tv1_1,T1_1,rfl,hk1_1,hT1_1,hTl1_1⟩:=ai
 replace hk1_1:=cH.mono hk1_1 aj
 refine Zw (.tuple #[tv1_1, .int .i64 0]) rfl<|Zv (cZ rfl)<|Zv (c7 rfl)<|Zw tv1_1 rfl<|ZZ rfl<|Zq<|Zr<|Zi rfl<|Zv (e7 rfl rfl)<|ct<|ZQ rfl (λR=> ?_) λR=> ?_
 exact absurd rfl R
 refine cx<|Zr<|Zi rfl<|Zv (VE rfl rfl)<|ZZ rfl ?_
 have hmx:max 0 b=b:=by omega
 refine Zr<|Zv (cz rfl da rfl d)<|Zv (mU (h0:=rfl) (h1:=rfl) (k1:=rfl) (c1_0:= .slice none 0 0))<|Zy (eC (u:= .agg #[_,_,_]) rfl mI yR rfl Dd Dd λS bb ak al ao=> ?_)
 have ap:=ZO ak hB
 obtain⟨hB,d,hk1_1⟩:=al.k3 hB d hk1_1
 refine Zw (.slice (some ⟨S,0,none⟩) 1 1) rfl<|ct<|Zr<|ZZ rfl<|Zq<|cy ?_
 refine cY (σ:=(Value)×(List Ef)×(List Hf)×(Value)×(List Int)×(Int)) [4,7,9,16,30,104] (λ(v9,xs,st,v7,best,steps)=>[(9,v9),(7,v7),(10, .int .i64 steps)]) (λsg W=>match sg with|(v9,xs,st,v7,best,steps)=>(Below w.heap.size w W)∧(At W af _ 203)∧(cH Hu 3 253 W w.heap.size v9 xs)∧(cH dT 1 3 W w.heap.size v7 (best))∧(iB 35 3 W xs st)∧(px n L b xs st best steps)∧(True)) (λ(v9,xs,st,v7,best,steps)=>D9 st) ((.slice (some ⟨S,0,none⟩) 1 1,[⟨n,rv, .slice none 0 0⟩],[(L,[])],tv1_1,T1_1,0)) ⟨rfl,rfl,rfl,trivial⟩ ⟨hB,d,(jf (enc:=Hu) (a:=⟨n,rv, .slice none 0 0⟩) ao rfl rfl ap),hk1_1,(iB.one (Below.ow hB hrv) (LO.below hB hLO) cH.nil),(adz hr hLb hT1_1 hTl1_1 hb.1),trivial⟩ ?_
 rintro⟨v9,xs,st,v7,best,steps⟩ bc bd ⟨hB,d,hst,hbest,hch,hfw,_⟩ bf F
 refine Zq<|Zr<|Zw v9 rfl<|Zv (de (v:=v9) rfl hst.sl mI)<|Zv (iG rfl rfl)<|ct<|ZQ rfl (λaq=> ?_) λaq=> ?_
 refine cx<|cy ?_
 have hpos:0<xs.length:=by omega
 obtain⟨k,hk1⟩:∃k,xs.length=k+1:=⟨xs.length-1,by omega⟩
 have hks:st.length=k+1:=by rw[←hfw.len];exact hk1
 have hxl:=hfw.sl.len
 have hxr:=hfw.sl.r k (by omega)
 have hxl2:=hfw.sl.l k (by omega)
 have hxt:=hfw.sl.t k (by omega)
 obtain⟨vx,hkx,hLx⟩:=hch.mx k (by omega)
 have hcx:=hch.ch k (by omega)
 refine Zr<|Zw v9 rfl<|Zw v9 rfl<|Zv (de (v:=v9) rfl hst.sl mI)<|Zv (OY rfl rfl (show (xs.length:Int)-1=(k:Int)by omega) Om)<|Zv (dm (v:=v9) rfl hst.sl rfl mI Om Om)<|Zv (jc rfl E3 (dp.cell hst.sl uC De Om Om 0 rfl) (dp.cell hst.sl uC De Om Om 1 rfl) (dp.cell hst.sl uC De Om Om 2 rfl))<|Zy (cK I2 rfl λar bg U I o=> ?_)
 have au:=ZO U hB
 have av:=abE (b:=ar) hst (aa1 U.symm)
 obtain⟨hB,d,hst,hbest⟩:=I.k4 hB d hst hbest
 replace hch:=iB.ext I hch
 obtain⟨hkx,hLx,hcx⟩:=I.k3 hkx hLx hcx
 refine Zy (cA rfl rfl E3 rfl o rfl (by exact Vg (cH.one hkx) (cH.one hcx)) λbh D aw=> ?_)
 replace hB:=Zg hB D au
 replace d:=At.grownAt d o D Dd
 replace hst:=abg hst av D
 replace hbest:=cH.grownAt hbest o D Dd
 replace hch:=iB.grownAt hch o D Dd Dd
 replace hkx:=cH.grownAt hkx o D Dd
 replace hLx:=LO.grownAt hLx o D Dd
 replace hcx:=cH.grownAt hcx o D Dd
 replace o:=aw
 refine ct ?_
 have hC9:xs.length≤jn v9:=(Sl.eqv hst.sl).2.1
 refine Zr<|Zw v9 rfl<|Zw v9 rfl<|Zv (de (v:=v9) rfl hst.sl mI)<|Zv (OY rfl rfl (show (xs.length:Int)-1=(k:Int)by omega) Om)<|Zv (B5 (v:=v9) rfl hst.sl mI rfl Om Om) ?_
 replace hst:=cH.hi hst uC (k:=k) Om
 refine Zw (fV 3 v9 0 k (jn v9)) rfl<|ct<|Zq<|Zr<|Zf rfl zp<|Zv (iq rfl da (At.cell o rfl) (At.cell o rfl))<|ZC (vs:=[.agg #[_,_]]) JQ (oE _ _ _ _ _ (cH.mono hkx (my _)) (LO.mono hLx (my _)) hxl2) rfl λbi bj J ax=> ?_
 obtain⟨hB,d,hst,hbest⟩:=J.k4 hB d hst hbest
 replace hch:=iB.ext J hch
 obtain⟨hkx,hLx,hcx,o⟩:=J.k4 hkx hLx hcx o
 obtain rfl:=ax
 refine Zv (eR rfl)<|ct<|ZQ rfl (λK=> ?_) λK=> ?_
 refine cT ?_
 exact F _ _ ((fV 3 v9 0 k (jn v9),xs.take k,st.take k,v7,best,steps)) Za ⟨rfl,rfl,rfl,trivial⟩ ⟨hB,d,hst,(by exact hbest),(iB.take hch k),(px.none hfw hks K),trivial⟩ (by exact ac8 hks)
 refine cx ?_
 have hfl:jG (st.getD k mT).1 (st.getD k mT).1.length=true:=by simpa using K
 refine Zr<|Zf rfl zp<|Zv (iq rfl da (At.cell o rfl) (At.cell o rfl))<|ZC (vs:=[.agg #[_,_]]) Kf (qR _ _ _ _ _ (cH.mono hkx (my _)) (LO.mono hLx (my _)) hxr hxl2) rfl λbk bm M ay=> ?_
 have bn:=acL hbest
 have bo:=acL hcx
 have az:=(Below.size hB)
 obtain⟨hB,d,hst,hbest⟩:=M.k4 hB d hst hbest
 replace hch:=iB.ext M hch
 obtain⟨hcx,o⟩:=M.k2 hcx o
 obtain⟨tv11_2,T11_2,rv11_2,aA,L11_2,rfl,ht11_2,hk11_2,hLO11_2,hrd11_2,E,hln11_2,hTl11_2⟩:=ay
 skip
 replace ht11_2:=cH.mono ht11_2 az
 refine Zw (.tuple #[tv11_2, .agg #[.int .i64 _,rv11_2], .int .i64 0]) rfl<|Zv (gR rfl)<|Zv (jm rfl)<|Zv (iQ rfl)<|Zy (cK gq rfl λbp bq V N x=> ?_)
 have aB:=ZO V hB
 have aC:=Zn V d.lt
 obtain⟨hB,d,hst,hbest⟩:=N.k4 hB d hst hbest
 replace hch:=iB.ext N hch
 obtain⟨hcx,o,ht11_2,hk11_2,hLO11_2⟩:=N.k5 hcx o ht11_2 hk11_2 hLO11_2
 refine Zw tv11_2 rfl<|Zy (cA rfl rfl da rfl x rfl (by exact iI (cH.one hk11_2)) λY y aD=> ?_)
 replace hB:=Zg hB y aB
 replace d:=At.grownNe d aC y
 replace hst:=cH.grownAt hst x y Dd
 replace hbest:=cH.grownAt hbest x y Dd
 replace hch:=iB.grownAt hch x y Dd Dd
 replace hcx:=cH.grownAt hcx x y Dd
 replace o:=At.grownAt o x y Dd
 replace ht11_2:=cH.grownAt ht11_2 x y Dd
 replace hk11_2:=cH.grownAt hk11_2 x y Dd
 replace hLO11_2:=LO.grownAt hLO11_2 x y Dd
 replace x:=aD
 refine ZZ rfl ?_
 have br:=Below.ow hB hrv
 have bs:=LO.below hB hLO
 have z:=hB
 replace hB:=Below.refl Y.heap.size Y
 have hvl11:=hLO11_2.len
 have hT4:T11_2.length≤4000:=by have q:=(fv.1 hxr).2.1;omega
 refine Zr<|Zy (D2 cV λaE bt aF aG aH=> ?_)
 have aI:=ZO aF hB
 replace hB:=Ze hB aG
 have Z:=vq (enc:=dT) (sz:=1) aH aI
 refine Zf rfl G6<|ZL ((xs.getD k De).tv) rfl fp (On hB o) rfl<|Zy (dR (v:= .slice (some ⟨aE,0,none⟩) 0 0) (v2:=(xs.getD k De).tv) rfl rfl cV eL Dd Z ((Below.ow hB hcx)).sl (lN) (mV hB) (by have hz:([]:List Int).length=0:=rfl;omega) (by have hz:([]:List Int).length=0:=rfl;omega) λaJ bu aK G=> ?_)
 replace G:=cH.app (enc:=dT) rfl rfl rfl rfl G
 replace hB:=ZG hB aK Z
 rw[abG]at G
 refine Zw tv11_2 rfl<|Zy (dR (v:=aJ) (v2:=tv11_2) rfl rfl cV eL Dd G ((Below.ow hB ht11_2)).sl (lN) (mV hB) Om Om λp bv aL f=> ?_)
 replace f:=cH.app (enc:=dT) rfl rfl rfl rfl f
 replace hB:=ZG hB aL G
 refine Zw p rfl<|ct<|Zq<|Zr<|Zf rfl dS<|ZL rv11_2 rfl eI (On hB x) rfl<|Zv (de (v:=rv11_2) rfl ((Below.ow hB hk11_2)).sl dF)<|Zv (dJ rfl rfl)<|ct<|ZQ rfl (λaM=> ?_) λaM=> ?_
 refine Zq<|Zr<|Zw p rfl<|Zv (de (v:=p) rfl f.sl cV)<|Zw v7 rfl<|Zv (de (v:=v7) rfl ((Below.ow hB hbest)).sl cV)<|Zv (dq rfl rfl)<|ct<|ZQ rfl (λaN=> ?_) λaN=> ?_
 refine cI<|Zw p rfl<|Zw p rfl<|ct<|cT ?_
 replace d:=On hB d
 replace hst:=Below.ow hB hst
 replace hch:=iB.below hB hch
 have hzs:=go (am _) (Below.size z)
 replace f:=cH.mono f hzs
 replace hB:=Below.trans z (Below.mono hB hzs)
 exact F _ _ ((fV 3 v9 0 k (jn v9),xs.take k,st.take k,p,((st.getD k mT).2++T11_2),steps)) Za ⟨rfl,rfl,rfl,trivial⟩ ⟨hB,d,hst,(by exact f),(iB.take hch k),(px.leaf hfw hks hrd11_2 Om Om),trivial⟩ (by exact ac8 hks)
 refine cx<|cT ?_
 replace d:=On hB d
 replace hst:=Below.ow hB hst
 replace hbest:=Below.ow hB hbest
 replace hch:=iB.below hB hch
 have hzs:=go (am _) (Below.size z)
 replace hB:=Below.trans z (Below.mono hB hzs)
 exact F _ _ ((fV 3 v9 0 k (jn v9),xs.take k,st.take k,v7,best,steps)) Za ⟨rfl,rfl,rfl,trivial⟩ ⟨hB,d,hst,(by exact hbest),(iB.take hch k),(px.leaf0 hfw hks hrd11_2 Om),trivial⟩ (by exact ac8 hks)
 refine cx<|Zq ?_
 have hbn:=GY L11_2 L11_2.length
 have hol:((st.getD k mT).2++T11_2).length≤16008000:=by rw[An];omega
 refine Zr<|Zw p rfl<|Zv (de (v:=p) rfl f.sl cV)<|Zv (cz rfl da rfl (On hB x))<|ZC (vs:=[.agg #[_,_]]) Sx (zB _ _ _ L11_2 _ (cH.mono (Below.ow hB hk11_2) (my _)) (LO.mono (LO.below hB hLO11_2) (my _)) E Om) rfl λbw bx aO aP=> ?_
 obtain⟨hB,f⟩:=aO.k2 hB f
 obtain rfl:=aP
 refine Zv (eB rfl rfl Om Om)<|Zw v7 rfl<|Zv (de (v:=v7) rfl ((Below.ow hB hbest)).sl cV)<|Zv (kn rfl rfl)<|ct<|ZQ rfl (λaQ=> ?_) λaQ=> ?_
 refine cT ?_
 replace d:=On hB d
 replace hst:=Below.ow hB hst
 replace hbest:=Below.ow hB hbest
 replace hch:=iB.below hB hch
 have hzs:=go (am _) (Below.size z)
 replace hB:=Below.trans z (Below.mono hB hzs)
 exact F _ _ ((fV 3 v9 0 k (jn v9),xs.take k,st.take k,v7,best,steps)) Za ⟨rfl,rfl,rfl,trivial⟩ ⟨hB,d,hst,(by exact hbest),(iB.take hch k),(px.prune hfw hks hrd11_2 Om),trivial⟩ (by exact ac8 hks)
 refine cx<|Zq ?_
 have bz:=hfw.s0
 have hsb:=hfw.sb
 refine Zr<|Zi rfl<|Zi rfl<|Zv (dJ rfl rfl)<|ct<|ZQ rfl (λaR=> ?_) λaR=> ?_
 refine Zr<|Zi rfl<|Zw (.slice none 0 0) rfl<|Zi rfl<|ZZ rfl ?_
 refine nX ?_
 have hzs:=go (am _) (Below.size z)
 replace hB:=Below.trans z (Below.mono hB hzs)
 repeat (first|refine d9 ?_|refine dO ?_)
 refine JC (v:= .slice none 0 0) rfl (v1:= .int .i64 _) rfl (v2:= .int .i64 6) rfl ⟨hB,?_⟩
 exact .inr ⟨by rw[hmx],by obtain⟨ci,hci⟩:=Rq hxr hfl hrd11_2 Om;exact px.out hfw hks hrd11_2 E hci Om⟩
 refine cx<|Zr<|Zi rfl<|Zv (eB rfl rfl Om Om)<|ZZ rfl<|Zr<|Zv (cz rfl da rfl (On hB x))<|ZC (vs:=[.agg #[_,_]]) Jc (pi _ _ _ L11_2 _ (cH.mono (Below.ow hB hk11_2) (my _)) (LO.mono (LO.below hB hLO11_2) (my _)) E Om) rfl λbA bB aS aT=> ?_
 obtain⟨hB,f⟩:=aS.k2 hB f
 obtain⟨c20_1,rfl,aU⟩:=aT
 refine Zw (.int .i64 c20_1) rfl<|ct ?_
 have hcin:=aU ⟨0,by omega,Je hxr hfl hrd11_2 _ (dB (by omega))⟩
 refine eP dC fC (λaa aV=> ?_)
 obtain⟨hB,f⟩:=aV.k2 hB f
 have hS:=dC.refl aa
 refine Tw 0 (fV 3 v9 0 k (jn v9)) rfl rfl hS<|Tk 1 rfl (λ_ hq=>cz rfl da rfl (hq.at (On hB x))) hS<|Tw 2 (.int .i64 c20_1) rfl rfl hS<|Tw 4 p rfl rfl hS<|Tk 6 rfl (λ_ hq=>cz rfl da rfl (hq.at (On hB x))) hS<|Tw 7 (.int .i64 c20_1) rfl rfl hS<|Tw 10 p rfl rfl hS<|Tw 12 (.int .i64 c20_1) rfl rfl hS ?_
 have hrwX:=(cH.mono (Below.ow hB hk11_2) (my _))
 have hlwX:=(LO.mono (LO.below hB hLO11_2) (my _))
 have hovX:=f
 refine Rp (m:=8) (A:=[3,5,8,9,11,13,14,15]) (L1:= #[true,true,true,true,true,true,true,true,true,true,true,true,true,true,true,true,false,false,false]) (T:=[90,90,92,92,95,96,98,98,100,102]) (λL g W=>i6 35 3 aa (xs.getD k De).n c20_1 L11_2 (tS undef (λk=> !decide (c20_1∈L11_2.getD k [])) aA L11_2.length) p ((st.getD k mT).2++T11_2) (L.getD 3 false) (L.getD 5 false) (L.getD 8 false) (L.getD 9 false) (L.getD 11 false) (L.getD 13 false) (L.getD 14 false) (L.getD 15 false) (g 90) (g 92) (g 95) (g 96) (g 98) (g 100) (g 101) (g 102) W) ka (ady _) ?_ ?_
 rintro i hi L g W hlt hrd hI
 have hi2:i=3∨i=5∨i=8∨i=9∨i=11∨i=13∨i=14∨i=15:=by simpa using hi
 rcases hi2 with rfl|rfl|rfl|rfl|rfl|rfl|rfl|rfl
 refine⟨_,90,rfl,rfl,rfl,rfl,rfl,?_⟩
 refine Yd.call (yc Tt (v0:= .agg #[_,_]) rfl (v1:= .int .i64 c20_1) rfl) (AW _ _ _ L11_2 c20_1 _ (hI.s.ow hrwX) (LO.ext hI.s hlwX) E Om) (λv W' hE hP=> ?_)
 obtain⟨r,vs,rfl,h1,h2⟩:=hP
 have k:=hI.p3 (ma hrd) hE h1 h2
 exact⟨.inl k.s,ac0 k (rZ hlt) (ea hlt Dd) (ea hlt Dd) (ea hlt Dd) (ea hlt Dd) (ea hlt Dd) (ea hlt Dd) (ea hlt Dd)⟩
 refine⟨_,92,rfl,rfl,rfl,rfl,rfl,?_⟩
 have n3:=lj (j:=3) hrd rfl
 obtain⟨r,vs,e,_⟩:=hI.o3 n3
 refine Yd.val (mU (h0:=e) (h1:=rfl) (k1:=dp.cells hovX.sl) (c1_0:=p)) ?_
 have k:=hI.p5 n3 e
 exact⟨.inl k.s,ac0 k (ea hlt Dd) (rZ hlt) (ea hlt Dd) (ea hlt Dd) (ea hlt Dd) (ea hlt Dd) (ea hlt Dd) (ea hlt Dd)⟩
 refine⟨_,95,rfl,rfl,rfl,rfl,rfl,?_⟩
 refine Yd.call (yc It (v0:= .agg #[_,_]) rfl (v1:= .int .i64 c20_1) rfl) (pk _ _ _ L11_2 c20_1 _ (hI.s.ow hrwX) (LO.ext hI.s hlwX) E Om) (λv W' hE hP=> ?_)
 obtain⟨r,rfl,h1⟩:=hP
 have k:=hI.p8 (lj (j:=3) hrd rfl) (ma hrd) hE h1
 exact⟨.inl k.s,ac0 k (ea hlt Dd) (ea hlt Dd) (rZ hlt) (ea hlt Dd) (ea hlt Dd) (ea hlt Dd) (ea hlt Dd) (ea hlt Dd)⟩
 refine⟨_,96,rfl,rfl,rfl,rfl,rfl,?_⟩
 refine D2 cV (λb W' hb hE hm=> ?_)
 have k:=hI.p9 (ma hrd) hb hE hm
 exact⟨.inl k.s,ac0 k (ea hlt Dd) (ea hlt Dd) (ea hlt Dd) (rZ hlt) (ea hlt Dd) (ea hlt Dd) (ea hlt Dd) (ea hlt Dd)⟩
 refine⟨_,98,rfl,rfl,rfl,rfl,rfl,?_⟩
 have n9:=lj (j:=9) hrd rfl
 have h9:=hI.o9 n9 (ma hrd)
 have hsX:dp dT 1 W p ((st.getD k mT).2++T11_2):=(hI.s.ow hovX).sl
 have hzX:(([]:List Int).length+(((st.getD k mT).2++T11_2)).length)*8≤140737488355328:=by have hz:([]:List Int).length=0:=rfl;omega
 have hzY:(([]:List Int).length+(((st.getD k mT).2++T11_2)).length)≤9223372036854775807:=by have hz:([]:List Int).length=0:=rfl;omega
 refine jg (v:=g 96) (v2:=p) rfl rfl cV eL Dd h9 hsX lN (dC.size hI.s) hzX hzY (λv' W' hG hO hob=> ?_)
 replace hO:=cH.app (enc:=dT) (l:=[]) (l2:=((st.getD k mT).2++T11_2)) rfl rfl rfl rfl hO
 rw[abG]at hO
 have k:=hI.p11 (by decide) (ma hrd) (lj (j:=8) hrd rfl) n9 hG hO hob
 exact⟨.inl k.s,ac0 k (ea hlt Dd) (ea hlt Dd) (ea hlt Dd) (ea hlt Dd) (rZ hlt) (ea hlt Dd) (ea hlt Dd) (ea hlt Dd)⟩
 refine⟨_,100,rfl,rfl,rfl,rfl,rfl,?_⟩
 refine eC (u:= .int .i64 c20_1) rfl cV eL rfl Dd Dd (λb W' hb hE hm=> ?_)
 have k:=hI.p13 (ma hrd) hE (jf (enc:=dT) (a:=c20_1) hm rfl rfl (aa1 hb.symm))
 exact⟨.inl k.s,ac0 k (ea hlt Dd) (ea hlt Dd) (ea hlt Dd) (ea hlt Dd) (ea hlt Dd) (rZ hlt) (ea hlt Dd) (ea hlt Dd)⟩
 refine⟨_,101,rfl,rfl,rfl,rfl,rfl,?_⟩
 have n11:=lj (j:=11) hrd rfl
 have n13:=lj (j:=13) hrd rfl
 have n14:=ma hrd
 have h11:=hI.o11 n11 n14
 refine dR (v:=g 98) (v2:=g 100) rfl rfl cV eL Dd h11 (hI.o13 n13 n14).1.sl lN (dC.size hI.s) (by have hz:[c20_1].length=1:=rfl;omega) (by have hz:[c20_1].length=1:=rfl;omega) (λv' W' hG hO=> ?_)
 replace hO:=cH.app (enc:=dT) (l:=((st.getD k mT).2++T11_2)) (l2:=[c20_1]) rfl rfl rfl rfl hO
 have k:=hI.p14 (by decide) n14 n11 n13 hG hO
 exact⟨.inl k.s,ac0 k (ea hlt Dd) (ea hlt Dd) (ea hlt Dd) (ea hlt Dd) (ea hlt Dd) (ea hlt Dd) (rZ hlt) (ea hlt Dd)⟩
 refine⟨_,102,rfl,rfl,rfl,rfl,rfl,?_⟩
 have n14:=lj (j:=14) hrd rfl
 have n8:=lj (j:=8) hrd rfl
 obtain⟨r,e,_⟩:=hI.o8 n8
 refine Yd.val (mU (h0:=e) (h1:=rfl) (k1:=dp.cells (hI.o14 n14).sl) (c1_0:=g 101)) ?_
 have k:=hI.p15 n14 e
 exact⟨.inl k.s,ac0 k (ea hlt Dd) (ea hlt Dd) (ea hlt Dd) (ea hlt Dd) (ea hlt Dd) (ea hlt Dd) (ea hlt Dd) (rZ hlt)⟩
 rintro aW bC hIX
 have hleX:=(Below.size hB)
 obtain⟨rv21_3,bD,aX,hk21_3,hLO21_3,_⟩:=hIX.o3 rfl
 obtain⟨r5,e5,aY⟩:=hIX.o5 rfl
 obtain rfl:rv21_3=r5:=by rw[aX]at e5;simpa using e5
 obtain⟨rv21_8,aZ,hk21_8⟩:=hIX.o8 rfl
 have C:=cH.mono (hIX.o14 rfl) hleX
 obtain⟨r15,e15,ab⟩:=hIX.o15 rfl
 obtain rfl:rv21_8=r15:=by rw[aZ]at e15;simpa using e15
 obtain⟨H,a2⟩:∃u,aW 101=u:=⟨_,rfl⟩
 rw[a2]at ab C
 have hXs:=hIX.s
 refine Fk (Cl [(92, .agg #[.int .i64 (xs.getD k De).n,rv21_3,p]),(102, .agg #[.int .i64 (xs.getD k De).n,rv21_8,H])] ⟨aY,ab,trivial⟩) ?_
 obtain⟨hB,f⟩:=hXs.k2 hB f
 replace hS:=hS.trans hXs
 refine To 16 rfl (HT (u0:= .agg #[.int .i64 (xs.getD k De).n,rv21_3,p]) (u1:= .agg #[.int .i64 (xs.getD k De).n,rv21_8,H]) rfl rfl mI yR rfl rfl Dd Dd λa3 bE a4 ac a5=>⟨.inl (hS.trans ac),?_⟩)
 have a6:=ZO a4 hB
 obtain⟨hB,f,hk21_3,hLO21_3,hk21_8,C⟩:=ac.k6 hB f hk21_3 hLO21_3 hk21_8 C
 have O:=Aj (enc:=Hu) (sz:=3) (a0:=⟨(xs.getD k De).n,rv21_3,p⟩) (a1:=⟨(xs.getD k De).n,rv21_8,H⟩) a5 rfl rfl rfl rfl a6
 replace d:=On hB d
 replace hst:=Below.ow hB hst
 replace hbest:=Below.ow hB hbest
 replace hch:=iB.below hB hch
 replace hLO11_2:=LO.below hB hLO11_2
 have hzs:=go (am _) (Below.size z)
 replace f:=cH.mono f hzs
 replace C:=cH.mono C hzs
 replace O:=cH.mono O hzs
 replace hB:=Below.trans z (Below.mono hB hzs)
 refine To 17 rfl (dR (v:=fV 3 v9 0 k (jn v9)) (v2:= .slice (some ⟨a3,0,none⟩) 2 2) rfl rfl mI yR Dd hst O.sl ((Qk (cH.one hk21_3) (cH.one f) (cH.one hk21_8) (cH.one C))) (mV hB) iw iw λad bF B P=>⟨.inr ka,?_⟩)
 replace P:=cH.app (enc:=Hu) rfl rfl rfl rfl P
 replace hB:=ZG hB B hst
 replace d:=At.grownOw d hst B Dd
 replace hbest:=cH.grownOw hbest hst B Dd
 replace hch:=iB.grownOw hch hst B Dd Dd
 replace hLO11_2:=LO.grownOw hLO11_2 hst B Dd
 replace f:=cH.grownOw f hst B Dd
 replace hk21_3:=cH.grownOw hk21_3 hst B Dd
 replace hLO21_3:=LO.grownOw hLO21_3 hst B Dd
 replace hk21_8:=cH.grownOw hk21_8 hst B Dd
 replace C:=cH.grownOw C hst B Dd
 refine iY (dd:=some 9) 18 ka rfl rfl rfl rfl (Yd.val (Fp (v:=ad) rfl) ⟨.inr ka,?_⟩)
 refine Td ?_
 exact F _ _ ((ad,xs.take k++[⟨(xs.getD k De).n,rv21_3,p⟩,⟨(xs.getD k De).n,rv21_8,H⟩],st.take k++[(qD L11_2 c20_1,((st.getD k mT).2++T11_2)),(tD L11_2 c20_1,((st.getD k mT).2++T11_2)++[c20_1])],v7,best,steps+1)) Za ⟨rfl,rfl,rfl,trivial⟩ ⟨hB,d,P,(by exact hbest),(iB.two (x1:=⟨(xs.getD k De).n,rv21_3,p⟩) (x2:=⟨(xs.getD k De).n,rv21_8,H⟩) (y1:=(qD L11_2 c20_1,((st.getD k mT).2++T11_2))) (y2:=(tD L11_2 c20_1,((st.getD k mT).2++T11_2)++[c20_1])) (iB.take hch k) hk21_3 hLO21_3 (cH.mono f (my _)) hk21_8 (by have h:=adg hLO11_2 (λk=> !decide (c20_1∈L11_2.getD k [])) L11_2.length (am _);rw[Pd]at h;exact h) (cH.mono C (my _))),(px.branch hfw hks hrd11_2 E hT4 Om hcin Om rfl rfl),trivial⟩ (by exact adr hks hrd11_2 E hcin)
 refine cT ?_
 have hbl:=hfw.bl
 refine Zr<|Zw v7 rfl<|Zf rfl iv<|Zl rfl cR d rfl<|ZC J6 (qH _ best n _ hbest.sl Om (by have q:=fv.1 hr;exact⟨q.1,q.2.1⟩)) rfl λae bG a7 Q=> ?_
 have bH:=acL hbest
 have a8:=(Below.size hB)
 replace hB:=Ze hB a7
 replace Q:=cH.mono Q a8
 refine Zi rfl<|Zw ae rfl<|Zi rfl<|ZZ rfl<|Zt<|JC (v:=ae) rfl (v1:= .int .i64 _) rfl (v2:= .int .i64 0) rfl ⟨hB,?_⟩
 have hfin:=hfw.fin hr (by omega)
 have hrl:=mH best n.toNat
 have hn4:=(fv.1 hr).2.1
 exact .inl ⟨_,_,_,rfl,Q,hfin,by omega,hfw.s0,hfw.sb⟩
end
section
open Go Go.RowKit
theorem jq:d5 Tryz.prog 222 1=some 1:=by kernel_rfl
theorem lD:eJ Tryz.prog 220=true:=by kernel_rfl
theorem lB:fl Tryz.prog 220=some (228,3,24):=by kernel_rfl
theorem qz:d5 Tryz.prog 228 0=some 0:=by kernel_rfl
theorem IA:cX Tryz.prog 159=true:=by kernel_rfl
theorem Kk:cX Tryz.prog 238=true:=by kernel_rfl
theorem Cw:dW Tryz.prog 228=some (.agg #[.int .i64 0, .int .i64 0, .int .i64 0]):=by kernel_rfl
theorem uQ {f:Nat→Value} {w:World} {d:Option Nat} {ty:TypeId} {ps:String} {af:Array Edge} {g:Option (Nat×Bool)} {x0 x1 x2:Operand} {c0_0 c1_0 c2_0:Value} (h0:dk f x0=c0_0) (k0:c0_0.cells= #[c0_0]) (h1:dk f x1=c1_0) (k1:c1_0.cells= #[c1_0]) (h2:dk f x2=c2_0) (k2:c2_0.cells= #[c2_0]):
    (execOp (dk f) ⟨d, .build 228 #[(0,x0),(1,x1),(2,x2)],ty,ps,af,g⟩).run Tryz.prog w= .ok (.value (.agg #[c0_0,c1_0,c2_0])) w:=by
  obtain⟨i0,hi0,hz0⟩:=Do.1 (show (Tryz.prog.info? 228).bind (·.zero)=_ from Cw)
  obtain⟨j3,hj3,hs3⟩:=an.1 fN
  simp[execOp,h0,k0,h1,k1,h2,k2,Instr.build,zeroValue,typeInfo,sizeOf,hi0,hz0,run_underlying Tryz.underlying228,Instr.fill,d7,hj3,hs3]
theorem pd:kf Tryz.prog 228=some 3:=by kernel_rfl
theorem tN:d5 Tryz.prog 222 2=some 2:=by kernel_rfl
theorem yq:eJ Tryz.prog 219=true:=by kernel_rfl
theorem zQ:m3 Tryz.prog 219=some (228,3):=by kernel_rfl
theorem PU {f:Nat→Value} {w:World} {d:Option Nat} {ty t2:TypeId} {ps:String} {af:Array Edge} {g:Option (Nat×Bool)} {x y:Operand} {a0 a1 a2 b0 b1 b2:Int} (hx:dk f x= .agg #[.int .i64 a0, .int .i64 a1, .int .i64 a2]) (hy:dk f y= .agg #[.int .i64 b0, .int .i64 b1, .int .i64 b2]):
    (execOp (dk f) ⟨d, .binOp .eql 228 x y t2,ty,ps,af,g⟩).run Tryz.prog w= .ok (.value (.bool (decide ((a0=b0∧a1=b1∧a2=b2))))) w:=by
  have hg:Tryz.prog.eqGuardType Tryz.prog.depth 228=false:=by kernel_rfl
  have hp228:Tryz.prog.stoodInHeld 228=false:=by kernel_rfl
  have hu228:Tryz.prog.underlying 228=some (.struct (Tryz.prog.fieldsOf 228)):=by kernel_rfl
  simp only[execOp,hx,hy,Sem.run_bind,run_eqGuard_agg _ _ _ _ _ _ _ hg,Result.andThen_ok,run_eql_struct,run_equalIn_agg _ 9999 228 _ _ hu228 hp228]
  simp only[Program.fieldsOf,Tryz.underlying228]
  simp[Op.eqFields,part,isAgg,run_equalIn_int _ 9998 3 _ _ _ _ Tryz.underlying3,run_underlying Tryz.underlying3]
  by_cases q0:a0=b0<;>by_cases q1:a1=b1<;>by_cases q2:a2=b2<;>simp[q0,q1,q2]
theorem BZ:qJ Tryz.prog 228 (λv=>∃a:Nd,v=xu a):=by
  refine pz Tryz.underlying228 ?_ ?_ ?_ ?_
  · rintro w _ _ ⟨a,rfl⟩ ⟨c,rfl⟩
    have hg:Tryz.prog.eqGuardType Tryz.prog.depth 228=false:=by kernel_rfl
    exact⟨_,sQ hg (PU rfl rfl),by rw[decide_eq_true_eq];constructor<;>intro h<;>simpa [xu] using h⟩
  · rintro _ _ ⟨a,rfl⟩ ⟨c,rfl⟩
    exact .inl rfl
  · rintro w em _ ⟨a,rfl⟩
    have h2:∀k,(Instr.checkKey em (k+1+1+1) 228 (xu a)).run Tryz.prog w= .ok () w:=λk=>by
      simp[xu,Instr.checkKey,part,isAgg,run_underlying Tryz.underlying228,run_underlying Tryz.underlying3]
    exact h2 9997
  · rintro _ ⟨a,rfl⟩
    simp[xu,Instr.sameBits]
theorem H5:d5 Tryz.prog 222 0=some 0:=by kernel_rfl
theorem Eu:(dW Tryz.prog 228).map (λz=>z.cells.size)=some 3:=by kernel_rfl
theorem GJ:d5 Tryz.prog 228 1=some 1:=by kernel_rfl
theorem Hq:d5 Tryz.prog 228 2=some 2:=by kernel_rfl
theorem tZ:d5 Tryz.prog 282 0=some 0:=by kernel_rfl
theorem yC:eJ Tryz.prog 166=true:=by kernel_rfl
theorem I8:cX Tryz.prog 119=true:=by kernel_rfl
theorem DM:cX Tryz.prog 273=true:=by kernel_rfl
theorem R7:cX Tryz.prog 202=true:=by kernel_rfl
theorem lQ (N ba bm R:Nat) (ns:List Nd) (id:Int) (w:World) (hD:fJ 222 228 N ba bm R w ns) (hid:id≤9223372036854775807):
    Fn Tryz.prog 159 #[.pointer (some ⟨ba,0,none⟩), .int .i64 id] w λv w'=>v= .bool (iK ns id):=by
 refine cM (n:=29) Tryz.func159 rfl rfl rfl λhB=> ?_
 obtain⟨nv,hha,hno⟩:=hD.out
 have hmp:=hD.hm
 have hwf:=hD.wf
 have hroom:=hD.room
 have htop:=hD.top
 have hla:=hD.la
 have hlm:=hD.lm
 refine Zr<|Zb rfl<|ct<|Zr<|Zi rfl<|Zv (kn rfl rfl)<|ZX rfl (λa=> ?_) λa=> ?_
 refine Zi rfl<|Zv (jS rfl rfl Om Om)<|Zp rfl<|Zc rfl<|Zf rfl jq<|ZL nv rfl lD (On hB hha) rfl<|Zv (de (v:=nv) rfl ((Below.ow hB hno)).sl lB)<|Zv (dq rfl rfl)<|Zb rfl<|ZX rfl (λb=> ?_) λb=> ?_
 refine Zp rfl<|Zc rfl<|Zf rfl jq<|ZL nv rfl lD (On hB hha) rfl<|Zi rfl<|Zv (jS rfl rfl Om Om)<|Zv (dm (v:=nv) rfl ((Below.ow hB hno)).sl rfl lB Om Om)<|Zf rfl qz<|Zv (cD (v:= .int .i64 _) rfl cR (dp.cell ((Below.ow hB hno)).sl pD ol Om Om 0 rfl))<|Zv (e7 rfl rfl)<|Zb rfl<|Zb rfl<|ct<|Zt ?_
 refine df (v:= .bool _) rfl ⟨hB,?_⟩
 exact aaj a b
 refine Zs<|Zs<|Zs<|Zs<|Zs<|Zs<|Zs<|Zs<|Zs<|Zs<|Zb rfl<|Zb rfl<|ct<|Zt ?_
 refine df (v:= .bool false) rfl ⟨hB,?_⟩
 exact Xu b
 refine Zs<|Zs<|Zs<|Zs<|Zs<|Zs<|Zs<|Zs<|Zb rfl<|Zb rfl<|Zs<|Zs<|Zs<|Zs ?_
 refine Zs<|Zs<|Zs<|Zs<|Zs<|Zs<|Zb rfl<|Zb rfl<|ct<|Zt<|df (v:= .bool false) rfl ⟨hB,?_⟩
 exact Xi a
theorem lP (N ba bm R:Nat) (ns:List Nd) (id:Nat) (w:World) (hD:fJ 222 228 N ba bm R w ns) (hid:id<ns.length+2):
    Fn Tryz.prog 238 #[.pointer (some ⟨ba,0,none⟩), .int .i64 (id:Int)] w λv w'=>v= .int .i64 ((dV ns id:Nat):Int):=by
 refine cM (n:=25) Tryz.func238 rfl rfl rfl λhB=> ?_
 obtain⟨nv,hha,hno⟩:=hD.out
 have hmp:=hD.hm
 have hwf:=hD.wf
 have hroom:=hD.room
 have htop:=hD.top
 have hla:=hD.la
 have hlm:=hD.lm
 refine Zr<|ZZ rfl<|Zq<|cy<|Zr<|Zi rfl<|Zv (dJ rfl rfl)<|ZX rfl (λa=> ?_) λa=> ?_
 refine Zs<|Zs<|Zb rfl<|Zb rfl<|ct<|cQ rfl<|Zr<|ZZ rfl<|Zt<|df (v:= .int .i64 24) rfl ⟨hB,?_⟩
 exact ZD (.inl a)
 refine Zi rfl<|Zv (dJ rfl rfl)<|Zb rfl<|Zb rfl<|ct<|ZQ rfl (λb=> ?_) λb=> ?_
 refine Zr<|ZZ rfl<|Zt<|df (v:= .int .i64 24) rfl ⟨hB,?_⟩
 exact ZD (.inr b)
 refine Zr<|Zp rfl<|Zi rfl<|ZC IA (lQ _ _ _ _ _ _ _ (fJ.below hB hD) (by omega)) rfl λf g d e=> ?_
 replace hB:=Ze hB d
 obtain rfl:=e
 refine Zb rfl<|ct<|ZQ rfl (λc=> ?_) λc=> ?_
 have hth:=pp.1 c
 refine Zr<|Zp rfl<|Zc rfl<|Zf rfl jq<|ZL nv rfl lD (On hB hha) rfl<|Zi rfl<|Zv (jS rfl rfl Om Om)<|Zv (dm (v:=nv) rfl ((Below.ow hB hno)).sl rfl lB Om Om)<|Zf rfl qz<|Zv (cD (v:= .int .i64 _) rfl cR (dp.cell ((Below.ow hB hno)).sl pD ol Om Om 0 rfl))<|ZZ rfl<|Zt<|df (v:= .int .i64 _) rfl ?_
 refine⟨hB,?_⟩
 exact aaR a b
 exact(WJ hid a b c).elim
theorem qT (N ba bm R:Nat) (ns:List Nd) (l lo hi:Nat) (w:World) (hN0:N≤w.heap.size) (hD:fJ 222 228 N ba bm R w ns) (hlo:lo<ns.length+2) (hhi:hi<ns.length+2) (h0:hi≠0) (l1:l<dV ns lo) (l2:l<dV ns hi) (h24:l<24):
    lc Tryz.prog 202 #[.pointer (some ⟨ba,0,none⟩), .int .i64 (l:Int), .int .i64 (lo:Int), .int .i64 (hi:Int)] w λv w'=>PO 222 228 N ba bm R w ns (1) (l) (up l (M ns lo) (M ns hi)) v w':=by
 refine dK (n:=112) (N:=N) Tryz.func202 rfl rfl rfl λhB=> ?_
 obtain⟨nv,hha,hno⟩:=hD.out
 have hmp:=hD.hm
 have hwf:=hD.wf
 have hroom:=hD.room
 have htop:=hD.top
 have hla:=hD.la
 have hlm:=hD.lm
 have hX:Dx 228 N [ba,bm] w w:=Dx.refl
 have hil:=O8 ns
 have g:=hB
 replace hB:=Below.refl w.heap.size w
 refine Zr<|Zi rfl<|ZZ rfl<|Zq<|Zr<|Zp rfl<|Zv (rA rfl rfl Tryz.underlying166)<|Zb rfl<|Zi rfl<|Zv (dq rfl rfl)<|Zb rfl<|ZX rfl (λp=> ?_) λp=> ?_
 exact absurd p Om
 refine Zp rfl<|Zi rfl<|ZC Kk (lP _ _ _ _ _ _ _ (fJ.below hB hD) pN) rfl λad W8 y z=> ?_
 replace hB:=Ze hB y
 obtain rfl:=z
 refine Zi rfl<|Zv (tA rfl rfl)<|Zb rfl<|ZX rfl (λq=> ?_) λq=> ?_
 exact absurd q Om
 refine Zp rfl<|Zi rfl<|ZC Kk (lP _ _ _ _ _ _ _ (fJ.below hB hD) pN) rfl λae af A B=> ?_
 replace hB:=Ze hB A
 obtain rfl:=B
 refine Zi rfl<|Zv (tA rfl rfl)<|Zb rfl<|ct<|ZQ rfl (λr=> ?_) λr=> ?_
 exact absurd r Om
 refine cx<|Zr<|Zi rfl<|Zi rfl<|Zi rfl<|Zv (uQ (h0:=rfl) (k0:=rfl) (h1:=rfl) (k1:=rfl) (h2:=rfl) (k2:=rfl) (c0_0:= .int .i64 _) (c1_0:= .int .i64 _) (c2_0:= .int .i64 _))<|Zy (cK Cw rfl λs ag t C c=> ?_)
 have D:=ZO t hB
 have E:=abE (b:=s) (Below.ow hB hno) (aa1 t.symm)
 replace hB:=Ze hB C
 refine Zy (cA rfl rfl pd rfl c rfl rfl λah F G=> ?_)
 replace hB:=Zg hB F D
 replace c:=G
 refine ct<|Zq<|Zd dC λH I=> ?_
 obtain⟨hB,c⟩:=I.k2 hB c
 have hS:=dC.refl H
 refine Tq 0 rfl rfl hS<|Tc 1 rfl rfl hS<|Tf 2 rfl rfl tN hS<|Tk 3 rfl (λ_ hq=>cD (v:= .map (some bm)) rfl yq (At.cell (hq.at (On hB hha)) rfl)) hS<|Tk 4 rfl (λ_ hq=>cz rfl pd rfl (hq.at c)) hS<|Tk 5 rfl (λ_ hq=>Ce (enc:=xu) (encV:=eM) (v0:=0) (k:=⟨l,lo,hi⟩) rfl rfl zQ BZ (λa=>⟨a,rfl⟩) FL wL rfl (hq.mapT (acl hB hmp))) hS<|Tw 6 (.tuple #[.int .i64 _, .bool _]) rfl rfl hS<|Tk 7 rfl (λ_ _=>cZ rfl) hS<|Tk 8 rfl (λ_ _=>c7 rfl) hS<|Ti 9 rfl rfl hS<|Ty 10 rfl rfl hS<|Td<|Zr<|Zb rfl ?_
 refine ct<|ZQ rfl (λj=> ?_) λj=> ?_
 refine Zr<|Zi rfl<|Zi rfl<|ZZ rfl ?_
 refine nX ?_
 replace hha:=On hB hha
 replace hno:=Below.ow hB hno
 replace hmp:=acl hB hmp
 replace hX:=Dx.trans hX (Dx.below hB)
 have hzs:=go hN0 (Below.size g)
 repeat (first|refine d9 ?_|refine dO ?_)
 refine dG (v:= .int .i64 _) rfl (v1:= .int .i64 0) rfl ?_
 obtain⟨i,hi2,hn,he⟩:=V8 hwf j
 rw[he]
 exact⟨ns,i+2,0,rfl,hX,⟨⟨nv,hha,hno⟩,hmp,hla,hlm,hwf,hroom,htop⟩,Wx hwf hi2 hn⟩
 refine cx<|Zq ?_
 have hnew:=U4 j
 refine Zd dC λJ K=> ?_
 obtain⟨hB,c⟩:=K.k2 hB c
 have hS:=dC.refl J
 refine Tq 0 rfl rfl hS<|Tc 1 rfl rfl hS<|Tf 2 rfl rfl tN hS<|Tk 3 rfl (λ_ hq=>cD (v:= .map (some bm)) rfl yq (At.cell (hq.at (On hB hha)) rfl)) hS<|Tk 4 rfl (λ_ hq=>ON rfl zQ (hq.mapT (acl hB hmp))) hS<|Tq 5 rfl rfl hS<|Tc 6 rfl rfl hS<|Tf 7 rfl rfl H5 hS<|Tk 8 rfl (λ_ hq=>cD (v:= .int .i64 _) rfl cR (At.cell (hq.at (On hB hha)) rfl)) hS<|Tk 9 rfl (λ_ _=>kn rfl rfl) hS<|Td<|ZQ rfl (λL=> ?_) λL=> ?_
 refine Zr<|Zi rfl<|ZZ rfl ?_
 refine nX ?_
 replace hha:=On hB hha
 replace hno:=Below.ow hB hno
 replace hmp:=acl hB hmp
 replace hX:=Dx.trans hX (Dx.below hB)
 have hzs:=go hN0 (Below.size g)
 repeat (first|refine d9 ?_|refine dO ?_)
 refine dG (v:= .int .i64 0) rfl (v1:= .int .i64 5) rfl ?_
 exact⟨ns,0,5,rfl,hX,⟨⟨nv,hha,hno⟩,hmp,hla,hlm,hwf,hroom,htop⟩,RV Om⟩
 refine cx<|Zr<|ZZ rfl<|Zq<|cy ?_
 refine cY (σ:=(Nat)) [13,13,59,78] (λi=>[(13, .int .i64 (i:Int))]) (λi W=>(Below w.heap.size w W)∧(At W s _ 228)∧(i≤ns.length)∧(True)) (λi=>ns.length-i) (0) ⟨rfl,trivial⟩ ⟨hB,c,(my _),trivial⟩ ?_
 rintro i ai aj ⟨hB,c,hi2,_⟩ ak O
 refine Zq<|Zr<|Zi rfl<|Zp rfl<|Zc rfl<|Zf rfl jq<|ZL nv rfl lD (On hB hha) rfl<|Zv (de (v:=nv) rfl ((Below.ow hB hno)).sl lB)<|Zv (dq rfl rfl)<|ZX rfl (λP=> ?_) λP=> ?_
 refine Zp rfl<|Zc rfl<|Zf rfl jq<|ZL nv rfl lD (On hB hha) rfl<|Zi rfl<|Zv (dm (v:=nv) rfl ((Below.ow hB hno)).sl rfl lB Om Om)<|Zf rfl qz<|Zv (cD (v:= .int .i64 _) rfl cR (dp.cell ((Below.ow hB hno)).sl pD ol Om Om 0 rfl))<|Zv (e7 rfl rfl)<|Zb rfl<|ct<|ZQ rfl (λQ=> ?_) λQ=> ?_
 refine cx<|cy<|cI<|Zi rfl<|Zv (eB rfl rfl Om Om)<|ZZ rfl ?_
 exact O _ _ (i+1) Za ⟨rfl,trivial⟩ ⟨hB,c,Om,trivial⟩ Zo
 omega
 refine Zs<|Zs<|Zs<|Zs<|Zs<|Zs<|Zs<|Zs<|Zs<|Zb rfl<|ct<|dH rfl<|cT ?_
 refine Zq ?_
 obtain rfl:i=ns.length:=by omega
 refine Zr<|Zi rfl<|Zp rfl<|Zc rfl<|Zf rfl jq<|ZL nv rfl lD (On hB hha) rfl<|Zv (de (v:=nv) rfl ((Below.ow hB hno)).sl lB)<|Zv (dJ rfl rfl)<|ct<|ZQ rfl (λS=> ?_) λS=> ?_
 replace hha:=On hB hha
 replace hno:=Below.ow hB hno
 replace hmp:=acl hB hmp
 replace hX:=Dx.trans hX (Dx.below hB)
 have hzs:=go hN0 (Below.size g)
 replace hB:=Below.trans g (Below.mono hB hzs)
 refine eP (λa b=>a.grownBy b nv.ownBlock) fC (λT m=> ?_)
 obtain⟨hha,hno,hmp,hX⟩:=m.k4 hha hno hmp hX
 replace hB:=cW hB m hN0
 replace c:=m.at c
 have U:=hno
 have hS:=World.grownBy.refl T nv.ownBlock
 refine Tq 0 rfl rfl hS<|Tq 1 rfl rfl hS<|Tc 2 rfl rfl hS<|Tf 3 rfl rfl jq hS<|Tk 4 rfl (λ_ hq=>cD (v:=nv) rfl lD (At.cell (At.grownOw hha U hq Dd) rfl)) hS ?_
 refine iY (dd:=some 91) 5 ka rfl rfl rfl rfl (Yd.val (cz rfl pd rfl c) ⟨.inl hS,?_⟩)
 refine To 6 rfl (eC (u:= .agg #[_,_,_]) rfl lB Eu rfl Dd Dd λV al ao f X=>⟨.inl (cB hS (dC.grown f nv.ownBlock)),?_⟩)
 obtain⟨hha,hno,hmp,hX⟩:=f.k4 hha hno hmp hX
 replace hB:=cW hB f hN0
 replace c:=f.at c
 replace hS:=cB hS (dC.grown f nv.ownBlock)
 refine To 7 rfl (dR (v:=nv) (v2:= .slice (some ⟨V,0,none⟩) 1 1) rfl rfl lB Eu Dd hno (eK X rfl) rfl (mV hB) (by omega) (by omega) λY ap e d=>⟨.inl (cB hS e),?_⟩)
 replace hS:=cB hS e
 replace d:=cH.snoc (enc:=VN) (x:=⟨l,lo,hi⟩) rfl rfl rfl rfl d
 replace hha:=At.grownOw hha hno e Dd
 replace hmp:=dy.grownOw hmp hno e
 replace hX:=Dx.trans hX (Dx.row hno e)
 replace c:=adm c E e
 refine Tc 8 rfl rfl hS<|Tf 9 rfl rfl jq hS<|To 10 rfl (db (v:=Y) rfl rfl lD (dp.one d.sl) hha fD λaq h Z=>⟨.inr ka,?_⟩)
 replace hmp:=dy.grownAt hmp hha h
 replace hX:=Dx.trans hX (Dx.grown h fD hla)
 replace c:=At.grownAt c hha h Dd
 replace d:=cH.grownAt d hha h Dd
 replace hha:=Z
 replace hha:At _ _ #[_,_,_] _:=hha
 refine Td<|Zd dC λaa ab=> ?_
 obtain⟨hha,hmp,hX,c,d⟩:=ab.k5 hha hmp hX c d
 have hS:=dC.refl aa
 refine Tq 0 rfl rfl hS<|Tc 1 rfl rfl hS<|Tf 2 rfl rfl tN hS<|Tk 3 rfl (λ_ hq=>cD (v:= .map (some bm)) rfl yq (At.cell (hq.at hha) rfl)) hS<|Tk 4 rfl (λ_ hq=>cz rfl pd rfl (hq.at c)) hS<|Ti 5 rfl rfl hS<|Tk 6 rfl (λ_ _=>eB rfl rfl Om Om) hS<|To 7 rfl (fK (enc:=xu) (encV:=eM) (k:=⟨l,lo,hi⟩) (v:=((ns.length+2:Nat):Int)) rfl rfl rfl zQ BZ (λa=>⟨a,rfl⟩) FL hmp λar o ac=>⟨.inr ka,?_⟩)
 replace hha:=At.grownMap hha hmp o
 replace hX:=Dx.trans hX (Dx.grown o fD hlm)
 replace d:=cH.grownMap d hmp o
 replace hmp:=ac
 rw[PQ hnew]at hmp
 refine Td<|Zr<|Zi rfl<|Zv (eB rfl rfl Om Om)<|Zi rfl<|ZZ rfl<|Zt<|dG (v:= .int .i64 _) rfl (v1:= .int .i64 0) rfl ?_
 exact⟨ns++[⟨l,lo,hi⟩],ns.length+2,0,rfl,hX,⟨⟨_,hha,d⟩,hmp,hla,hlm,hwf.snoc hnew hlo hhi h0 l1 l2 h24,iw,htop⟩,VR hlo hhi⟩
 omega
theorem l5 (N ba bm R:Nat) (ns:List Nd) (id:Int) (w:World) (hD:fJ 222 228 N ba bm R w ns) (hid:id≤9223372036854775807):
    Fn Tryz.prog 119 #[.pointer (some ⟨ba,0,none⟩), .int .i64 id] w λv w'=>v= .tuple #[.int .i64 ((m0 ns id).l:Int), .int .i64 ((m0 ns id).lo:Int), .int .i64 ((m0 ns id).hi:Int), .bool (iK ns id)]:=by
 refine cM (n:=31) Tryz.func119 rfl rfl rfl λhB=> ?_
 obtain⟨nv,hha,hno⟩:=hD.out
 have hmp:=hD.hm
 have hwf:=hD.wf
 have hroom:=hD.room
 have htop:=hD.top
 have hla:=hD.la
 have hlm:=hD.lm
 refine Zr<|Zi rfl<|Zi rfl<|Zi rfl<|Zb rfl<|ct<|Zq<|Zr<|Zp rfl<|Zv (rA rfl rfl Tryz.underlying166)<|Zb rfl<|Zp rfl<|Zi rfl<|ZC IA (lQ _ _ _ _ _ _ _ (fJ.below hB hD) pN) rfl λm W7 c d=> ?_
 replace hB:=Ze hB c
 obtain rfl:=d
 refine Zv (eR rfl)<|Zb rfl<|ct<|ZQ rfl (λb=> ?_) λb=> ?_
 refine Zr<|Zi rfl<|Zi rfl<|Zi rfl<|Zb rfl<|ct<|Zt<|EL (v:= .int .i64 0) rfl (v1:= .int .i64 0) rfl (v2:= .int .i64 0) rfl (v3:= .bool false) rfl ⟨hB,?_⟩
 obtain⟨ht,hn⟩:=QC b
 rw[ht,hn]
 rfl
 refine cx ?_
 obtain⟨ht,hn⟩:=Qj b
 have hth:=pp.1 ht
 refine Zr<|Zp rfl<|Zc rfl<|Zf rfl jq<|ZL nv rfl lD (On hB hha) rfl<|Zi rfl<|Zv (jS rfl rfl Om Om)<|Zv (dm (v:=nv) rfl ((Below.ow hB hno)).sl rfl lB Om Om)<|Zv (jc rfl pd (dp.cell ((Below.ow hB hno)).sl pD ol Om Om 0 rfl) (dp.cell ((Below.ow hB hno)).sl pD ol Om Om 1 rfl) (dp.cell ((Below.ow hB hno)).sl pD ol Om Om 2 rfl))<|Zy (cK Cw rfl λo p e f a=> ?_)
 have g:=ZO e hB
 replace hB:=Ze hB f
 refine Zy (cA rfl rfl pd rfl a rfl rfl λq h i=> ?_)
 replace hB:=Zg hB h g
 replace a:=i
 refine ct<|Zd dC λj k=> ?_
 obtain⟨hB,a⟩:=k.k2 hB a
 have hS:=dC.refl j
 refine Tf 0 rfl rfl qz hS<|Tk 1 rfl (λ_ hq=>cD (v:= .int .i64 _) rfl cR (At.cell (hq.at a) rfl)) hS<|Tf 2 rfl rfl GJ hS<|Tk 3 rfl (λ_ hq=>cD (v:= .int .i64 _) rfl cR (At.cell (hq.at a) rfl)) hS<|Tf 4 rfl rfl Hq hS<|Tk 5 rfl (λ_ hq=>cD (v:= .int .i64 _) rfl cR (At.cell (hq.at a) rfl)) hS<|Ti 6 rfl rfl hS<|Ti 7 rfl rfl hS<|Ti 8 rfl rfl hS<|Ty 9 rfl rfl hS<|Td<|Zt<|EL (v:= .int .i64 _) rfl (v1:= .int .i64 _) rfl (v2:= .int .i64 _) rfl (v3:= .bool true) rfl ⟨hB,?_⟩
 rw[ht,hn]
theorem kO (N ba bm bz R:Nat) (ns:List Nd) (id:Int) (w:World) (hz:At w bz #[.pointer (some ⟨ba,0,none⟩)] 282) (hD:fJ 222 228 N ba bm R w ns) (hid:id≤9223372036854775807):
    Fn Tryz.prog 273 #[.pointer (some ⟨bz,0,none⟩), .int .i64 id] w λv w'=>v= .int .i64 (un ns id):=by
 refine cM (n:=28) Tryz.func273 rfl rfl rfl λhB=> ?_
 refine Zr<|ZZ rfl<|Zq<|Zr<|Zi rfl<|Zv (dJ rfl rfl)<|ZX rfl (λa=> ?_) λa=> ?_
 refine Zs<|Zs<|Zb rfl<|ct<|cQ rfl<|Zr<|ZZ rfl<|Zt<|df (v:= .int .i64 24) rfl ⟨hB,?_⟩
 exact Yh (.inl a)
 refine Zi rfl<|Zv (dJ rfl rfl)<|Zb rfl<|ct<|ZQ rfl (λb=> ?_) λb=> ?_
 refine Zr<|ZZ rfl<|Zt<|df (v:= .int .i64 24) rfl ⟨hB,?_⟩
 exact Yh (.inr b)
 refine cx<|Zq<|Zr<|Zp rfl<|Zc rfl<|Zf rfl tZ<|ZL (.pointer (some ⟨ba,0,none⟩)) rfl yC (On hB hz) rfl<|Zi rfl<|ZC I8 (l5 _ _ _ _ _ _ _ (fJ.below hB hD) pN) rfl λf g d e=> ?_
 replace hB:=Ze hB d
 obtain rfl:=e
 refine Zw (.tuple #[.int .i64 _, .int .i64 _, .int .i64 _, .bool _]) rfl<|Zv (Fm rfl)<|Zv (Gs rfl)<|Zv (F8 rfl)<|Zv (Gi rfl)<|Zi rfl<|Zi rfl<|Zi rfl<|Zb rfl<|ct<|Zr<|Zb rfl<|ct<|ZQ rfl (λc=> ?_) λc=> ?_
 refine Zr<|Zi rfl<|ZZ rfl<|Zt<|df (v:= .int .i64 _) rfl ⟨hB,?_⟩
 exact aab c
 refine cx<|Zr<|ZZ rfl<|Zt<|df (v:= .int .i64 _) rfl ⟨hB,?_⟩
 exact Z3 a b c
theorem tR (N ba bm bz R:Nat) (ns:List Nd) (xi:Value) (li:List Int) (w:World) (hz:At w bz #[.pointer (some ⟨ba,0,none⟩)] 282) (hD:fJ 222 228 N ba bm R w ns) (hli:dp dT 1 w xi li) (hlb:li.length≤1000) (hmx:∀x,x∈li→x≤9223372036854775807):
    Fn Tryz.prog 271 #[.pointer (some ⟨bz,0,none⟩),xi] w λv w'=>v= .bool (li.all (oT ns)):=by
 refine cM (n:=20) Tryz.func271 rfl rfl rfl λhB=> ?_
 refine Zr<|Zb rfl<|ct<|Zq<|Zr<|Zp rfl<|Zv (rA rfl rfl Tryz.underlying238)<|ct<|dH rfl<|cx<|Zq<|Zr<|Zw xi rfl ?_
 refine Zv (de (v:=xi) rfl (Below.slT hB hli) cV)<|ZZ rfl<|cy ?_
 refine cY (σ:=(Nat)) [4,4,6,6,11,19] (λk=>[(11, .int .i64 (k:Int))]) (λk W=>(Below w.heap.size w W)∧(k≤li.length)∧(∀q,q<k→oT ns (li.getD q 0)=true)∧(True)) (λk=>li.length-k) (0) ⟨rfl,trivial⟩ ⟨hB,(my _),eT,trivial⟩ ?_
 rintro k f g ⟨hB,hk,hq,_⟩ h b
 refine Zr<|Zv (dq rfl rfl)<|ct<|Zq<|ZQ rfl (λc=> ?_) λc=> ?_
 refine cx<|Zq<|cy<|Zr<|Zv (dm (v:=xi) rfl (Below.slT hB hli) rfl cV Om Om)<|Zv (cD (v:= .int .i64 _) rfl cR (dp.cell (Below.slT hB hli) ez 0 Om Om 0 rfl))<|ZZ rfl ?_
 have hmk:=hmx (li.getD k 0) (dB (by omega))
 refine Zr<|Zp rfl<|Zi rfl<|ZC DM (kO _ _ _ _ _ _ _ _ (On hB hz) (fJ.below hB hD) pN) rfl λi j d e=> ?_
 replace hB:=Ze hB d
 obtain rfl:=e
 refine Zv (dq rfl rfl)<|ct<|ZQ rfl (λa=> ?_) λa=> ?_
 refine Zr<|Zb rfl<|ct<|Zt<|df (v:= .bool false) rfl ⟨hB,?_⟩
 exact Qi (k:=k) Om a
 refine cx<|ZT rfl rfl rfl ?_
 exact b _ _ (k+1) Za ⟨rfl,trivial⟩ ⟨hB,Om,(d6 hq (V3 a)),trivial⟩ Zo
 refine cT<|Zr<|Zb rfl<|ct<|Zt<|df (v:= .bool true) rfl ⟨hB,?_⟩
 exact SJ (k:=k) Om hq
theorem oB (N ba bm bz R:Nat) (ns:List Nd) (l lo hi:Nat) (w:World) (hN0:N≤w.heap.size) (hz:At w bz #[.pointer (some ⟨ba,0,none⟩)] 282) (hD:fJ 222 228 N ba bm R w ns) (hlo:lo<ns.length+2) (hhi:hi<ns.length+2) (l1:l<dV ns lo) (l2:l<dV ns hi) (h24:l<24):
    lc Tryz.prog 275 #[.pointer (some ⟨bz,0,none⟩), .int .i64 (l:Int), .int .i64 (lo:Int), .int .i64 (hi:Int)] w λv w'=>PO 222 228 N ba bm R w ns (min hi 1) (l) (up l (M ns lo) (M ns hi)) v w':=by
 refine dK (n:=23) (N:=N) Tryz.func275 rfl rfl rfl λhB=> ?_
 have hX:Dx 228 N [ba,bm] w w:=Dx.refl
 refine Zr<|Zi rfl<|ZZ rfl<|Zq<|Zr<|Zi rfl<|Zv (dJ rfl rfl)<|ct<|ZQ rfl (λa=> ?_) λa=> ?_
 refine Zr<|Zi rfl<|Zi rfl<|ZZ rfl<|Zt<|dG (v:= .int .i64 _) rfl (v1:= .int .i64 0) rfl ?_
 exact⟨ns,lo,0,rfl,hX,hD,ke.same hlo (Nat.le_of_lt l1) (Le a)⟩
 refine cx<|Zr<|Zp rfl<|Zc rfl<|Zf rfl tZ<|ZL (.pointer (some ⟨ba,0,none⟩)) rfl yC hz rfl<|Zi rfl<|Zi rfl<|Zi rfl<|ZH R7 (qT N ba bm R ns l lo hi _ hN0 hD hlo hhi Om l1 l2 h24) rfl λf g b=> ?_
 obtain⟨h,i,j,rfl,c,d,e⟩:=b
 replace hX:=Dx.trans hX (c)
 replace hD:=d
 refine Zv (cZ rfl)<|Zv (c7 rfl)<|Zi rfl<|ZZ rfl<|Zt<|dG (v:= .int .i64 _) rfl (v1:= .int .i64 _) rfl ?_
 exact⟨_,_,_,rfl,hX,hD,e.weak (show 1≤min hi 1 by omega) (λ_=>Iff.rfl)⟩
theorem m7 (N ba bm bz R:Nat) (ns:List Nd) (f l:Nat) (w:World) (hz:At w bz #[.pointer (some ⟨ba,0,none⟩)] 282) (hD:fJ 222 228 N ba bm R w ns) (hf:f<ns.length+2):
    Fn Tryz.prog 274 #[.pointer (some ⟨bz,0,none⟩), .int .i64 (f:Int), .int .i64 (l:Int)] w λv w'=>v= .tuple #[.int .i64 ((dI ns f l:Nat):Int), .int .i64 ((d8 ns f l:Nat):Int)]:=by
 refine cM (n:=32) Tryz.func274 rfl rfl rfl λhB=> ?_
 have hroom:=hD.room
 have htop:=hD.top
 refine Zr<|Zi rfl<|ZZ rfl<|Zq<|Zr<|Zp rfl<|Zc rfl<|Zf rfl tZ<|ZL (.pointer (some ⟨ba,0,none⟩)) rfl yC (On hB hz) rfl<|Zi rfl<|ZC I8 (l5 _ _ _ _ _ _ _ (fJ.below hB hD) (by omega)) rfl λe W7 c d=> ?_
 replace hB:=Ze hB c
 obtain rfl:=d
 refine Zw (.tuple #[.int .i64 _, .int .i64 _, .int .i64 _, .bool _]) rfl<|Zv (Fm rfl)<|Zv (Gs rfl)<|Zv (F8 rfl)<|Zv (Gi rfl)<|Zi rfl<|Zi rfl<|Zi rfl<|Zb rfl<|ct<|Zr<|Zb rfl<|ZX rfl (λa=> ?_) λa=> ?_
 refine Zi rfl<|Zi rfl<|Zv (dJ rfl rfl)<|Zb rfl<|ct<|ZQ rfl (λb=> ?_) λb=> ?_
 refine Zr<|Zi rfl<|Zi rfl<|Zi rfl<|ZZ rfl<|Zt<|dG (v:= .int .i64 _) rfl (v1:= .int .i64 _) rfl ⟨hB,?_⟩
 exact Z7 a b
 refine cx<|Zr<|Zi rfl<|Zi rfl<|ZZ rfl<|Zt<|dG (v:= .int .i64 _) rfl (v1:= .int .i64 0) rfl ⟨hB,?_⟩
 exact XM hf (λh=>b h.2)
 refine Zs<|Zs<|Zs<|Zb rfl<|ct<|dH rfl<|cx<|Zr<|Zi rfl<|Zi rfl<|ZZ rfl<|Zt ?_
 refine dG (v:= .int .i64 _) rfl (v1:= .int .i64 0) rfl ⟨hB,?_⟩
 exact XM hf (λh=>by rw[a]at h;cases h.1)
end
end Go.Proofs.YtedeonkjellcpaaGreatDoor
