/- Words and walks of the row. No condition. -/
import Derived.Test.YtedeonkjellcpaaGreatDoorWCover
namespace Go.Proofs.YtedeonkjellcpaaGreatDoor
open Go Go.RowKit
set_option linter.unusedVariables false
set_option linter.unusedSimpArgs false
section
theorem JW:cY Tryz.prog 232=true:=by kernel_rfl
theorem Sb:cY Tryz.prog 231=true:=by kernel_rfl
theorem vj:cY Tryz.prog 181=true:=by kernel_rfl
theorem xd:d4 Tryz.prog 3=some (.int .i64 0):=by kernel_rfl
theorem Dh:cY Tryz.prog 230=true:=by kernel_rfl
theorem Jq:cY Tryz.prog 234=true:=by kernel_rfl
theorem JZ:cY Tryz.prog 233=true:=by kernel_rfl
theorem v8 (xr:Value) (r:List Int) (c:Int) (w:World) (hr:dr dX 1 w xr r) (hrb:r.length≤9223372036854775807):
    Fn Tryz.prog 232 #[xr, .int .i64 c] w λv w'=>v= .bool (decide (c∈r)):=by
 refine cK (n:=17) Tryz.func232 rfl rfl rfl λhB=> ?_
 refine Zr<|Zb rfl<|ct<|Zq<|Zr<|Zw xr rfl<|Zv (db (v:=xr) rfl (Below.slT hB hr) cV)<|ZZ rfl<|cy ?_
 refine cW (σ:=(Nat)) [4,4,6,6,9,16] (λk=>[(9, .int .i64 (k:Int))]) (λk W=>(Below w.heap.size w W)∧(k≤r.length)∧(∀q,q<k→¬r.getD q 0=c)∧(True)) (λk=>r.length-k) (0) ⟨rfl,trivial⟩ ⟨hB,(me _),eO,trivial⟩ ?_
 rintro k g8 W7 ⟨hB,hk,hq,_⟩ J9 b
 refine Zr<|Zv (dq rfl rfl)<|ct<|Zq<|ZQ rfl (λd=> ?_) λd=> ?_
 refine cx<|Zq<|cy<|Zr<|Zv (dp (v:=xr) rfl (Below.slT hB hr) rfl cV Om Om)<|Zv (cD (v:= .int .i64 _) rfl cR (dr.cell (Below.slT hB hr) eD 0 Om Om 0 rfl))<|ZZ rfl<|Zr<|Zi rfl<|Zi rfl<|Zv (dO rfl rfl)<|ct ?_
 refine ZQ rfl (λa=> ?_) λa=> ?_
 refine Zr<|Zb rfl<|ct<|Zt<|cZ (v:= .bool true) rfl ⟨hB,?_⟩
 exact Va (k:=k) (by omega) a
 refine cx<|ZT rfl rfl rfl ?_
 exact b _ _ (k+1) Za ⟨rfl,trivial⟩ ⟨hB,Om,(dT hq a),trivial⟩ Zo
 refine cT<|Zr<|Zb rfl<|ct<|Zt<|cZ (v:= .bool false) rfl ⟨hB,?_⟩
 exact Ve (by omega) hq
theorem rh (xa xb:Value) (a b:List Int) (w:World) (ha:dr dX 1 w xa a) (hb:dr dX 1 w xb b) (hal:a.length≤9223372036854775807) (hbl:b.length≤9223372036854775807):
    Fn Tryz.prog 233 #[xa,xb] w λv w'=>v= .bool (CY a b):=by
 refine cK (n:=18) Tryz.func233 rfl rfl rfl λhB=> ?_
 refine Zr<|Zb rfl<|ct<|Zq<|Zr<|Zw xa rfl<|Zv (db (v:=xa) rfl (Below.slT hB ha) cV)<|ZZ rfl<|cy ?_
 refine cW (σ:=(Nat)) [4,4,6,6,9,17] (λk=>[(9, .int .i64 (k:Int))]) (λk W=>(Below w.heap.size w W)∧(k≤a.length)∧(∀q,q<k→(!decide (a.getD q 0∈b))=false)∧(True)) (λk=>a.length-k) (0) ⟨rfl,trivial⟩ ⟨hB,(me _),eO,trivial⟩ ?_
 rintro k g8 W7 ⟨hB,hk,hq,_⟩ J9 d
 refine Zr<|Zv (dq rfl rfl)<|ct<|Zq<|ZQ rfl (λe=> ?_) λe=> ?_
 refine cx<|Zq<|cy<|Zr<|Zv (dp (v:=xa) rfl (Below.slT hB ha) rfl cV Om Om)<|Zv (cD (v:= .int .i64 _) rfl cR (dr.cell (Below.slT hB ha) eD 0 Om Om 0 rfl))<|ZZ rfl<|Zr<|Zw xb rfl<|Zi rfl<|ZC JW (v8 _ _ _ _ (Below.slT hB hb) pr) rfl λh i f g=> ?_
 replace hB:=Ze hB f
 obtain rfl:=g
 refine Zv (eK rfl)<|ct<|ZQ rfl (λc=> ?_) λc=> ?_
 refine Zr<|Zb rfl<|ct<|Zt<|cZ (v:= .bool false) rfl ⟨hB,?_⟩
 exact Yf (k:=k) (by omega) c
 refine cx<|ZT rfl rfl rfl ?_
 exact d _ _ (k+1) Za ⟨rfl,trivial⟩ ⟨hB,Om,(dT hq c),trivial⟩ Zo
 refine cT<|Zr<|Zb rfl<|ct<|Zt<|cZ (v:= .bool true) rfl ⟨hB,?_⟩
 exact aax (by omega) hq
theorem yd (k:Int) (xr:Value) (r:List Int) (c:Int) (bx:Nat) (w:World) (hx:At w bx #[.int .i64 c] 3) (hr:dr dX 1 w xr r) (hrb:r.length≤1000000):
    Fn Tryz.prog 231 #[.int .i64 k,xr, .pointer (some ⟨bx,0,none⟩)] w λv w'=>v= .bool (!decide (c∈r)):=by
 refine cK (n:=10) Tryz.func231 rfl rfl rfl λhB=> ?_
 refine Zr<|Zb rfl<|ct<|Zr<|Zw xr rfl<|Zl rfl cR (On hB hx) rfl<|ZC JW (v8 _ _ _ _ (Below.slT hB hr) (by omega)) rfl λd W5 a b=> ?_
 replace hB:=Ze hB a
 obtain rfl:=b
 refine Zv (eK rfl)<|Zb rfl<|ct<|Zt<|cZ (v:= .bool _) rfl ⟨hB,?_⟩
 rfl
theorem rc (k:Int) (xr:Value) (i:Int) (bx:Nat) (w:World) (hx:At w bx #[.int .i64 i] 3):
    Fn Tryz.prog 234 #[.int .i64 k,xr, .pointer (some ⟨bx,0,none⟩)] w λv w'=>v= .bool (decide (¬k=i)):=by
 refine cK (n:=9) Tryz.func234 rfl rfl rfl λhB=> ?_
 refine Zr<|Zb rfl<|ct<|Zr<|Zi rfl<|Zl rfl cR (On hB hx) rfl<|Zv (eV rfl rfl)<|Zb rfl<|ct<|Zt<|cZ (v:= .bool _) rfl ⟨hB,?_⟩
 rfl
theorem pi (n:Int) (rv:Value) (vs:List Value) (L:ML) (q bx:Nat) (p:Nat→Bool) (w:World) (hrv:cH encV 1 35 w 0 rv vs) (hLO:LO 3 0 w vs L) (hLb:L.length≤1000000) (hq:cY Tryz.prog q=true) (hdo:∀(k:Nat) (xr:Value) (W:World),k<L.length→Below w.heap.size w W→dr dX 1 W xr (L.getD k [])→Fn Tryz.prog q #[.int .i64 (k:Int),xr, .pointer (some ⟨bx,0,none⟩)] W λv w'=>v= .bool (p k)):
    Fn Tryz.prog 230 #[.agg #[.int .i64 n,rv], .func (.func q) #[] #[.pointer (some ⟨bx,0,none⟩)]] w λv w'=>∃rv',v= .agg #[.int .i64 n,rv']∧cH encV 1 35 w' w.heap.size rv' (ut undef p vs L.length):=by
 refine cK (n:=31) Tryz.func230 rfl rfl rfl λhB=> ?_
 have hll:=hLO.ll
 have hvl:=hll.len
 refine Zr<|Zy (du (c:= #[_,_]) rfl rfl λE W3 U F a=> ?_)
 replace hB:=Ze hB F
 refine Zy (cM gv rfl λG W6 H I d=> ?_)
 have J:=ZO H hB
 obtain⟨hB,a⟩:=I.k2 hB a
 refine ct<|Zr<|Zf rfl iA<|Zl rfl cR a rfl<|Zv (kw (h0:=rfl) (k0:=rfl) (c0_0:= .int .i64 _))<|Zy (cM gv rfl λK V l M f=> ?_)
 have t:=ZO l hB
 have y:=Zn l a.lt
 have z:=Zn l d.lt
 obtain⟨hB,a,d⟩:=M.k3 hB a d
 refine Zy (cA rfl rfl df rfl f rfl rfl λX m N=> ?_)
 replace hB:=Zg hB m t
 replace a:=At.grownNe a y m
 replace d:=At.grownNe d z m
 replace f:=N
 refine ct<|Zq<|Zr<|Zf rfl dU<|ZL rv rfl eM a rfl<|Zv (db (v:=rv) rfl ((Below.ow hB hrv)).sl dG)<|ZZ rfl<|cy ?_
 refine cW (σ:=(Nat)×(Value)) [6,7,14,29] (λ(k,v0)=>[(14, .int .i64 (k:Int))]) (λsg W=>match sg with|(k,v0)=>(Below w.heap.size w W)∧(At W E _ 203)∧(At W G _ 203)∧(At W K #[.int .i64 n,v0] 203)∧(cH encV 1 35 W w.heap.size v0 (ut undef p vs k))∧(k≤L.length)∧(True)) (λ(k,v0)=>L.length-k) ((0, .slice none 0 0)) ⟨rfl,trivial⟩ ⟨hB,a,d,f,cH.nil,(me _),trivial⟩ ?_
 rintro⟨k,v0⟩ Y Z ⟨hB,a,d,f,ho,hk,_⟩ aa A
 refine Zr<|Zv (dq rfl rfl)<|ct<|Zq<|ZQ rfl (λO=> ?_) λO=> ?_
 refine cx<|Zq<|cy<|Zr<|Zi rfl<|Zv (dp (v:=rv) rfl ((Below.ow hB hrv)).sl rfl dG Om Om)<|Zv (cD (v:=(vs.getD k undef)) rfl fv (dr.cell ((Below.ow hB hrv)).sl fZ undef Om Om 0 rfl)) ?_
 have h:dr dX 1 w ((vs.getD k undef)) (L.getD k []):=hll.get k (by omega)
 refine Zi rfl<|Zw (vs.getD k undef) rfl<|ct ?_
 have hkl:=Ev undef p vs k
 refine Zr<|Zw (.func (.func q) #[] #[.pointer (some ⟨bx,0,none⟩)]) rfl<|Zi rfl<|Zw (vs.getD k undef) rfl ?_
 refine oM (dd:=some 22) rfl rfl rfl (iu (q:=q) (first:= #[]) (cap:= #[.pointer (some ⟨bx,0,none⟩)]) (vs:= #[.int .i64 _,(vs.getD k undef), .pointer (some ⟨bx,0,none⟩)]) rfl hq Hh) (hdo k _ _ Om hB (Below.slT hB h)) (λab ac P Q=> ?_)
 obtain⟨hB,a,d,f,ho⟩:=P.k5 hB a d f ho
 obtain rfl:=Q
 refine ct<|ZQ rfl (λo=> ?_) λo=> ?_
 refine cI<|Zf rfl dU<|ZL v0 rfl eM f rfl<|Zw (vs.getD k undef) rfl<|Zy (ez (u:=(vs.getD k undef)) rfl dG jJ (by rw[dr.cells (Below.slT hB h)];rfl) Dd Dd λr ad s R B=> ?_)
 have ae:=ZO s hB
 have af:=acm (b:=r) (Below.ow hB hrv) (aaR s.symm)
 have ag:=acm (b:=r) ho (aaR s.symm)
 obtain⟨hB,a,d,f,ho⟩:=R.k5 hB a d f ho
 rw[dr.cells (Below.slT hB h)]at B
 refine Zy (dP (v:=v0) (v2:= .slice (some ⟨r,0,none⟩) 1 1) rfl rfl dG jJ Dd ho (eJ B rfl) (by simp only[acL,adj,dr.one (Below.slT hB h),acx]) (m3 hB) (by omega) (by omega) λC ah i g=> ?_)
 replace g:=cH.snoc (enc:=encV) (x:=(vs.getD k undef)) rfl rfl rfl rfl g
 replace hB:=ZG hB i ho
 replace a:=At.grownOw a ho i Dd
 replace d:=At.grownOw d ho i Dd
 replace f:=At.grownOw f ho i Dd
 refine Zf rfl dU<|Zy (de (v:=C) rfl rfl eM (dr.one g.sl) f fF λai j S=> ?_)
 replace hB:=Zg hB j t
 replace a:=At.grownNe a y j
 replace d:=At.grownNe d z j
 replace g:=cH.grownAt g f j Dd
 replace f:=S
 replace f:At _ _ #[_,_] _:=f
 refine ct<|ZT rfl rfl rfl ?_
 exact A _ _ ((k+1,C)) Za ⟨rfl,trivial⟩ ⟨hB,a,d,(by exact f),(by (rw[←UA o];exact g)),Om,trivial⟩ (by show L.length-(k+1)<L.length-k;omega)
 refine cx<|ZT rfl rfl rfl ?_
 exact A _ _ ((k+1,v0)) Za ⟨rfl,trivial⟩ ⟨hB,a,d,(by exact f),(by (rw[←UP o];exact ho)),Om,trivial⟩ (by show L.length-(k+1)<L.length-k;omega)
 refine cT<|Zr<|Zv (cz rfl df rfl f)<|Zy (cA rfl rfl df rfl d rfl (by exact iO (cH.one ho)) λaj D T=> ?_)
 replace hB:=Zg hB D J
 replace ho:=cH.grownAt ho d D Dd
 replace d:=T
 refine ct<|Zt<|jp rfl df d rfl ⟨hB,?_⟩
 exact⟨_,rfl,(by have e:k=L.length:=Om;rw[e]at ho;exact ho)⟩
theorem Bt (n:Int) (rv:Value) (vs:List Value) (L:ML) (w:World) (hrv:cH encV 1 35 w 0 rv vs) (hLO:LO 3 0 w vs L) (hr:dR n L=true) (hLb:L.length≤1000000):
    Fn Tryz.prog 183 #[.agg #[.int .i64 n,rv]] w λv w'=>∃rv' vs' L' c b,v= .tuple #[.agg #[.int .i64 n,rv'], .int .i64 c, .bool b]∧cH encV 1 35 w' 0 rv' vs'∧LO 3 0 w' vs' L'∧Zz L L' c b:=by
 refine cK (n:=31) Tryz.func183 rfl rfl rfl λhB=> ?_
 have hll:=hLO.ll
 have hvl:=hll.len
 refine Zr<|Zy (du (c:= #[_,_]) rfl rfl λu W3 S x e=> ?_)
 replace hB:=Ze hB x
 refine Zy (cM gv rfl λg W6 q y d=> ?_)
 have r:=ZO q hB
 have z:=Zn q e.lt
 obtain⟨hB,e⟩:=y.k2 hB e
 refine Zi rfl<|Zb rfl<|ct<|Zq<|Zr<|Zv (cz rfl df rfl e)<|ZC (vs:=[.agg #[_,_]]) vj (kr n _ _ L _ ((Below.ow hB hrv)).sl (LO.mono (LO.below hB hLO) (me _)).ll hLb (λi=>go (fP hr i) Dd)) rfl λT U A B=> ?_
 obtain⟨hB,e,d⟩:=A.k3 hB e d
 obtain rfl:=B
 refine Zv (eK rfl)<|ct<|ZQ rfl (λs=> ?_) λs=> ?_
 exact absurd (kh s) (by rw[hr];decide)
 refine cx<|Zq<|Zr<|Zf rfl dU<|ZL rv rfl eM e rfl<|Zv (db (v:=rv) rfl ((Below.ow hB hrv)).sl dG)<|ZZ rfl<|cy ?_
 refine cW (σ:=(Nat)) [3,4,6,7,15,29] (λk0=>[(15, .int .i64 (k0:Int))]) (λk0 W=>(Below w.heap.size w W)∧(At W u _ 203)∧(At W g _ 203)∧(k0≤L.length)∧(True)) (λk0=>L.length-k0) (0) ⟨rfl,trivial⟩ ⟨hB,e,d,(me _),trivial⟩ ?_
 rintro k0 V X ⟨hB,e,d,hk,_⟩ Y C
 refine Zr<|Zv (dq rfl rfl)<|ct<|Zq<|ZQ rfl (λD=> ?_) λD=> ?_
 refine cx<|Zq<|cy<|Zr<|Zv (dp (v:=rv) rfl ((Below.ow hB hrv)).sl rfl dG Om Om)<|Zv (cD (v:=(vs.getD k0 undef)) rfl fv (dr.cell ((Below.ow hB hrv)).sl fZ undef Om Om 0 rfl)) ?_
 have l:dr dX 1 w ((vs.getD k0 undef)) (L.getD k0 []):=hll.get k0 (by omega)
 refine Zw (vs.getD k0 undef) rfl<|ct<|Zr<|Zw (vs.getD k0 undef) rfl<|Zv (db (v:=(vs.getD k0 undef)) rfl (Below.slT hB l) cV)<|Zv (dO rfl rfl)<|ct<|ZQ rfl (λt=> ?_) λt=> ?_
 refine Zr<|Zw (vs.getD k0 undef) rfl<|Zv (dp (j:=0) (v:=(vs.getD k0 undef)) rfl (Below.slT hB l) rfl cV Om Om)<|Zv (cD (v:= .int .i64 _) rfl cR (dr.cell (j:=0) (Below.slT hB l) eD 0 Om Om 0 rfl))<|Zy (cM xd rfl λm Z E F f=> ?_)
 have G:=ZO E hB
 obtain⟨hB,e,d⟩:=F.k3 hB e d
 refine Zy (de (v:= .int .i64 _) rfl rfl cR rfl f Dd λaa o H=> ?_)
 replace hB:=Zg hB o G
 replace e:=At.grownAt e f o Dd
 replace d:=At.grownAt d f o Dd
 replace f:=H
 replace f:At _ _ #[_] _:=f
 refine ct<|Zd (λa b=>a.grownBy b (some g)) λI J=> ?_
 obtain⟨hB,e,d,f⟩:=J.k4 hB e d f
 have K:=d
 have hS:=World.grownBy.refl I (some g)
 refine Tk 0 rfl (λ_ hq=>cz rfl df rfl (At.grownNe e z hq)) hS<|Tk 1 rfl (λ_ _=>eU (vs:= #[.pointer (some ⟨m,0,none⟩)]) Bi) hS<|Tk 3 rfl (λ_ hq=>cD (v:= .int .i64 _) rfl cR (At.cell (At.grownAt f K hq Dd) rfl)) hS<|To 2 rfl (TC (vs:=[.agg #[_,_], .func (.func 231) #[] #[.pointer (some ⟨m,0,none⟩)]]) Dh (pi n _ vs L 231 m (λk=> !decide (((L.getD k0 []).getD 0 0)∈L.getD k [])) _ (cH.mono (Below.ow hB hrv) (me _)) (LO.mono (LO.below hB hLO) (me _)) hLb Sb (λk2 xr W h2 hB2 M=>yd _ _ _ _ _ _ (On hB2 f) M (by have:=fP hr k2;omega))) rfl λab ac p N=>⟨.inl (cB hS (dA.grown p (some g))),?_⟩)
 have O:=(Below.size hB)
 obtain⟨hB,d⟩:=p.k2 hB d
 replace hS:=cB hS (dA.grown p (some g))
 obtain⟨rv8_2,rfl,hk8_2⟩:=N
 replace hk8_2:=cH.mono hk8_2 O
 refine To 4 rfl (cA rfl rfl df rfl d rfl (by exact iO (cH.one hk8_2)) λad h P=>⟨.inl (cB hS h),?_⟩)
 replace hS:=cB hS h
 replace hB:=Zg hB h r
 replace hk8_2:=cH.grownAt hk8_2 d h Dd
 replace d:=P
 refine Ti 5 rfl rfl hS<|Ty 6 rfl rfl hS<|Td<|Zt<|jM rfl df d rfl (v1:= .int .i64 _) rfl (v2:= .bool true) rfl ⟨hB,?_⟩
 exact⟨_,_,_,_,_,rfl,cH.mono hk8_2 (me _),LO.below hB (adY hLO (λk=> !decide (((L.getD k0 []).getD 0 0)∈L.getD k [])) _ (am _)),abw (k:=k0) (by omega) t rfl⟩
 refine cx<|ZT rfl rfl rfl ?_
 exact C _ _ (k0+1) Za ⟨rfl,trivial⟩ ⟨hB,e,d,Om,trivial⟩ Zo
 refine cT<|Zr<|Zv (cz rfl df rfl e)<|Zy (cA rfl rfl df rfl d rfl (by exact iO (cH.one hrv)) λae Q R=> ?_)
 replace hB:=Zg hB Q r
 replace d:=R
 refine Zi rfl<|Zb rfl<|ct<|Zt<|jM rfl df d rfl (v1:= .int .i64 0) rfl (v2:= .bool false) rfl ⟨hB,?_⟩
 exact⟨_,_,_,_,_,rfl,Below.ow hB hrv,LO.below hB hLO,abC L⟩
theorem Bv (n:Int) (rv:Value) (vs:List Value) (L:ML) (w:World) (hrv:cH encV 1 35 w 0 rv vs) (hLO:LO 3 0 w vs L) (hr:dR n L=true) (hLb:L.length≤1000000):
    Fn Tryz.prog 185 #[.agg #[.int .i64 n,rv]] w λv w'=>∃rv' vs' L' b,v= .tuple #[.agg #[.int .i64 n,rv'], .bool b]∧cH encV 1 35 w' 0 rv' vs'∧LO 3 0 w' vs' L'∧XV L L' b:=by
 refine cK (n:=54) Tryz.func185 rfl rfl rfl λhB=> ?_
 have hll:=hLO.ll
 have hvl:=hll.len
 refine Zr<|Zy (du (c:= #[_,_]) rfl rfl λp W3 aa y d=> ?_)
 replace hB:=Ze hB y
 refine Zy (cM gv rfl λq W6 z A a=> ?_)
 have g:=ZO z hB
 obtain⟨hB,d⟩:=A.k2 hB d
 refine Zb rfl<|ct<|Zq<|Zr<|Zv (cz rfl df rfl d)<|ZC (vs:=[.agg #[_,_]]) vj (kr n _ _ L _ ((Below.ow hB hrv)).sl (LO.mono (LO.below hB hLO) (me _)).ll hLb (λi=>go (fP hr i) Dd)) rfl λab ac B C=> ?_
 obtain⟨hB,d,a⟩:=B.k3 hB d a
 obtain rfl:=C
 refine Zv (eK rfl)<|ct<|ZQ rfl (λr=> ?_) λr=> ?_
 exact absurd (kh r) (by rw[hr];decide)
 refine cx<|Zq<|Zr<|Zf rfl dU<|ZL rv rfl eM d rfl<|Zv (db (v:=rv) rfl ((Below.ow hB hrv)).sl dG)<|ZZ rfl<|cy ?_
 refine cW (σ:=(Nat)) [3,7,15,52] (λi=>[(15, .int .i64 (i:Int))]) (λi W=>(Below w.heap.size w W)∧(At W p _ 203)∧(At W q _ 203)∧(i≤L.length)∧(True)) (λi=>L.length-i) (0) ⟨rfl,trivial⟩ ⟨hB,d,a,(me _),trivial⟩ ?_
 rintro i ad ae ⟨hB,d,a,hi,_⟩ af D
 refine Zr<|Zv (dq rfl rfl)<|ct<|Zq<|ZQ rfl (λE=> ?_) λE=> ?_
 refine cx<|Zq<|cy<|Zr<|Zi rfl<|Zv (dp (v:=rv) rfl ((Below.ow hB hrv)).sl rfl dG Om Om)<|Zv (cD (v:=(vs.getD i undef)) rfl fv (dr.cell ((Below.ow hB hrv)).sl fZ undef Om Om 0 rfl)) ?_
 have s:dr dX 1 w ((vs.getD i undef)) (L.getD i []):=hll.get i (by omega)
 refine Zy (cM xd rfl λf ag F G e=> ?_)
 have H:=ZO F hB
 obtain⟨hB,d,a⟩:=G.k3 hB d a
 refine Zy (de (v:= .int .i64 _) rfl rfl cR rfl e Dd λah h I=> ?_)
 replace hB:=Zg hB h H
 replace d:=At.grownAt d e h Dd
 replace a:=At.grownAt a e h Dd
 replace e:=I
 replace e:At _ _ #[_] _:=e
 refine Zw (vs.getD i undef) rfl<|ct<|Zr<|Zf rfl dU<|ZL rv rfl eM d rfl<|Zv (db (v:=rv) rfl ((Below.ow hB hrv)).sl dG)<|ZZ rfl<|cy ?_
 refine cW (σ:=(Nat)) [3,3,6,7,23,51] (λk=>[(23, .int .i64 (k:Int))]) (λk W=>(Below w.heap.size w W)∧(At W p _ 203)∧(At W q _ 203)∧(At W f _ 3)∧(k≤L.length)∧(True)) (λk=>L.length-k) (0) ⟨rfl,trivial⟩ ⟨hB,d,a,e,(me _),trivial⟩ ?_
 rintro k ai aj ⟨hB,d,a,e,hk,_⟩ ak j
 refine Zr<|Zv (dq rfl rfl)<|ct<|Zq<|ZQ rfl (λJ=> ?_) λJ=> ?_
 refine cx<|Zq<|cy<|Zr<|Zi rfl<|Zv (dp (v:=rv) rfl ((Below.ow hB hrv)).sl rfl dG Om Om)<|Zv (cD (v:=(vs.getD k undef)) rfl fv (dr.cell ((Below.ow hB hrv)).sl fZ undef Om Om 0 rfl)) ?_
 have t:dr dX 1 w ((vs.getD k undef)) (L.getD k []):=hll.get k (by omega)
 refine Zi rfl<|Zw (vs.getD k undef) rfl<|ct<|Zr<|Zi rfl<|Zl rfl cR e rfl<|Zv (eV rfl rfl)<|ZX rfl (λl=> ?_) λl=> ?_
 refine Zw (vs.getD k undef) rfl<|Zw (vs.getD i undef) rfl<|ZC JZ (rh _ _ _ _ _ (Below.slT hB t) (Below.slT hB s) (by have:=fP hr k;omega) (by have:=fP hr i;omega)) rfl λal ao K M=> ?_
 obtain⟨hB,d,a,e⟩:=K.k4 hB d a e
 obtain rfl:=M
 refine Zb rfl<|ZX rfl (λm=> ?_) λm=> ?_
 refine Zw (vs.getD k undef) rfl<|Zv (db (v:=(vs.getD k undef)) rfl (Below.slT hB t) cV)<|Zw (vs.getD i undef) rfl<|Zv (db (v:=(vs.getD i undef)) rfl (Below.slT hB s) cV)<|Zv (dq rfl rfl)<|ZX rfl (λN=> ?_) λN=> ?_
 refine Zs<|Zs<|Zs<|Zb rfl<|Zb rfl<|ct<|cN rfl<|Zr<|Zv (cz rfl df rfl d)<|Zv (eU (vs:= #[.pointer (some ⟨f,0,none⟩)]) Bi)<|ZC (vs:=[.agg #[_,_], .func (.func 234) #[] #[.pointer (some ⟨f,0,none⟩)]]) Dh (pi n _ vs L 234 f (λk=>decide (¬(k:Int)=(i:Int))) _ (cH.mono (Below.ow hB hrv) (me _)) (LO.mono (LO.below hB hLO) (me _)) hLb Jq (λk2 xr W h2 hB2 O=>rc _ _ _ _ _ (On hB2 e))) rfl λP ap Q o=> ?_
 have R:=(Below.size hB)
 obtain⟨hB,a⟩:=Q.k2 hB a
 obtain⟨rv10_2,rfl,hk10_2⟩:=o
 replace hk10_2:=cH.mono hk10_2 R
 refine Zy (cA rfl rfl df rfl a rfl (by exact iO (cH.one hk10_2)) λaq u S=> ?_)
 replace hB:=Zg hB u g
 replace hk10_2:=cH.grownAt hk10_2 a u Dd
 replace a:=S
 refine Zb rfl<|ct<|Zt<|ex rfl df a rfl (v1:= .bool true) rfl ⟨hB,?_⟩
 exact⟨_,_,_,_,rfl,cH.mono hk10_2 (me _),LO.below hB (adY hLO (λk=>decide (¬(k:Int)=(i:Int))) _ (am _)),JM (i:=i) (k:=k) (by omega) (by omega) l m⟩
 refine Zi rfl<|Zl rfl cR e rfl<|Zv (dq rfl rfl)<|Zb rfl<|Zb rfl<|ct<|ZQ rfl (λT=> ?_) λT=> ?_
 refine Zr<|Zv (cz rfl df rfl d)<|Zv (eU (vs:= #[.pointer (some ⟨f,0,none⟩)]) Bi)<|ZC (vs:=[.agg #[_,_], .func (.func 234) #[] #[.pointer (some ⟨f,0,none⟩)]]) Dh (pi n _ vs L 234 f (λk=>decide (¬(k:Int)=(i:Int))) _ (cH.mono (Below.ow hB hrv) (me _)) (LO.mono (LO.below hB hLO) (me _)) hLb Jq (λk2 xr W h2 hB2 O=>rc _ _ _ _ _ (On hB2 e))) rfl λP ar U o=> ?_
 have V:=(Below.size hB)
 obtain⟨hB,a⟩:=U.k2 hB a
 obtain⟨rv10_2,rfl,hk10_2⟩:=o
 replace hk10_2:=cH.mono hk10_2 V
 refine Zy (cA rfl rfl df rfl a rfl (by exact iO (cH.one hk10_2)) λau x X=> ?_)
 replace hB:=Zg hB x g
 replace hk10_2:=cH.grownAt hk10_2 a x Dd
 replace a:=X
 refine Zb rfl<|ct<|Zt<|ex rfl df a rfl (v1:= .bool true) rfl ⟨hB,?_⟩
 exact⟨_,_,_,_,rfl,cH.mono hk10_2 (me _),LO.below hB (adY hLO (λk=>decide (¬(k:Int)=(i:Int))) _ (am _)),JM (i:=i) (k:=k) (by omega) (by omega) l m⟩
 refine cx<|ZT rfl rfl rfl ?_
 exact j _ _ (k+1) Za ⟨rfl,trivial⟩ ⟨hB,d,a,e,Om,trivial⟩ Zo
 refine Zs<|Zs<|Zs<|Zs<|Zs<|Zs<|Zs<|Zs<|Zs<|Zs<|Zb rfl<|ct<|dE rfl<|cx ?_
 refine ZT rfl rfl rfl ?_
 exact j _ _ (k+1) Za ⟨rfl,trivial⟩ ⟨hB,d,a,e,Om,trivial⟩ Zo
 refine Zs<|Zs<|Zs<|Zb rfl<|Zb rfl<|Zs<|Zs<|Zs<|Zs<|Zs<|Zs<|Zs<|Zs<|Zs ?_
 refine Zs<|Zb rfl<|ct<|dE rfl<|cx<|ZT rfl rfl rfl ?_
 exact j _ _ (k+1) Za ⟨rfl,trivial⟩ ⟨hB,d,a,e,Om,trivial⟩ Zo
 refine cT<|ZT rfl rfl rfl ?_
 exact D _ _ (i+1) Za ⟨rfl,trivial⟩ ⟨hB,d,a,Om,trivial⟩ Zo
 refine cT<|Zr<|Zv (cz rfl df rfl d)<|Zy (cA rfl rfl df rfl a rfl (by exact iO (cH.one hrv)) λav Y Z=> ?_)
 replace hB:=Zg hB Y g
 replace a:=Z
 refine Zb rfl<|ct<|Zt<|ex rfl df a rfl (v1:= .bool false) rfl ⟨hB,?_⟩
 exact⟨_,_,_,_,rfl,Below.ow hB hrv,LO.below hB hLO,Ys L⟩
end
section
theorem mG:na Tryz.prog 295=some (3,35):=by kernel_rfl
theorem gY:qV Tryz.prog 3 (λv=>∃a:Int,v=eQ a):=by
  refine pD Tryz.underlying3 ?_ ?_ ?_ ?_
  · rintro w _ _ ⟨a,rfl⟩ ⟨c,rfl⟩
    refine⟨a==c,?_,by simp[eQ]⟩
    simp[Op.equal,eQ]
    exact run_equalIn_int w 9999 3 .i64 .i64 a c Tryz.underlying3
  · rintro _ _ ⟨a,rfl⟩ ⟨c,rfl⟩
    exact .inr ⟨a==c,by simp[Instr.sameNow,eQ],by simp[eQ]⟩
  · rintro w em _ ⟨a,rfl⟩
    have h2:∀k,(Instr.checkKey em (k+1) 3 (eQ a)).run Tryz.prog w= .ok () w:=λk=>by
      simp[eQ,Instr.checkKey,run_underlying Tryz.underlying3]
    exact h2 9999
  · rintro _ ⟨a,rfl⟩
    simp[eQ,Instr.sameBits]
theorem uw:d4 Tryz.prog 35=some (.slice none 0 0):=by kernel_rfl
set_option maxHeartbeats 2000000 in
theorem wF (n:Int) (rv:Value) (vs:List Value) (L:ML) (w:World) (hrv:cH encV 1 35 w 0 rv vs) (hLO:LO 3 0 w vs L) (hr:dR n L=true) (hLb:L.length≤1000000):
    Fn Tryz.prog 187 #[.agg #[.int .i64 n,rv]] w λv w'=>∃rv' vs' L' b,v= .tuple #[.agg #[.int .i64 n,rv'], .bool b]∧cH encV 1 35 w' 0 rv' vs'∧LO 3 0 w' vs' L'∧XV L L' b:=by
 refine cK (n:=135) Tryz.func187 rfl rfl rfl λhB=> ?_
 have hll:=hLO.ll
 have hvl:=hll.len
 refine Zr<|Zy (du (c:= #[_,_]) rfl rfl λo W3 a0 aj d=> ?_)
 replace hB:=Ze hB aj
 refine Zy (cM gv rfl λp W6 ak al f=> ?_)
 have U:=ZO ak hB
 obtain⟨hB,d⟩:=al.k2 hB d
 refine Zb rfl<|ct<|Zq<|Zr<|Zv (cz rfl df rfl d)<|ZC (vs:=[.agg #[_,_]]) vj (kr n _ _ L _ ((Below.ow hB hrv)).sl (LO.mono (LO.below hB hLO) (me _)).ll hLb (λi=>go (fP hr i) Dd)) rfl λa1 a2 ao ap=> ?_
 obtain⟨hB,d,f⟩:=ao.k3 hB d f
 obtain rfl:=ap
 refine Zv (eK rfl)<|ct<|ZQ rfl (λV=> ?_) λV=> ?_
 exact absurd (kh V) (by rw[hr];decide)
 refine cx<|Zr<|Zy (hU (enc:=eQ) (encV:=id) λm a3 aq ar au=> ?_)
 have av:=ZO aq hB
 obtain⟨hB,d,f⟩:=ar.k3 hB d f
 refine Zw (.map (some m)) rfl<|ct<|Zq<|Zr<|Zf rfl dU<|ZL rv rfl eM d rfl<|Zv (db (v:=rv) rfl ((Below.ow hB hrv)).sl dG)<|ZZ rfl<|cy ?_
 refine cW (σ:=(Nat)×(List (Int×Value))) [5,6,8,8,26,46] (λ(i,l)=>[(26, .int .i64 (i:Int))]) (λsg W=>match sg with|(i,l)=>(Below w.heap.size w W)∧(At W o _ 203)∧(At W p _ 203)∧(dy eQ id W m l)∧(MO 3 w.heap.size W l (pP L i))∧(i≤L.length)∧(True)) (λ(i,l)=>L.length-i) ((0,[])) ⟨rfl,trivial⟩ ⟨hB,d,f,au,MO.nil,(me _),trivial⟩ ?_
 rintro⟨i,l⟩ a4 a5 ⟨hB,d,f,hmw,hmo,hi,_⟩ a6 aw
 refine Zr<|Zv (dq rfl rfl)<|ct<|Zq<|ZQ rfl (λax=> ?_) λax=> ?_
 refine cx<|Zq<|cy<|Zr<|Zi rfl<|Zv (dp (v:=rv) rfl ((Below.ow hB hrv)).sl rfl dG Om Om)<|Zv (cD (v:=(vs.getD i undef)) rfl fv (dr.cell ((Below.ow hB hrv)).sl fZ undef Om Om 0 rfl)) ?_
 have D:dr dX 1 w ((vs.getD i undef)) (L.getD i []):=hll.get i (by omega)
 refine Zi rfl<|Zw (vs.getD i undef) rfl<|ct<|Zr<|Zw (vs.getD i undef) rfl<|Zv (db (v:=(vs.getD i undef)) rfl (Below.slT hB D) cV)<|ZZ rfl<|cy ?_
 refine cW (σ:=(Nat)×(List (Int×Value))) [8,8,33,45] (λ(j,l2)=>[(33, .int .i64 (j:Int))]) (λsg W=>match sg with|(j,l2)=>(Below w.heap.size w W)∧(At W o _ 203)∧(At W p _ 203)∧(dy eQ id W m l2)∧(MO 3 w.heap.size W l2 (UG (L.getD i []) i (pP L i) j))∧(j≤(L.getD i []).length)∧(True)) (λ(j,l2)=>(L.getD i []).length-j) ((0,l)) ⟨rfl,trivial⟩ ⟨hB,d,f,hmw,hmo,(me _),trivial⟩ ?_
 rintro⟨j,l2⟩ a7 a8 ⟨hB,d,f,hmw2,hmo2,hj,_⟩ a9 ay
 refine Zr<|Zv (dq rfl rfl)<|ct<|Zq<|ZQ rfl (λaz=> ?_) λaz=> ?_
 refine cx<|Zq<|cy<|Zr<|Zv (dp (v:=(vs.getD i undef)) rfl (Below.slT hB D) rfl cV Om Om)<|Zv (cD (v:= .int .i64 _) rfl cR (dr.cell (Below.slT hB D) eD 0 Om Om 0 rfl))<|ZZ rfl ?_
 have hov:=MO.get hmo2 ((L.getD i []).getD j 0)
 have hwl1:=Da (r:=L.getD i []) (i:=i) (g:=pP L i) (c:=((L.getD i []).getD j 0)) j
 have hwl2:=yT (c:=((L.getD i []).getD j 0)) (fP hr) i
 have hwl3:=fP hr i
 refine cI<|Zw (.map (some m)) rfl<|Zi rfl<|Zw (.map (some m)) rfl<|Zi rfl<|Zv (fX (enc:=eQ) (encV:=id) (v0:= .slice none 0 0) (k:=((L.getD i []).getD j 0)) rfl rfl mG gY (λa=>⟨a,rfl⟩) fV uw rfl hmw2)<|Zi rfl<|Zy (ez (u:= .int .i64 _) rfl cV eP rfl Dd Dd λaA ba bb E aB=> ?_)
 obtain⟨hB,d,f,hmw2⟩:=E.k4 hB d f hmw2
 replace hmo2:=MO.ext E hmo2
 replace hov:=E.ow hov
 refine Zy (jh (v:=(MI l2 ((L.getD i []).getD j 0))) (v2:= .slice (some ⟨aA,0,none⟩) 1 1) rfl rfl cV eP Dd hov (eJ aB rfl) rfl (m3 hB) (by omega) (by omega) λX bc z F aC=> ?_)
 replace F:=cH.snoc (enc:=dX) (x:=(i:Int)) rfl rfl rfl rfl F
 replace hB:=ZG hB z hov
 replace d:=At.grownOw d hov z Dd
 replace f:=At.grownOw f hov z Dd
 replace hmw2:=dy.grownOw hmw2 hov z
 replace hmo2:=MO.app hmo2 z aC F
 refine gU (dd:=none) rfl rfl rfl (fN (enc:=eQ) (encV:=id) (k:=((L.getD i []).getD j 0)) (v:=X) rfl rfl rfl mG gY (λa=>⟨a,rfl⟩) fV hmw2 (λbd B aD=> ?_))
 replace hB:=Zg hB B av
 replace d:=At.grownMap d hmw2 B
 replace f:=At.grownMap f hmw2 B
 replace hmo2:=MO.grownMap hmo2 hmw2 B
 replace hmw2:=aD
 refine ct<|ZT rfl rfl rfl ?_
 exact ay _ _ ((j+1,iM l2 ((L.getD i []).getD j 0) X)) Za ⟨rfl,trivial⟩ ⟨hB,d,f,(by exact hmw2),hmo2,Om,trivial⟩ (by show (L.getD i []).length-(j+1)<(L.getD i []).length-j;omega)
 refine cT<|ZT rfl rfl rfl ?_
 obtain rfl:j=(L.getD i []).length:=by omega
 exact aw _ _ ((i+1,l2)) Za ⟨rfl,trivial⟩ ⟨hB,d,f,(by exact hmw2),hmo2,Om,trivial⟩ (by show L.length-(i+1)<L.length-i;omega)
 refine cT<|Zq ?_
 obtain rfl:i=L.length:=by omega
 have hn0:=(fz.1 hr).1
 have hn4:=(fz.1 hr).2.1
 refine Zr<|Zf rfl iA<|Zl rfl cR d rfl<|ZZ rfl<|cy ?_
 refine cW (σ:=(Nat)) [3,3,9,9,11,12,14,15,17,17,49,133] (λcc=>[(49, .int .i64 (cc:Int))]) (λcc W=>(Below w.heap.size w W)∧(At W o _ 203)∧(At W p _ 203)∧(dy eQ id W m _)∧(MO 3 w.heap.size W l (pP L L.length))∧((cc:Int)≤n)∧(True)) (λcc=>n.toNat-cc) (0) ⟨rfl,trivial⟩ ⟨hB,d,f,hmw,hmo,Om,trivial⟩ ?_
 rintro cc bf bg ⟨hB,d,f,hmw,hmo,hcc,_⟩ bh Y
 refine Zr<|Zv (dq rfl rfl)<|ct<|Zq<|ZQ rfl (λaE=> ?_) λaE=> ?_
 refine cx<|Zq<|cy<|Zr<|Zi rfl<|ZZ rfl<|Zq ?_
 have hw16:=MO.get hmo (cc:Int)
 refine Zr<|Zw (.map (some m)) rfl<|Zi rfl<|Zv (fX (enc:=eQ) (encV:=id) (v0:= .slice none 0 0) (k:=(cc:Int)) rfl rfl mG gY (λa=>⟨a,rfl⟩) fV uw rfl hmw)<|Zv (db (v:=(MI l (cc:Int))) rfl hw16.sl cV)<|Zv (dO rfl rfl)<|ct<|ZQ rfl (λZ=> ?_) λZ=> ?_
 refine cT<|ZT rfl rfl rfl ?_
 exact Y _ _ (cc+1) Za ⟨rfl,trivial⟩ ⟨hB,d,f,hmw,hmo,Om,trivial⟩ Zo
 refine cx ?_
 have hlim:0≤(pP L L.length (cc:Int)).getD (0:Int).toNat 0∧(pP L L.length (cc:Int)).getD (0:Int).toNat 0<L.length∧(cc:Int)∈L.getD ((pP L L.length (cc:Int)).getD (0:Int).toNat 0).toNat []:=JD (q:=0) (by omega)
 have hl0:=fP hr ((pP L L.length (cc:Int)).getD (0:Int).toNat 0).toNat
 refine Zd dA λaF G=> ?_
 obtain⟨hB,d,f,hmw⟩:=G.k4 hB d f hmw
 replace hmo:=MO.ext G hmo
 replace hw16:=G.ow hw16
 have hS:=dA.refl aF
 refine Tf 0 rfl rfl dU hS<|Tk 1 rfl (λ_ hq=>cD (v:=rv) rfl eM (At.cell (hq.at d) rfl)) hS<|Tw 2 (.map (some m)) rfl rfl hS<|Ti 3 rfl rfl hS<|Tk 4 rfl (λ_ hq=>fX (enc:=eQ) (encV:=id) (v0:= .slice none 0 0) (k:=(cc:Int)) rfl rfl mG gY (λa=>⟨a,rfl⟩) fV uw rfl (hq.mapT hmw)) hS<|Tk 5 rfl (λ_ hq=>dp (j:=0) (v:=(MI l (cc:Int))) rfl ((hq.ow hw16)).sl rfl cV Om Om) hS<|Tk 6 rfl (λ_ hq=>cD (v:= .int .i64 _) rfl cR (dr.cell (j:=0) ((hq.ow hw16)).sl eD 0 Om Om 0 rfl)) hS<|Tk 7 rfl (λ_ hq=>dp (v:=rv) rfl ((hq.ow (Below.ow hB hrv))).sl rfl dG Om Om) hS<|Tk 8 rfl (λ_ hq=>cD (v:=(vs.getD ((pP L L.length (cc:Int)).getD (0:Int).toNat 0).toNat undef)) rfl fv (dr.cell ((hq.ow (Below.ow hB hrv))).sl fZ undef Om Om 0 rfl)) hS ?_
 have C:dr dX 1 w ((vs.getD ((pP L L.length (cc:Int)).getD (0:Int).toNat 0).toNat undef)) (L.getD ((pP L L.length (cc:Int)).getD (0:Int).toNat 0).toNat []):=hll.get _ (by omega)
 refine Tk 9 rfl (λ_ hq=>db (v:=(vs.getD ((pP L L.length (cc:Int)).getD (0:Int).toNat 0).toNat undef)) rfl (hq.slT (Below.slT hB C)) cV) hS<|Ti 10 rfl rfl hS<|Td<|cy ?_
 refine cW (σ:=(Nat)) [3,3,11,12,14,15,17,17,67,132] (λq=>[(67, .int .i64 (q:Int))]) (λq W=>(Below w.heap.size w W)∧(At W o _ 203)∧(At W p _ 203)∧(dy eQ id W m _)∧(MO 3 w.heap.size W l (pP L L.length))∧(cH dX 1 3 W w.heap.size (MI l (cc:Int)) _)∧(q≤(L.getD ((pP L L.length (cc:Int)).getD (0:Int).toNat 0).toNat []).length)∧(True)) (λq=>(L.getD ((pP L L.length (cc:Int)).getD (0:Int).toNat 0).toNat []).length-q) (0) ⟨rfl,trivial⟩ ⟨hB,d,f,hmw,hmo,hw16,(me _),trivial⟩ ?_
 rintro q bi bj ⟨hB,d,f,hmw,hmo,hw16,hq,_⟩ bk H
 refine Zr<|Zv (dq rfl rfl)<|ct<|Zq<|ZQ rfl (λaG=> ?_) λaG=> ?_
 refine cx<|Zq<|cy<|Zr<|Zv (dp (v:=(vs.getD ((pP L L.length (cc:Int)).getD (0:Int).toNat 0).toNat undef)) rfl (Below.slT hB C) rfl cV Om Om)<|Zv (cD (v:= .int .i64 _) rfl cR (dr.cell (Below.slT hB C) eD 0 Om Om 0 rfl))<|ZZ rfl ?_
 refine qD (σ:=(Unit)) [71,99] (λu_=>[]) (λW=>(Below w.heap.size w W)∧(At W o _ 203)∧(At W p _ 203)∧(True)) ⟨hB,d,f,trivial⟩ (λu_ W=>(¬((L.getD ((pP L L.length (cc:Int)).getD (0:Int).toNat 0).toNat []).getD q 0)=(cc:Int))∧(CY (pP L L.length (cc:Int)) (pP L L.length ((L.getD ((pP L L.length (cc:Int)).getD (0:Int).toNat 0).toNat []).getD q 0))=true)∧(True)) (λbl aa=> ?_) ?_
 have hw20:=MO.get hmo ((L.getD ((pP L L.length (cc:Int)).getD (0:Int).toNat 0).toNat []).getD q 0)
 refine Zr<|Zi rfl<|Zi rfl<|Zv (dO rfl rfl)<|ZX rfl (λI=> ?_) λI=> ?_
 refine Zs<|Zs<|Zs<|Zs<|Zs<|Zs<|Zs<|Zs<|Zb rfl<|Zb rfl<|Zs<|Zs<|Zs<|Zs ?_
 refine Zs<|Zs<|Zs<|Zs<|Zs<|Zs<|Zs<|Zs<|Zs<|Zs<|Zb rfl<|ct<|cN rfl<|cT ?_
 refine ZT rfl rfl rfl ?_
 exact H _ _ (q+1) Za ⟨rfl,trivial⟩ ⟨hB,d,f,hmw,hmo,hw16,Om,trivial⟩ Zo
 refine Zw (.map (some m)) rfl<|Zi rfl<|Zv (fX (enc:=eQ) (encV:=id) (v0:= .slice none 0 0) (k:=(cc:Int)) rfl rfl mG gY (λa=>⟨a,rfl⟩) fV uw rfl hmw)<|Zw (.map (some m)) rfl<|Zi rfl<|Zv (fX (enc:=eQ) (encV:=id) (v0:= .slice none 0 0) (k:=((L.getD ((pP L L.length (cc:Int)).getD (0:Int).toNat 0).toNat []).getD q 0)) rfl rfl mG gY (λa=>⟨a,rfl⟩) fV uw rfl hmw)<|ZC JZ (rh _ _ _ _ _ hw16.sl hw20.sl (by have:=yT (c:=(cc:Int)) (fP hr) L.length;omega) (by have:=yT (c:=((L.getD ((pP L L.length (cc:Int)).getD (0:Int).toNat 0).toNat []).getD q 0)) (fP hr) L.length;omega)) rfl λbm bn J aH=> ?_
 obtain⟨hB,d,f,hmw⟩:=J.k4 hB d f hmw
 replace hmo:=MO.ext J hmo
 obtain⟨hw16,hw20⟩:=J.k2 hw16 hw20
 obtain rfl:=aH
 refine Zv (eK rfl)<|Zb rfl<|ZX rfl (λK=> ?_) λK=> ?_
 refine Zs<|Zs<|Zs<|Zs<|Zs<|Zs<|Zs<|Zs<|Zs<|Zs<|Zs<|Zs<|Zs<|Zs ?_
 refine Zb rfl<|ct<|cN rfl<|cT<|ZT rfl rfl rfl ?_
 exact H _ _ (q+1) Za ⟨rfl,trivial⟩ ⟨hB,d,f,hmw,hmo,hw16,Om,trivial⟩ Zo
 refine Zw (.map (some m)) rfl<|Zi rfl<|Zv (fX (enc:=eQ) (encV:=id) (v0:= .slice none 0 0) (k:=((L.getD ((pP L L.length (cc:Int)).getD (0:Int).toNat 0).toNat []).getD q 0)) rfl rfl mG gY (λa=>⟨a,rfl⟩) fV uw rfl hmw)<|Zv (db (v:=(MI l ((L.getD ((pP L L.length (cc:Int)).getD (0:Int).toNat 0).toNat []).getD q 0))) rfl hw20.sl cV)<|Zw (.map (some m)) rfl<|Zi rfl<|Zv (fX (enc:=eQ) (encV:=id) (v0:= .slice none 0 0) (k:=(cc:Int)) rfl rfl mG gY (λa=>⟨a,rfl⟩) fV uw rfl hmw)<|Zv (db (v:=(MI l (cc:Int))) rfl hw16.sl cV)<|Zv (dO rfl rfl)<|ZX rfl (λaI=> ?_) λaI=> ?_
 refine Zi rfl<|Zi rfl<|Zv (gQ rfl rfl)<|Zb rfl<|Zb rfl<|ct<|ZQ rfl (λaJ=> ?_) λaJ=> ?_
 refine cT<|ZT rfl rfl rfl ?_
 exact H _ _ (q+1) Za ⟨rfl,trivial⟩ ⟨hB,d,f,hmw,hmo,hw16,Om,trivial⟩ Zo
 refine cx ?_
 refine aa _ _ (()) ?_ ?_ ?_ ?_
 · repeat (first|exact dC.mask _ _ _|exact dC.refl _ _|refine adc ?_ rfl _|refine ac5 ?_ _ rfl|refine acU rfl ?_)
 · exact trivial
 · exact⟨hB,d,f,trivial⟩
 · exact⟨I,(lA K),trivial⟩
 refine Zs<|Zs<|Zs<|Zb rfl<|Zb rfl<|ct<|dE rfl<|cx ?_
 refine aa _ _ (()) ?_ ?_ ?_ ?_
 · repeat (first|exact dC.mask _ _ _|exact dC.refl _ _|refine adc ?_ rfl _|refine ac5 ?_ _ rfl|refine acU rfl ?_)
 · exact trivial
 · exact⟨hB,d,f,trivial⟩
 · exact⟨I,(lA K),trivial⟩
 rintro u_ bo bp ⟨hB,d,f,_⟩ ⟨hdc,hwt,_⟩
 refine Zr<|Zf rfl iA<|Zl rfl cR d rfl<|Zv (kw (h0:=rfl) (k0:=rfl) (c0_0:= .int .i64 _))<|Zy (cM gv rfl λaK bq M aL h=> ?_)
 have ab:=ZO M hB
 have ac:=Zn M d.lt
 have ad:=Zn M f.lt
 obtain⟨hB,d,f⟩:=aL.k3 hB d f
 refine Zy (cA rfl rfl df rfl h rfl rfl λbr N aM=> ?_)
 replace hB:=Zg hB N ab
 replace d:=At.grownNe d ac N
 replace f:=At.grownNe f ad N
 replace h:=aM
 refine ct<|Zq<|Zr<|Zf rfl dU<|ZL rv rfl eM d rfl<|Zv (db (v:=rv) rfl ((Below.ow hB hrv)).sl dG)<|ZZ rfl<|cy ?_
 refine cW (σ:=(Nat)×(Value)×(List Value)) [14,15,17,17,106,130] (λ(k,v0,vn)=>[(106, .int .i64 (k:Int))]) (λsg W=>match sg with|(k,v0,vn)=>(Below w.heap.size w W)∧(At W o _ 203)∧(At W p _ 203)∧(At W aK #[.int .i64 n,v0] 203)∧(cH encV 1 35 W w.heap.size v0 (vn))∧(LO 3 w.heap.size W vn (qE (L.take k) (cc:Int)))∧(k≤L.length)∧(True)) (λ(k,v0,vn)=>L.length-k) ((0, .slice none 0 0,[])) ⟨rfl,trivial⟩ ⟨hB,d,f,h,cH.nil,LO.nil,(me _),trivial⟩ ?_
 rintro⟨k,v0,vn⟩ bs A ⟨hB,d,f,h,ho,hlo,hk,_⟩ bt aN
 refine Zr<|Zv (dq rfl rfl)<|ct<|Zq<|ZQ rfl (λaO=> ?_) λaO=> ?_
 refine cx<|Zq<|cy<|Zr<|Zv (dp (v:=rv) rfl ((Below.ow hB hrv)).sl rfl dG Om Om)<|Zv (cD (v:=(vs.getD k undef)) rfl fv (dr.cell ((Below.ow hB hrv)).sl fZ undef Om Om 0 rfl)) ?_
 have aP:dr dX 1 w ((vs.getD k undef)) (L.getD k []):=hll.get k (by omega)
 refine Zw (vs.getD k undef) rfl<|ct ?_
 have bu:=Below.ow hB hrv
 have bv:=LO.below hB hLO
 have bw:=Below.slT hB C
 have O:=Below.slT hB aP
 have ae:=hB
 replace hB:=Below.refl A.heap.size A
 refine Zr<|Zw (.slice none 0 0) rfl<|ct<|Zq<|Zr<|Zw (vs.getD k undef) rfl<|Zv (db (v:=(vs.getD k undef)) rfl (Below.slT hB O) cV)<|ZZ rfl<|cy ?_
 refine cW (σ:=(Nat)×(Value)) [15,15,17,17,112,123] (λ(j,v1)=>[(112, .int .i64 (j:Int)),(15,v1)]) (λsg W=>match sg with|(j,v1)=>(Below A.heap.size A W)∧(cH dX 1 3 W A.heap.size v1 (Cn ((L.getD k []).take j) (cc:Int)))∧(j≤(L.getD k []).length)∧(True)) (λ(j,v1)=>(L.getD k []).length-j) ((0, .slice none 0 0)) ⟨rfl,rfl,trivial⟩ ⟨hB,cH.nil,(me _),trivial⟩ ?_
 rintro⟨j,v1⟩ bx bz ⟨hB,hrst,hj,_⟩ bA af
 refine Zr<|Zv (dq rfl rfl)<|ct<|Zq<|ZQ rfl (λaQ=> ?_) λaQ=> ?_
 refine cx<|Zq<|cy ?_
 have hrl:=Kq (L.getD k []) (cc:Int) j
 have hr4:=fP hr k
 refine Zr<|Zv (dp (v:=(vs.getD k undef)) rfl (Below.slT hB O) rfl cV Om Om)<|Zv (cD (v:= .int .i64 _) rfl cR (dr.cell (Below.slT hB O) eD 0 Om Om 0 rfl))<|ZZ rfl<|Zr<|Zi rfl<|Zi rfl<|Zv (eV rfl rfl)<|ct<|ZQ rfl (λP=> ?_) λP=> ?_
 refine cI<|Zw v1 rfl<|Zi rfl<|Zy (ez (u:= .int .i64 _) rfl cV eP rfl Dd Dd λaR bB bC aS aT=> ?_)
 obtain⟨hB,hrst⟩:=aS.k2 hB hrst
 refine Zy (dP (v:=v1) (v2:= .slice (some ⟨aR,0,none⟩) 1 1) rfl rfl cV eP Dd hrst (eJ aT rfl) rfl (m3 hB) (by omega) (by omega) λag bD aU Q=> ?_)
 replace Q:=cH.snoc (enc:=dX) (x:=_) rfl rfl rfl rfl Q
 replace hB:=ZG hB aU hrst
 refine Zw ag rfl<|ct<|ZT rfl rfl rfl ?_
 exact af _ _ ((j+1,ag)) Za ⟨rfl,rfl,trivial⟩ ⟨hB,(by (rw[←Vk (k:=j) Om P];exact Q)),Om,trivial⟩ (by show (L.getD k []).length-(j+1)<(L.getD k []).length-j;omega)
 refine cx<|ZT rfl rfl rfl ?_
 exact af _ _ ((j+1,v1)) Za ⟨rfl,rfl,trivial⟩ ⟨hB,(by (rw[←Vb (k:=j) Om (aaS P)];exact hrst)),Om,trivial⟩ (by show (L.getD k []).length-(j+1)<(L.getD k []).length-j;omega)
 refine cT ?_
 replace d:=On hB d
 replace f:=On hB f
 replace h:=On hB h
 replace ho:=Below.ow hB ho
 replace hlo:=LO.below hB hlo
 have hzs:=go (am _) (Below.size ae)
 replace hrst:=cH.mono hrst hzs
 replace hB:=Below.trans ae (Below.mono hB hzs)
 obtain rfl:j=(L.getD k []).length:=by omega
 rw[aaY]at hrst
 have hcl:=KH L (cc:Int) k
 have hvn:=hlo.len
 refine cI<|Zf rfl dU<|ZL v0 rfl eM h rfl<|Zw v1 rfl<|Zy (ez (u:=v1) rfl dG jJ (by rw[dr.cells hrst.sl];rfl) Dd Dd λR bE S aV ah=> ?_)
 have bF:=ZO S hB
 have bG:=acm (b:=R) (Below.ow hB hrv) (aaR S.symm)
 have bH:=acm (b:=R) ho (aaR S.symm)
 obtain⟨d,f,h,ho,hlo,hB,hrst⟩:=aV.k7 d f h ho hlo hB hrst
 rw[dr.cells hrst.sl]at ah
 refine Zy (dP (v:=v0) (v2:= .slice (some ⟨R,0,none⟩) 1 1) rfl rfl dG jJ Dd ho (eJ ah rfl) (by exact UY (cH.one hrst)) (m3 hB) (by omega) (by omega) λai bI s t=> ?_)
 replace t:=cH.snoc (enc:=encV) (x:=v1) rfl rfl rfl rfl t
 replace d:=At.grownOw d ho s Dd
 replace f:=At.grownOw f ho s Dd
 replace h:=At.grownOw h ho s Dd
 replace hlo:=LO.grownOw hlo ho s Dd
 replace hB:=ZG hB s ho
 replace hrst:=cH.grownOw hrst ho s Dd
 refine Zf rfl dU<|Zy (de (v:=ai) rfl rfl eM (dr.one t.sl) h fF λbJ y aW=> ?_)
 replace d:=At.grownNe d ac y
 replace f:=At.grownNe f ad y
 replace hlo:=LO.grownAt hlo h y Dd
 replace hB:=Zg hB y ab
 replace hrst:=cH.grownAt hrst h y Dd
 replace t:=cH.grownAt t h y Dd
 replace h:=aW
 replace h:At _ _ #[_,_] _:=h
 refine ct<|ZT rfl rfl rfl ?_
 exact aN _ _ ((k+1,ai,vn++[v1])) Za ⟨rfl,trivial⟩ ⟨hB,d,f,(by exact h),(by exact t),(by rw[←GX Om];exact LO.snoc hlo hrst),Om,trivial⟩ (by show L.length-(k+1)<L.length-k;omega)
 refine cT<|Zr<|Zv (cz rfl df rfl h)<|Zy (cA rfl rfl df rfl f rfl (by exact iO (cH.one ho)) λbK T aX=> ?_)
 replace hB:=Zg hB T U
 replace ho:=cH.grownAt ho f T Dd
 replace hlo:=LO.grownAt hlo f T Dd
 replace f:=aX
 refine Zb rfl<|ct<|Zt<|ex rfl df f rfl (v1:= .bool true) rfl ⟨hB,?_⟩
 exact⟨_,_,_,_,rfl,cH.mono ho (me _),LO.mono hlo (me _),(by rw[Ks (by omega)];exact Sf (i:=0) (λe=>Z (by rw[e];rfl)) hdc hwt)⟩
 refine cT<|ZT rfl rfl rfl ?_
 exact Y _ _ (cc+1) Za ⟨rfl,trivial⟩ ⟨hB,d,f,hmw,hmo,Om,trivial⟩ Zo
 refine cT<|Zr<|Zv (cz rfl df rfl d)<|Zy (cA rfl rfl df rfl f rfl (by exact iO (cH.one hrv)) λbL aY aZ=> ?_)
 replace hB:=Zg hB aY U
 replace f:=aZ
 refine Zb rfl<|ct<|Zt<|ex rfl df f rfl (v1:= .bool false) rfl ⟨hB,?_⟩
 exact⟨_,_,_,_,rfl,Below.ow hB hrv,LO.below hB hLO,Ys L⟩
end
section
theorem Sn:cY Tryz.prog 183=true:=by kernel_rfl
theorem zC:eN Tryz.prog 210=true:=by kernel_rfl
theorem mX:na Tryz.prog 210=some (3,4):=by kernel_rfl
theorem S8:cY Tryz.prog 185=true:=by kernel_rfl
theorem SH:cY Tryz.prog 187=true:=by kernel_rfl
theorem Uq:d4 Tryz.prog 210=some (.map none):=by kernel_rfl
theorem zM:fj Tryz.prog 250=some (26,1,8):=by kernel_rfl
theorem Ul:(d4 Tryz.prog 26).map (λz=>z.cells.size)=some 1:=by kernel_rfl
theorem RH:eN Tryz.prog 26=true:=by kernel_rfl
theorem S6:cY Tryz.prog 182=true:=by kernel_rfl
theorem SC:cY Tryz.prog 184=true:=by kernel_rfl
theorem Ua:cY Tryz.prog 186=true:=by kernel_rfl
theorem vy (N bm bt bk b3:Nat) (n:Int) (xs rv:Value) (fs vs:List Value) (L0 L:ML) (ks:List Int) (w:World) (hN0:N≤w.heap.size) (hm:At w bm #[.int .i64 n,rv] 203) (hrv:cH encV 1 35 w 0 rv vs) (hLO:LO 3 0 w vs L) (hr:dR n L=true) (hLb:L.length≤1000000) (hrd:m5 L0 L ks) (h3:At w b3 #[.int .i64 0, .slice none 0 0] 203) (hbt:At w bt #[.map (some bk)] 210) (hst:cH encV 1 26 w N xs fs) (hks:dy eQ Value.bool w bk (fC ks)) (lom:N≤bm) (lok:N≤bk) (hne:b3≠bm):
    lk Tryz.prog 182 #[.pointer (some ⟨bm,0,none⟩), .pointer (some ⟨bt,0,none⟩)] w λv w'=>Below N w w'∧At w' b3 #[.int .i64 0, .slice none 0 0] 203∧At w' bt #[.map (some bk)] 210∧cH encV 1 26 w' N xs fs∧∃rv' vs' L' ks' b,v= .bool b∧At w' bm #[.int .i64 n,rv'] 203∧cH encV 1 35 w' 0 rv' vs'∧LO 3 0 w' vs' L'∧dy eQ Value.bool w' bk (fC ks')∧UT L0 L' L ks' n b:=by
 refine dL (n:=17) (N:=N) Tryz.func182 rfl rfl rfl λhB=> ?_
 refine Zr<|Zb rfl<|ct<|Zr<|Zv (cz rfl df rfl hm)<|ZC (vs:=[.agg #[_,_]]) Sn (Bt n rv vs L _ hrv hLO hr hLb) rfl λy W5 m o=> ?_
 obtain⟨hm,h3,hbt,hst,hks⟩:=m.k5 hm h3 hbt hst hks
 replace hB:=cX hB m hN0
 obtain⟨rv1_1,z,L1_1,c1_1,c,rfl,hk1_1,hLO1_1,htp1_1⟩:=o
 refine Zw (.tuple #[.agg #[.int .i64 _,rv1_1], .int .i64 c1_1, .bool c]) rfl<|Zv (gj rfl)<|Zv (iy rfl)<|Zv (ik rfl)<|Zy (cM gv rfl λp W8 h i d=> ?_)
 have q:N≤p:=h▸(go hN0 (Below.size hB))
 have r:=Zn h hm.lt
 have s:=Zn h h3.lt
 obtain⟨hm,h3,hbt,hst,hks⟩:=i.k5 hm h3 hbt hst hks
 replace hB:=cX hB i hN0
 obtain⟨hk1_1,hLO1_1⟩:=i.k2 hk1_1 hLO1_1
 refine Zy (cA rfl rfl df rfl d rfl (by exact iO (cH.one hk1_1)) λA e t=> ?_)
 replace hm:=At.grownNe hm r e
 replace h3:=At.grownNe h3 s e
 replace hbt:=At.grownAt hbt d e Dd
 replace hst:=cH.grownAt hst d e Dd
 replace hks:=dy.grownAt hks d e
 replace hB:=dg hB e hN0 (λj hj=>by cases hj;exact q)
 replace hk1_1:=cH.grownAt hk1_1 d e Dd
 replace hLO1_1:=LO.grownAt hLO1_1 d e Dd
 replace d:=t
 refine Zw (.int .i64 c1_1) rfl<|Zw (.bool c) rfl<|ct<|Zq<|Zr<|Zv (cz rfl df rfl d)<|Zy (cA rfl rfl df rfl hm rfl (by exact iO (cH.one hk1_1)) λB f u=> ?_)
 replace h3:=At.grownNe h3 hne f
 replace hbt:=At.grownAt hbt hm f Dd
 replace hst:=cH.grownAt hst hm f Dd
 replace hks:=dy.grownAt hks hm f
 replace hB:=dg hB f hN0 (λj hj=>by cases hj;exact lom)
 replace hk1_1:=cH.grownAt hk1_1 hm f Dd
 replace hLO1_1:=LO.grownAt hLO1_1 hm f Dd
 replace hm:=u
 refine ct<|Zr<|Zw (.bool c) rfl<|ct<|ZQ rfl (λl=> ?_) λl=> ?_
 refine cI<|ZL (.map (some bk)) rfl zC hbt rfl<|Zw (.int .i64 c1_1) rfl ?_
 refine gU (dd:=none) rfl rfl rfl (fN (enc:=eQ) (encV:=Value.bool) (k:=c1_1) (v:=true) rfl rfl rfl mX gY (λa=>⟨a,rfl⟩) fV hks (λC g x=> ?_))
 replace hm:=At.grownMap hm hks g
 replace h3:=At.grownMap h3 hks g
 replace hbt:=At.grownMap hbt hks g
 replace hst:=cH.grownMap hst hks g
 replace hB:=dg hB g hN0 (λj hj=>by cases hj;exact lok)
 replace hk1_1:=cH.grownMap hk1_1 hks g
 replace hLO1_1:=LO.grownMap hLO1_1 hks g
 replace hks:=x
 rw[kb]at hks
 refine ct<|Zr<|Zw (.bool c) rfl<|Zw (.bool c) rfl<|ct<|Zt<|cZ (v:= .bool c) rfl ?_
 subst l
 exact⟨hB,h3,hbt,hst,_,_,_,_,_,rfl,hm,hk1_1,hLO1_1,hks,NZ hrd hr htp1_1⟩
 refine cx<|Zr<|Zw (.bool c) rfl<|Zw (.bool c) rfl<|ct<|Zt<|cZ (v:= .bool c) rfl ?_
 subst l
 exact⟨hB,h3,hbt,hst,_,_,_,_,_,rfl,hm,hk1_1,hLO1_1,hks,ME hrd hr htp1_1⟩
theorem vB (N bm bt bk b3:Nat) (n:Int) (xs rv:Value) (fs vs:List Value) (L0 L:ML) (ks:List Int) (w:World) (hN0:N≤w.heap.size) (hm:At w bm #[.int .i64 n,rv] 203) (hrv:cH encV 1 35 w 0 rv vs) (hLO:LO 3 0 w vs L) (hr:dR n L=true) (hLb:L.length≤1000000) (hrd:m5 L0 L ks) (h3:At w b3 #[.int .i64 0, .slice none 0 0] 203) (hbt:At w bt #[.map (some bk)] 210) (hst:cH encV 1 26 w N xs fs) (hks:dy eQ Value.bool w bk (fC ks)) (lom:N≤bm) (lok:N≤bk) (hne:b3≠bm):
    lk Tryz.prog 184 #[.pointer (some ⟨bm,0,none⟩)] w λv w'=>Below N w w'∧At w' b3 #[.int .i64 0, .slice none 0 0] 203∧At w' bt #[.map (some bk)] 210∧cH encV 1 26 w' N xs fs∧∃rv' vs' L' ks' b,v= .bool b∧At w' bm #[.int .i64 n,rv'] 203∧cH encV 1 35 w' 0 rv' vs'∧LO 3 0 w' vs' L'∧dy eQ Value.bool w' bk (fC ks')∧UT L0 L' L ks' n b:=by
 refine dL (n:=11) (N:=N) Tryz.func184 rfl rfl rfl λhB=> ?_
 refine Zr<|Zb rfl<|ct<|Zr<|Zv (cz rfl df rfl hm)<|ZC (vs:=[.agg #[_,_]]) S8 (Bv n rv vs L _ hrv hLO hr hLb) rfl λr W5 h i=> ?_
 obtain⟨hm,h3,hbt,hst,hks⟩:=h.k5 hm h3 hbt hst hks
 replace hB:=cX hB h hN0
 obtain⟨rv1_1,s,L1_1,e,rfl,hk1_1,hLO1_1,htp1_1⟩:=i
 refine Zw (.tuple #[.agg #[.int .i64 _,rv1_1], .bool e]) rfl<|Zv (c7 rfl)<|Zv (da rfl)<|Zy (cM gv rfl λk W8 f g a=> ?_)
 have l:N≤k:=f▸(go hN0 (Below.size hB))
 have m:=Zn f hm.lt
 have o:=Zn f h3.lt
 obtain⟨hm,h3,hbt,hst,hks⟩:=g.k5 hm h3 hbt hst hks
 replace hB:=cX hB g hN0
 obtain⟨hk1_1,hLO1_1⟩:=g.k2 hk1_1 hLO1_1
 refine Zy (cA rfl rfl df rfl a rfl (by exact iO (cH.one hk1_1)) λt c p=> ?_)
 replace hm:=At.grownNe hm m c
 replace h3:=At.grownNe h3 o c
 replace hbt:=At.grownAt hbt a c Dd
 replace hst:=cH.grownAt hst a c Dd
 replace hks:=dy.grownAt hks a c
 replace hB:=dg hB c hN0 (λj hj=>by cases hj;exact l)
 replace hk1_1:=cH.grownAt hk1_1 a c Dd
 replace hLO1_1:=LO.grownAt hLO1_1 a c Dd
 replace a:=p
 refine Zw (.bool e) rfl<|ct<|Zr<|Zv (cz rfl df rfl a)<|Zy (cA rfl rfl df rfl hm rfl (by exact iO (cH.one hk1_1)) λu d q=> ?_)
 replace h3:=At.grownNe h3 hne d
 replace hbt:=At.grownAt hbt hm d Dd
 replace hst:=cH.grownAt hst hm d Dd
 replace hks:=dy.grownAt hks hm d
 replace hB:=dg hB d hN0 (λj hj=>by cases hj;exact lom)
 replace hk1_1:=cH.grownAt hk1_1 hm d Dd
 replace hLO1_1:=LO.grownAt hLO1_1 hm d Dd
 replace hm:=q
 refine ct<|Zr<|Zw (.bool e) rfl<|Zw (.bool e) rfl<|ct<|Zt<|cZ (v:= .bool e) rfl ?_
 exact⟨hB,h3,hbt,hst,_,_,_,_,_,rfl,hm,hk1_1,hLO1_1,hks,NC hrd hr htp1_1⟩
theorem vw (N bm bt bk b3:Nat) (n:Int) (xs rv:Value) (fs vs:List Value) (L0 L:ML) (ks:List Int) (w:World) (hN0:N≤w.heap.size) (hm:At w bm #[.int .i64 n,rv] 203) (hrv:cH encV 1 35 w 0 rv vs) (hLO:LO 3 0 w vs L) (hr:dR n L=true) (hLb:L.length≤1000000) (hrd:m5 L0 L ks) (h3:At w b3 #[.int .i64 0, .slice none 0 0] 203) (hbt:At w bt #[.map (some bk)] 210) (hst:cH encV 1 26 w N xs fs) (hks:dy eQ Value.bool w bk (fC ks)) (lom:N≤bm) (lok:N≤bk) (hne:b3≠bm):
    lk Tryz.prog 186 #[.pointer (some ⟨bm,0,none⟩)] w λv w'=>Below N w w'∧At w' b3 #[.int .i64 0, .slice none 0 0] 203∧At w' bt #[.map (some bk)] 210∧cH encV 1 26 w' N xs fs∧∃rv' vs' L' ks' b,v= .bool b∧At w' bm #[.int .i64 n,rv'] 203∧cH encV 1 35 w' 0 rv' vs'∧LO 3 0 w' vs' L'∧dy eQ Value.bool w' bk (fC ks')∧UT L0 L' L ks' n b:=by
 refine dL (n:=11) (N:=N) Tryz.func186 rfl rfl rfl λhB=> ?_
 refine Zr<|Zb rfl<|ct<|Zr<|Zv (cz rfl df rfl hm)<|ZC (vs:=[.agg #[_,_]]) SH (wF n rv vs L _ hrv hLO hr hLb) rfl λr W5 h i=> ?_
 obtain⟨hm,h3,hbt,hst,hks⟩:=h.k5 hm h3 hbt hst hks
 replace hB:=cX hB h hN0
 obtain⟨rv1_1,s,L1_1,e,rfl,hk1_1,hLO1_1,htp1_1⟩:=i
 refine Zw (.tuple #[.agg #[.int .i64 _,rv1_1], .bool e]) rfl<|Zv (c7 rfl)<|Zv (da rfl)<|Zy (cM gv rfl λk W8 f g a=> ?_)
 have l:N≤k:=f▸(go hN0 (Below.size hB))
 have m:=Zn f hm.lt
 have o:=Zn f h3.lt
 obtain⟨hm,h3,hbt,hst,hks⟩:=g.k5 hm h3 hbt hst hks
 replace hB:=cX hB g hN0
 obtain⟨hk1_1,hLO1_1⟩:=g.k2 hk1_1 hLO1_1
 refine Zy (cA rfl rfl df rfl a rfl (by exact iO (cH.one hk1_1)) λt c p=> ?_)
 replace hm:=At.grownNe hm m c
 replace h3:=At.grownNe h3 o c
 replace hbt:=At.grownAt hbt a c Dd
 replace hst:=cH.grownAt hst a c Dd
 replace hks:=dy.grownAt hks a c
 replace hB:=dg hB c hN0 (λj hj=>by cases hj;exact l)
 replace hk1_1:=cH.grownAt hk1_1 a c Dd
 replace hLO1_1:=LO.grownAt hLO1_1 a c Dd
 replace a:=p
 refine Zw (.bool e) rfl<|ct<|Zr<|Zv (cz rfl df rfl a)<|Zy (cA rfl rfl df rfl hm rfl (by exact iO (cH.one hk1_1)) λu d q=> ?_)
 replace h3:=At.grownNe h3 hne d
 replace hbt:=At.grownAt hbt hm d Dd
 replace hst:=cH.grownAt hst hm d Dd
 replace hks:=dy.grownAt hks hm d
 replace hB:=dg hB d hN0 (λj hj=>by cases hj;exact lom)
 replace hk1_1:=cH.grownAt hk1_1 hm d Dd
 replace hLO1_1:=LO.grownAt hLO1_1 hm d Dd
 replace hm:=q
 refine ct<|Zr<|Zw (.bool e) rfl<|Zw (.bool e) rfl<|ct<|Zt<|cZ (v:= .bool e) rfl ?_
 exact⟨hB,h3,hbt,hst,_,_,_,_,_,rfl,hm,hk1_1,hLO1_1,hks,NC hrd hr htp1_1⟩
theorem VT (i:Nat) (N bm bt bk b3:Nat) (n:Int) (xs rv:Value) (fs vs:List Value) (L0 L:ML) (ks:List Int) (w:World) (hN0:N≤w.heap.size) (hm:At w bm #[.int .i64 n,rv] 203) (hrv:cH encV 1 35 w 0 rv vs) (hLO:LO 3 0 w vs L) (hr:dR n L=true) (hLb:L.length≤1000000) (hrd:m5 L0 L ks) (h3:At w b3 #[.int .i64 0, .slice none 0 0] 203) (hbt:At w bt #[.map (some bk)] 210) (hst:cH encV 1 26 w N xs fs) (hks:dy eQ Value.bool w bk (fC ks)) (lom:N≤bm) (lok:N≤bk) (hne:b3≠bm) (hi:i<3):
    lk Tryz.prog (clQ 182 184 186 i) (clC bm bt i) w λv w'=>Below N w w'∧At w' b3 #[.int .i64 0, .slice none 0 0] 203∧At w' bt #[.map (some bk)] 210∧cH encV 1 26 w' N xs fs∧∃rv' vs' L' ks' b,v= .bool b∧At w' bm #[.int .i64 n,rv'] 203∧cH encV 1 35 w' 0 rv' vs'∧LO 3 0 w' vs' L'∧dy eQ Value.bool w' bk (fC ks')∧UT L0 L' L ks' n b:=by
  match i,hi with
  |0,_=>exact vy N bm bt bk b3 n xs rv fs vs L0 L ks w hN0 hm hrv hLO hr hLb hrd h3 hbt hst hks lom lok hne
  |1,_=>exact vB N bm bt bk b3 n xs rv fs vs L0 L ks w hN0 hm hrv hLO hr hLb hrd h3 hbt hst hks lom lok hne
  |2,_=>exact vw N bm bt bk b3 n xs rv fs vs L0 L ks w hN0 hm hrv hLO hr hLb hrd h3 hbt hst hks lom lok hne
theorem rf (n:Int) (rv:Value) (vs:List Value) (L:ML) (w:World) (hrv:cH encV 1 35 w 0 rv vs) (hLO:LO 3 0 w vs L) (hr:dR n L=true) (hLb:L.length≤1000000):
    Fn Tryz.prog 147 #[.agg #[.int .i64 n,rv]] w λv w'=>∃tv T rv' vs' L',v= .tuple #[tv, .agg #[.int .i64 n,rv'], .int .i64 0]∧cH dX 1 3 w' w.heap.size tv T∧cH encV 1 35 w' 0 rv' vs'∧LO 3 0 w' vs' L'∧m5 L L' T∧dR n L'=true∧L'.length≤L.length∧T.length≤n.toNat:=by
 refine cK (n:=44) Tryz.func147 rfl rfl rfl λhB=> ?_
 have hll:=hLO.ll
 have hvl:=hll.len
 refine Zr<|Zy (du (c:= #[_,_]) rfl rfl λg W3 N O d=> ?_)
 have P:=ZO N hB
 replace hB:=Ze hB O
 refine Zw (.slice none 0 0) rfl<|Zy (cM gv rfl λy W6 D Q e=> ?_)
 have R:=ZO D hB
 have E:=Zn D d.lt
 obtain⟨hB,d⟩:=Q.k2 hB d
 refine ZZ rfl<|Fx<|Zq<|Zr<|Zv (cz rfl df rfl d)<|ZC (vs:=[.agg #[_,_]]) vj (kr n _ _ L _ ((Below.ow hB hrv)).sl (LO.mono (LO.below hB hLO) (me _)).ll hLb (λi=>go (fP hr i) Dd)) rfl λaz aA S U=> ?_
 obtain⟨hB,d,e⟩:=S.k3 hB d e
 obtain rfl:=U
 refine Zv (eK rfl)<|ct<|ZQ rfl (λF=> ?_) λF=> ?_
 exact absurd (kh F) (by rw[hr];decide)
 refine cx<|Zr<|Zy (hU (enc:=eQ) (encV:=Value.bool) λz aB V X l=> ?_)
 have Y:=ZO V hB
 obtain⟨hB,d,e⟩:=X.k3 hB d e
 replace l:dy eQ Value.bool _ _ (fC []):=l
 refine Zy (cM Uq rfl λj aC Z aa f=> ?_)
 have ab:=ZO Z hB
 obtain⟨hB,d,e,l⟩:=aa.k4 hB d e l
 refine Zy (de (v:= .map (some z)) rfl rfl zC rfl f Lp λaD A ac=> ?_)
 replace hB:=Zg hB A ab
 replace d:=At.grownAt d f A Dd
 replace e:=At.grownAt e f A Dd
 replace l:=dy.grownAt l f A
 replace f:=ac
 replace f:At _ _ #[_] _:=f
 refine ct<|Zr<|Zw (.slice none 0 0) rfl<|ct<|Zr<|Zv (eU (vs:= #[.pointer (some ⟨g,0,none⟩), .pointer (some ⟨j,0,none⟩)]) Bi)<|Zv (eU (vs:= #[.pointer (some ⟨g,0,none⟩)]) Bi)<|Zv (eU (vs:= #[.pointer (some ⟨g,0,none⟩)]) Bi)<|Zy (VY (u0:= .func (.func 182) #[] #[.pointer (some ⟨g,0,none⟩), .pointer (some ⟨j,0,none⟩)]) (u1:= .func (.func 184) #[] #[.pointer (some ⟨g,0,none⟩)]) (u2:= .func (.func 186) #[] #[.pointer (some ⟨g,0,none⟩)]) rfl rfl rfl zM Ul rfl rfl rfl λm aE ad ae af=> ?_)
 have ag:=ZO ad hB
 obtain⟨hB,d,e,l,f⟩:=ae.k5 hB d e l f
 have h:=Qg af ag
 replace h:cH encV 1 _ _ _ _ (XZ g j 182 184 186):=h
 refine Zw (.slice (some ⟨m,0,none⟩) 3 3) rfl<|ct<|Zq<|EQ<|Zq<|cy ?_
 refine cW (σ:=(Value)×(List Value)×(ML)×(List Int)) [9,9,20,28] (λ(rv1,o,L1,ks)=>[]) (λsg W=>match sg with|(rv1,o,L1,ks)=>(Below w.heap.size w W)∧(At W y _ 203)∧(At W j _ 210)∧(cH encV 1 26 W w.heap.size (.slice (some ⟨m,0,none⟩) 3 3) _)∧(At W g #[.int .i64 n,rv1] 203)∧(cH encV 1 35 W 0 rv1 o)∧(LO 3 0 W o (L1))∧(dy eQ Value.bool W z (fC ks))∧(m5 L L1 ks)∧(dR n L1=true)∧(L1.length≤L.length)∧(True)) (λ(rv1,o,L1,ks)=>tY L1) ((rv,vs,L,[])) trivial ⟨hB,e,f,h,d,(cH.mono (Below.ow hB hrv) (am _)),(LO.below hB hLO),l,(aei L),hr,(am _),trivial⟩ ?_
 rintro⟨rv1,o,L1,ks⟩ aF aG ⟨hB,e,f,h,d,hrw,hlo,hmk,hrd,hr1,hl1,_⟩ aH ah
 refine cy<|Zq<|Zr<|Zw (.slice (some ⟨m,0,none⟩) 3 3) rfl<|Zv (db (v:= .slice (some ⟨m,0,none⟩) 3 3) rfl h.sl zM)<|ZZ rfl<|cy ?_
 refine cW (σ:=(Nat)×(Value)×(List Value)×(ML)×(List Int)) [9,9,22,28] (λ(i,rv2,s,L2,ks2)=>[(22, .int .i64 (i:Int))]) (λsg W=>match sg with|(i,rv2,s,L2,ks2)=>(Below w.heap.size w W)∧(At W y _ 203)∧(At W j _ 210)∧(cH encV 1 26 W w.heap.size (.slice (some ⟨m,0,none⟩) 3 3) _)∧(At W g #[.int .i64 n,rv2] 203)∧(cH encV 1 35 W 0 rv2 s)∧(LO 3 0 W s (L2))∧(dy eQ Value.bool W z (fC ks2))∧(i≤3)∧(m5 L L2 ks2)∧(dR n L2=true)∧(L2.length≤L.length)∧(tY L2≤tY L1)∧(True)) (λ(i,rv2,s,L2,ks2)=>3-i) ((0,rv1,o,L1,ks)) ⟨rfl,trivial⟩ ⟨hB,e,f,h,d,hrw,hlo,hmk,(me _),hrd,hr1,hl1,(am _),trivial⟩ ?_
 rintro⟨i,rv2,s,L2,ks2⟩ aI t ⟨hB,e,f,h,d,hrw2,hlo2,hmk,hi,hrd2,hr2,hl2,G,_⟩ aJ ai
 have hcl:(XZ g j 182 184 186).length=3:=rfl
 refine Zr<|Zv (dq rfl rfl)<|ct<|Zq<|ZQ rfl (λaj=> ?_) λaj=> ?_
 refine cx<|Zq<|cy<|Zr<|Zv (dp (v:= .slice (some ⟨m,0,none⟩) 3 3) rfl h.sl rfl zM Om Om)<|Zv (cD (v:=((XZ g j 182 184 186).getD i undef)) rfl RH (dr.cell h.sl fZ undef Om Om 0 rfl))<|Zw ((XZ g j 182 184 186).getD i undef) rfl<|ct<|Zr<|Zw ((XZ g j 182 184 186).getD i undef) rfl ?_
 refine mZ (dd:=some 27) rfl rfl rfl (iu (q:=clQ 182 184 186 i) (first:= #[]) (cap:=clC g j i) (vs:=clC g j i) (Ra Om) (clB S6 SC Ua) fF) (VT i _ _ _ _ _ n _ _ _ _ L L2 ks2 _ (Below.size hB) d hrw2 hlo2 hr2 Om hrd2 e f h hmk P Y E.symm Om) (λaK aL ak=> ?_)
 obtain⟨hBt9_1,h39_1,ht9_1,al,rv9_1,H,L9_1,ks9_1,aM,rfl,ao,hk9_1,hLO9_1,hq9_1,hS9_1⟩:=ak
 replace hB:=Below.trans hB hBt9_1
 replace d:=ao
 replace e:=h39_1
 replace f:=ht9_1
 replace h:=al
 replace hmk:=hq9_1
 refine ct<|ZQ rfl (λI=> ?_) λI=> ?_
 refine cT ?_
 refine ah _ _ ((rv9_1,H,L9_1,ks9_1)) ?_ ?_ ?_ ?_
 · repeat (first|exact dC.mask _ _ _|refine adc ?_ rfl _|refine ac5 ?_ _ rfl|refine acU rfl ?_)
 · exact trivial
 · exact⟨hB,e,f,h,(by exact d),hk9_1,hLO9_1,(by exact hmk),(hS9_1.rd),(hS9_1.r),(go hS9_1.len hl2),trivial⟩
 · exact ab0 (hS9_1.szt I) G
 refine cx<|ZT rfl rfl rfl ?_
 exact ai _ _ ((i+1,rv9_1,H,L9_1,ks9_1)) Za ⟨rfl,trivial⟩ ⟨hB,e,f,h,(by exact d),hk9_1,hLO9_1,(by exact hmk),Om,hS9_1.rd,hS9_1.r,(go hS9_1.len hl2),(go hS9_1.sz G),trivial⟩ Zo
 refine cT<|cT<|Zq ?_
 have aN:=Below.ow hB hrv
 have aO:=LO.below hB hLO
 have J:=hB
 replace hB:=Below.refl t.heap.size t
 have hn0:=(fz.1 hr).1
 have hn4:=(fz.1 hr).2.1
 refine Zr<|Zf rfl iA<|Zl rfl cR (On hB d) rfl<|ZZ rfl<|cy ?_
 refine cW (σ:=(Nat)×(Value)) [6,6,10,10,31,41] (λ(cc,v0)=>[(31, .int .i64 (cc:Int)),(6,v0)]) (λsg W=>match sg with|(cc,v0)=>(Below t.heap.size t W)∧(cH dX 1 3 W t.heap.size v0 (l8 ks2 cc))∧((cc:Int)≤n)∧(True)) (λ(cc,v0)=>n.toNat-cc) ((0, .slice none 0 0)) ⟨rfl,rfl,trivial⟩ ⟨hB,cH.nil,Om,trivial⟩ ?_
 rintro⟨cc,v0⟩ aP aQ ⟨hB,ho,hcc,_⟩ aR K
 refine Zr<|Zv (dq rfl rfl)<|ct<|Zq<|ZQ rfl (λap=> ?_) λap=> ?_
 refine cx<|Zq<|cy<|Zr<|Zi rfl<|ZZ rfl<|Zr<|ZL (.map (some z)) rfl zC (On hB f) rfl<|Zi rfl<|Zv (fX (enc:=eQ) (encV:=Value.bool) (v0:=false) (k:=_) rfl rfl mX gY (λa=>⟨a,rfl⟩) fV rg rfl (ac1 hB hmk))<|ct<|ZQ rfl (λB=> ?_) λB=> ?_
 refine cI<|Zw v0 rfl<|Zi rfl<|Zy (ez (u:= .int .i64 _) rfl cV eP rfl Dd Dd λaq aS aT ar au=> ?_)
 obtain⟨hB,ho⟩:=ar.k2 hB ho
 refine Zy (dP (v:=v0) (v2:= .slice (some ⟨aq,0,none⟩) 1 1) rfl rfl cV eP Dd ho (eJ au rfl) rfl (m3 hB) (by have:=mK ks2 cc;omega) (by have:=mK ks2 cc;omega) λM aU av C=> ?_)
 replace C:=cH.snoc (enc:=dX) (x:=_) rfl rfl rfl rfl C
 replace hB:=ZG hB av ho
 refine Zw M rfl<|ct<|ZT rfl rfl rfl ?_
 exact K _ _ ((cc+1,M)) Za ⟨rfl,rfl,trivial⟩ ⟨hB,(by (rw[nK,if_pos (uS B)];exact C)),Om,trivial⟩ (by show n.toNat-(cc+1)<n.toNat-cc;omega)
 refine cx<|ZT rfl rfl rfl ?_
 exact K _ _ ((cc+1,v0)) Za ⟨rfl,rfl,trivial⟩ ⟨hB,(by (rw[nK,if_neg (rE B)];exact ho)),Om,trivial⟩ (by show n.toNat-(cc+1)<n.toNat-cc;omega)
 refine cT ?_
 replace e:=On hB e
 replace d:=On hB d
 replace hrw2:=Below.ow hB hrw2
 replace hlo2:=LO.below hB hlo2
 have hzs:=go (am _) (Below.size J)
 replace ho:=cH.mono ho hzs
 replace hB:=Below.trans J (Below.mono hB hzs)
 obtain rfl:cc=n.toNat:=by omega
 refine Zd (λa b=>a.grownBy b (some y)) λaw ax=> ?_
 obtain⟨e,d,hrw2,hlo2,hB,ho⟩:=ax.k6 e d hrw2 hlo2 hB ho
 have hS:=World.grownBy.refl aw (some y)
 refine Tw 0 v0 rfl rfl hS<|Tk 1 rfl (λ_ hq=>cz rfl df rfl (At.grownNe d E hq)) hS<|Tw 2 v0 rfl rfl hS<|To 3 rfl (cA rfl rfl df rfl e rfl (by exact iO (cH.one hrw2)) λaV p ay=>⟨.inl (cB hS p),?_⟩)
 replace hS:=cB hS p
 replace hrw2:=cH.grownAt hrw2 e p Dd
 replace hlo2:=LO.grownAt hlo2 e p Dd
 replace hB:=Zg hB p R
 replace ho:=cH.grownAt ho e p Dd
 replace e:=ay
 refine Ti 4 rfl rfl hS<|Td<|Zt<|Uj (v:=v0) rfl rfl df e rfl (v2:= .int .i64 0) rfl ⟨hB,?_⟩
 exact⟨_,_,_,_,_,rfl,ho,cH.mono hrw2 (me _),hlo2,m5.ris hr hrd2,hr2,hl2,mK _ _⟩
end
section
theorem rz:na Tryz.prog 296=some (3,3):=by kernel_rfl
theorem oY (n:Int) (rv:Value) (vs:List Value) (L:ML) (w:World) (hrv:cH encV 1 35 w 0 rv vs) (hLO:LO 3 0 w vs L) (hLb:L.length≤1000000):
    Fn Tryz.prog 189 #[.agg #[.int .i64 n,rv]] w λv w'=>v= .bool (jE L L.length):=by
 refine cK (n:=16) Tryz.func189 rfl rfl rfl λhB=> ?_
 have hll:=hLO.ll
 have hvl:=hll.len
 refine Zr<|Zy (du (c:= #[_,_]) rfl rfl λd W3 i e a=> ?_)
 replace hB:=Ze hB e
 refine Zb rfl<|ct<|Zq<|Zr<|Zf rfl dU<|ZL rv rfl eM a rfl<|Zv (db (v:=rv) rfl ((Below.ow hB hrv)).sl dG)<|ZZ rfl<|cy ?_
 refine cW (σ:=(Nat)) [2,2,4,4,8,15] (λk=>[(8, .int .i64 (k:Int))]) (λk W=>(Below w.heap.size w W)∧(At W d _ 203)∧(k≤L.length)∧(∀q,q<k→¬((L.getD q []).length:Int)=0)∧(True)) (λk=>L.length-k) (0) ⟨rfl,trivial⟩ ⟨hB,a,(me _),eO,trivial⟩ ?_
 rintro k j l ⟨hB,a,hk,hq,_⟩ m f
 refine Zr<|Zv (dq rfl rfl)<|ct<|Zq<|ZQ rfl (λg=> ?_) λg=> ?_
 refine cx<|Zq<|cy<|Zr<|Zv (dp (v:=rv) rfl ((Below.ow hB hrv)).sl rfl dG Om Om)<|Zv (cD (v:=(vs.getD k undef)) rfl fv (dr.cell ((Below.ow hB hrv)).sl fZ undef Om Om 0 rfl)) ?_
 have h:dr dX 1 w ((vs.getD k undef)) (L.getD k []):=hll.get k (by omega)
 refine Zw (vs.getD k undef) rfl<|ct<|Zr<|Zw (vs.getD k undef) rfl<|Zv (db (v:=(vs.getD k undef)) rfl (Below.slT hB h) cV)<|Zv (dO rfl rfl)<|ct<|ZQ rfl (λb=> ?_) λb=> ?_
 refine Zr<|Zb rfl<|ct<|Zt<|cZ (v:= .bool false) rfl ⟨hB,?_⟩
 exact Z7 (k:=k) (by omega) b
 refine cx<|ZT rfl rfl rfl ?_
 exact f _ _ (k+1) Za ⟨rfl,trivial⟩ ⟨hB,a,Om,(dT hq b),trivial⟩ Zo
 refine cT<|Zr<|Zb rfl<|ct<|Zt<|cZ (v:= .bool true) rfl ⟨hB,?_⟩
 exact YU (by omega) hq
theorem AG (n:Int) (rv:Value) (vs:List Value) (L:ML) (w:World) (hrv:cH encV 1 35 w 0 rv vs) (hLO:LO 3 0 w vs L) (hr:dR n L=true) (hLb:L.length≤1000000):
    Fn Tryz.prog 190 #[.agg #[.int .i64 n,rv]] w λv w'=>v= .int .i64 (Fq L L.length:Int):=by
 refine cK (n:=42) Tryz.func190 rfl rfl rfl λhB=> ?_
 have hll:=hLO.ll
 have hvl:=hll.len
 refine Zr<|Zy (du (c:= #[_,_]) rfl rfl λg W3 B o b=> ?_)
 replace hB:=Ze hB o
 refine ZZ rfl<|Fx<|Zr<|Zy (hU (enc:=eQ) (encV:=Value.bool) λd W8 p r h=> ?_)
 have s:=ZO p hB
 obtain⟨hB,b⟩:=r.k2 hB b
 replace h:dy eQ Value.bool _ _ (fC []):=h
 refine Zw (.map (some d)) rfl<|ct<|Zr<|ZZ rfl<|Zq<|EQ<|Zq<|Zr<|Zf rfl dU<|ZL rv rfl eM b rfl<|Zv (db (v:=rv) rfl ((Below.ow hB hrv)).sl dG)<|Zi rfl ?_
 refine ct<|cy ?_
 refine cW (σ:=(Nat)) [4,4,6,6,8,8,10,10,15,40] (λi=>[(15, .int .i64 (i:Int)),(4, .int .i64 (Fq L i:Int))]) (λi W=>(Below w.heap.size w W)∧(At W g _ 203)∧(dy eQ Value.bool W d (fC (Bd L i)))∧(i≤L.length)∧(True)) (λi=>L.length-i) (0) ⟨rfl,rfl,trivial⟩ ⟨hB,b,h,(me _),trivial⟩ ?_
 rintro i C D ⟨hB,b,hmu,hi,_⟩ E l
 refine Zr<|Zv (dq rfl rfl)<|ct<|Zq<|ZQ rfl (λt=> ?_) λt=> ?_
 refine cx<|Zq<|cy<|Zr<|Zv (dp (v:=rv) rfl ((Below.ow hB hrv)).sl rfl dG Om Om)<|Zv (cD (v:=(vs.getD i undef)) rfl fv (dr.cell ((Below.ow hB hrv)).sl fZ undef Om Om 0 rfl)) ?_
 have e:dr dX 1 w ((vs.getD i undef)) (L.getD i []):=hll.get i (by omega)
 refine Zw (vs.getD i undef) rfl<|ct<|Zq<|Zr<|Zw (vs.getD i undef) rfl<|Zv (db (v:=(vs.getD i undef)) rfl (Below.slT hB e) cV)<|ZZ rfl<|cy ?_
 refine cW (σ:=(Nat)) [8,8,21,28] (λj=>[(21, .int .i64 (j:Int))]) (λj W=>(Below w.heap.size w W)∧(At W g _ 203)∧(dy eQ Value.bool W d _)∧(j≤(L.getD i []).length)∧(∀q,q<j→(iN (fC (Bd L i)) ((L.getD i []).getD q 0)).getD false=false)∧(True)) (λj=>(L.getD i []).length-j) (0) ⟨rfl,trivial⟩ ⟨hB,b,hmu,(me _),eO,trivial⟩ ?_
 rintro j F G ⟨hB,b,hmu,hj,hq,_⟩ H u
 have hri:=fP hr i
 have hbl:=I4 L i
 refine Zr<|Zv (dq rfl rfl)<|ct<|Zq<|ZQ rfl (λx=> ?_) λx=> ?_
 refine cx<|Zq<|cy<|Zr<|Zv (dp (v:=(vs.getD i undef)) rfl (Below.slT hB e) rfl cV Om Om)<|Zv (cD (v:= .int .i64 _) rfl cR (dr.cell (Below.slT hB e) eD 0 Om Om 0 rfl))<|ZZ rfl<|Zr<|Zw (.map (some d)) rfl<|Zi rfl<|Zv (fX (enc:=eQ) (encV:=Value.bool) (v0:=false) (k:=((L.getD i []).getD j 0)) rfl rfl mX gY (λa=>⟨a,rfl⟩) fV rg rfl hmu)<|ct ?_
 refine ZQ rfl (λf=> ?_) λf=> ?_
 refine cT ?_
 skip
 refine ZT rfl rfl rfl ?_
 exact l _ _ (i+1) Za ⟨rfl,aaE (Vh Om f),trivial⟩ ⟨hB,b,(by (rw[X3 (Vh Om f)];exact hmu)),Om,trivial⟩ Zo
 refine cx<|ZT rfl rfl rfl ?_
 exact u _ _ (j+1) Za ⟨rfl,trivial⟩ ⟨hB,b,hmu,Om,(dT hq f),trivial⟩ Zo
 refine cT ?_
 have hno:=VX (by omega) hq
 refine Zr<|Zi rfl<|Zv (d5 rfl rfl Om Om)<|ZZ rfl<|Zr<|Zw (vs.getD i undef) rfl<|Zv (db (v:=(vs.getD i undef)) rfl (Below.slT hB e) cV)<|ZZ rfl<|cy ?_
 refine cW (σ:=(Nat)) [10,10,33,39] (λj=>[(33, .int .i64 (j:Int))]) (λj W=>(Below w.heap.size w W)∧(At W g _ 203)∧(dy eQ Value.bool W d (fC (rk (Bd L i) (L.getD i []) j)))∧(j≤(L.getD i []).length)∧(True)) (λj=>(L.getD i []).length-j) (0) ⟨rfl,trivial⟩ ⟨hB,b,hmu,(me _),trivial⟩ ?_
 rintro j I J ⟨hB,b,hmu2,hj,_⟩ K y
 refine Zr<|Zv (dq rfl rfl)<|ct<|Zq<|ZQ rfl (λz=> ?_) λz=> ?_
 refine cx<|Zq<|cy<|Zr<|Zv (dp (v:=(vs.getD i undef)) rfl (Below.slT hB e) rfl cV Om Om)<|Zv (cD (v:= .int .i64 _) rfl cR (dr.cell (Below.slT hB e) eD 0 Om Om 0 rfl))<|ZZ rfl<|cI<|Zw (.map (some d)) rfl<|Zi rfl ?_
 refine gU (dd:=none) rfl rfl rfl (fN (enc:=eQ) (encV:=Value.bool) (k:=((L.getD i []).getD j 0)) (v:=true) rfl rfl rfl mX gY (λa=>⟨a,rfl⟩) fV hmu2 (λM m A=> ?_))
 replace hB:=Zg hB m s
 replace b:=At.grownMap b hmu2 m
 replace hmu2:=A
 rw[kb]at hmu2
 refine ct<|ZT rfl rfl rfl ?_
 exact y _ _ (j+1) Za ⟨rfl,trivial⟩ ⟨hB,b,(by exact hmu2),Om,trivial⟩ Zo
 refine cT ?_
 obtain rfl:j=(L.getD i []).length:=by omega
 refine ZT rfl rfl rfl ?_
 exact l _ _ (i+1) Za ⟨rfl,Y2 hno,trivial⟩ ⟨hB,b,(by (rw[ZR hno];exact hmu2)),Om,trivial⟩ Zo
 refine cT<|Zr<|Zi rfl<|ZZ rfl<|Zt<|cZ (v:= .int .i64 _) rfl ⟨hB,?_⟩
 obtain rfl:i=L.length:=by omega
 rfl
theorem pz (n:Int) (rv:Value) (vs:List Value) (L:ML) (c:Int) (w:World) (hrv:cH encV 1 35 w 0 rv vs) (hLO:LO 3 0 w vs L) (hr:dR n L=true) (hLb:L.length≤1000000):
    Fn Tryz.prog 193 #[.agg #[.int .i64 n,rv], .int .i64 c] w λv w'=>∃rv',v= .agg #[.int .i64 n,rv']∧cH encV 1 35 w' 0 rv' (ut undef (λk=> !decide (c∈L.getD k [])) vs L.length):=by
 refine cK (n:=44) Tryz.func193 rfl rfl rfl λhB=> ?_
 have hll:=hLO.ll
 have hvl:=hll.len
 refine Zr<|Zy (du (c:= #[_,_]) rfl rfl λs W3 T H a=> ?_)
 replace hB:=Ze hB H
 refine Zy (cM gv rfl λt W6 I J d=> ?_)
 have K:=ZO I hB
 obtain⟨hB,a⟩:=J.k2 hB a
 refine ct<|Zr<|Zf rfl iA<|Zl rfl cR a rfl<|Zv (kw (h0:=rfl) (k0:=rfl) (c0_0:= .int .i64 _))<|Zy (cM gv rfl λy U m M e=> ?_)
 have z:=ZO m hB
 have A:=Zn m a.lt
 have B:=Zn m d.lt
 obtain⟨hB,a,d⟩:=M.k3 hB a d
 refine Zy (cA rfl rfl df rfl e rfl rfl λV o N=> ?_)
 replace hB:=Zg hB o z
 replace a:=At.grownNe a A o
 replace d:=At.grownNe d B o
 replace e:=N
 refine ct<|Zq<|Zr<|Zf rfl dU<|ZL rv rfl eM a rfl<|Zv (db (v:=rv) rfl ((Below.ow hB hrv)).sl dG)<|ZZ rfl<|cy ?_
 refine cW (σ:=(Nat)×(Value)) [7,8,10,10,17,42] (λ(k,v0)=>[(17, .int .i64 (k:Int))]) (λsg W=>match sg with|(k,v0)=>(Below w.heap.size w W)∧(At W s _ 203)∧(At W t _ 203)∧(At W y #[.int .i64 n,v0] 203)∧(cH encV 1 35 W w.heap.size v0 (ut undef (λk=> !decide (c∈L.getD k [])) vs k))∧(k≤L.length)∧(True)) (λ(k,v0)=>L.length-k) ((0, .slice none 0 0)) ⟨rfl,trivial⟩ ⟨hB,a,d,e,cH.nil,(me _),trivial⟩ ?_
 rintro⟨k,v0⟩ X Y ⟨hB,a,d,e,ho,hk,_⟩ Z C
 refine Zr<|Zv (dq rfl rfl)<|ct<|Zq<|ZQ rfl (λO=> ?_) λO=> ?_
 refine cx<|Zq<|cy<|Zr<|Zv (dp (v:=rv) rfl ((Below.ow hB hrv)).sl rfl dG Om Om)<|Zv (cD (v:=(vs.getD k undef)) rfl fv (dr.cell ((Below.ow hB hrv)).sl fZ undef Om Om 0 rfl)) ?_
 have f:dr dX 1 w ((vs.getD k undef)) (L.getD k []):=hll.get k (by omega)
 refine Zw (vs.getD k undef) rfl<|ct<|Zr<|Zb rfl<|ct<|Zq<|Zr<|Zw (vs.getD k undef) rfl<|Zv (db (v:=(vs.getD k undef)) rfl (Below.slT hB f) cV)<|ZZ rfl<|cy ?_
 refine cW (σ:=(Nat)) [8,8,10,10,23,33] (λj=>[(23, .int .i64 (j:Int)),(8, .bool (decide (c∈(L.getD k []).take j)))]) (λj W=>(Below w.heap.size w W)∧(At W s _ 203)∧(At W t _ 203)∧(At W y _ 203)∧(cH encV 1 35 W w.heap.size v0 _)∧(j≤(L.getD k []).length)∧(True)) (λj=>(L.getD k []).length-j) (0) ⟨rfl,rfl,trivial⟩ ⟨hB,a,d,e,ho,(me _),trivial⟩ ?_
 rintro j aa ab ⟨hB,a,d,e,ho,hj,_⟩ ac D
 have hri:=fP hr k
 refine Zr<|Zv (dq rfl rfl)<|ct<|Zq<|ZQ rfl (λP=> ?_) λP=> ?_
 refine cx<|Zq<|cy<|Zr<|Zv (dp (v:=(vs.getD k undef)) rfl (Below.slT hB f) rfl cV Om Om)<|Zv (cD (v:= .int .i64 _) rfl cR (dr.cell (Below.slT hB f) eD 0 Om Om 0 rfl))<|ZZ rfl<|cI<|Zb rfl<|ZX rfl (λp=> ?_) λp=> ?_
 refine Zs<|Zs<|Zs<|Zb rfl<|Zb rfl<|ct<|ZT rfl rfl rfl ?_
 exact D _ _ (j+1) Za ⟨rfl,abt p,trivial⟩ ⟨hB,a,d,e,ho,Om,trivial⟩ Zo
 refine Zi rfl<|Zi rfl<|Zv (dO rfl rfl)<|Zb rfl<|Zb rfl<|ct<|ZT rfl rfl rfl ?_
 exact D _ _ (j+1) Za ⟨rfl,abP Om p,trivial⟩ ⟨hB,a,d,e,ho,Om,trivial⟩ Zo
 refine cT ?_
 obtain rfl:j=(L.getD k []).length:=by omega
 refine Zr<|Zb rfl<|Zv (eK rfl)<|ct<|ZQ rfl (λh=> ?_) λh=> ?_
 have hkl:=Ev undef (λk=> !decide (c∈L.getD k [])) vs k
 refine cI<|Zf rfl dU<|ZL v0 rfl eM e rfl<|Zw (vs.getD k undef) rfl<|Zy (ez (u:=(vs.getD k undef)) rfl dG jJ (by rw[dr.cells (Below.slT hB f)];rfl) Dd Dd λq ad r Q E=> ?_)
 have ae:=ZO r hB
 have af:=acm (b:=q) (Below.ow hB hrv) (aaR r.symm)
 have ag:=acm (b:=q) ho (aaR r.symm)
 obtain⟨hB,a,d,e,ho⟩:=Q.k5 hB a d e ho
 rw[dr.cells (Below.slT hB f)]at E
 refine Zy (dP (v:=v0) (v2:= .slice (some ⟨q,0,none⟩) 1 1) rfl rfl dG jJ Dd ho (eJ E rfl) (by simp only[acL,adj,dr.one (Below.slT hB f),acx]) (m3 hB) (by omega) (by omega) λF ah i g=> ?_)
 replace g:=cH.snoc (enc:=encV) (x:=(vs.getD k undef)) rfl rfl rfl rfl g
 replace hB:=ZG hB i ho
 replace a:=At.grownOw a ho i Dd
 replace d:=At.grownOw d ho i Dd
 replace e:=At.grownOw e ho i Dd
 refine Zf rfl dU<|Zy (de (v:=F) rfl rfl eM (dr.one g.sl) e fF λai l R=> ?_)
 replace hB:=Zg hB l z
 replace a:=At.grownNe a A l
 replace d:=At.grownNe d B l
 replace g:=cH.grownAt g e l Dd
 replace e:=R
 replace e:At _ _ #[_,_] _:=e
 refine ct<|ZT rfl rfl rfl ?_
 exact C _ _ ((k+1,F)) Za ⟨rfl,trivial⟩ ⟨hB,a,d,(by exact e),(by (rw[←UA (by rw[aaY]at h;exact h)];exact g)),Om,trivial⟩ (by show L.length-(k+1)<L.length-k;omega)
 refine cx<|ZT rfl rfl rfl ?_
 exact C _ _ ((k+1,v0)) Za ⟨rfl,trivial⟩ ⟨hB,a,d,(by exact e),(by (rw[←UP (by rw[aaY]at h;exact h)];exact ho)),Om,trivial⟩ (by show L.length-(k+1)<L.length-k;omega)
 refine cT<|Zr<|Zv (cz rfl df rfl e)<|Zy (cA rfl rfl df rfl d rfl (by exact iO (cH.one ho)) λaj G S=> ?_)
 replace hB:=Zg hB G K
 replace ho:=cH.grownAt ho d G Dd
 replace d:=S
 refine ct<|Zt<|jp rfl df d rfl ⟨hB,?_⟩
 obtain rfl:k=L.length:=by omega
 exact⟨_,rfl,cH.mono ho (me _)⟩
theorem Bw (n:Int) (rv:Value) (vs:List Value) (L:ML) (c:Int) (w:World) (hrv:cH encV 1 35 w 0 rv vs) (hLO:LO 3 0 w vs L) (hr:dR n L=true) (hLb:L.length≤1000000):
    Fn Tryz.prog 192 #[.agg #[.int .i64 n,rv], .int .i64 c] w λv w'=>∃rv' vs',v= .agg #[.int .i64 n,rv']∧cH encV 1 35 w' 0 rv' vs'∧LO 3 w.heap.size w' vs' (qE L c):=by
 refine cK (n:=43) Tryz.func192 rfl rfl rfl λhB=> ?_
 have hll:=hLO.ll
 have hvl:=hll.len
 refine Zr<|Zy (du (c:= #[_,_]) rfl rfl λG W3 ac H d=> ?_)
 replace hB:=Ze hB H
 refine Zy (cM gv rfl λI W6 J K a=> ?_)
 have M:=ZO J hB
 obtain⟨hB,d⟩:=K.k2 hB d
 refine ct<|Zr<|Zf rfl iA<|Zl rfl cR d rfl<|Zv (kw (h0:=rfl) (k0:=rfl) (c0_0:= .int .i64 _))<|Zy (cM gv rfl λN ad l O e=> ?_)
 have y:=ZO l hB
 have z:=Zn l d.lt
 have A:=Zn l a.lt
 obtain⟨hB,d,a⟩:=O.k3 hB d a
 refine Zy (cA rfl rfl df rfl e rfl rfl λae m P=> ?_)
 replace hB:=Zg hB m y
 replace d:=At.grownNe d z m
 replace a:=At.grownNe a A m
 replace e:=P
 refine ct<|Zq<|Zr<|Zf rfl dU<|ZL rv rfl eM d rfl<|Zv (db (v:=rv) rfl ((Below.ow hB hrv)).sl dG)<|ZZ rfl<|cy ?_
 refine cW (σ:=(Nat)×(Value)×(List Value)) [7,8,10,10,17,41] (λ(k,v0,vn)=>[(17, .int .i64 (k:Int))]) (λsg W=>match sg with|(k,v0,vn)=>(Below w.heap.size w W)∧(At W G _ 203)∧(At W I _ 203)∧(At W N #[.int .i64 n,v0] 203)∧(cH encV 1 35 W w.heap.size v0 (vn))∧(LO 3 w.heap.size W vn (qE (L.take k) c))∧(k≤L.length)∧(True)) (λ(k,v0,vn)=>L.length-k) ((0, .slice none 0 0,[])) ⟨rfl,trivial⟩ ⟨hB,d,a,e,cH.nil,LO.nil,(me _),trivial⟩ ?_
 rintro⟨k,v0,vn⟩ af i ⟨hB,d,a,e,ho,hlo,hk,_⟩ ag Q
 refine Zr<|Zv (dq rfl rfl)<|ct<|Zq<|ZQ rfl (λR=> ?_) λR=> ?_
 refine cx<|Zq<|cy<|Zr<|Zv (dp (v:=rv) rfl ((Below.ow hB hrv)).sl rfl dG Om Om)<|Zv (cD (v:=(vs.getD k undef)) rfl fv (dr.cell ((Below.ow hB hrv)).sl fZ undef Om Om 0 rfl)) ?_
 have S:dr dX 1 w ((vs.getD k undef)) (L.getD k []):=hll.get k (by omega)
 refine Zw (vs.getD k undef) rfl<|ct ?_
 have ah:=Below.ow hB hrv
 have ai:=LO.below hB hLO
 have o:=Below.slT hB S
 have B:=hB
 replace hB:=Below.refl i.heap.size i
 refine Zr<|Zw (.slice none 0 0) rfl<|ct<|Zq<|Zr<|Zw (vs.getD k undef) rfl<|Zv (db (v:=(vs.getD k undef)) rfl (Below.slT hB o) cV)<|ZZ rfl<|cy ?_
 refine cW (σ:=(Nat)×(Value)) [8,8,10,10,23,34] (λ(j,v1)=>[(23, .int .i64 (j:Int)),(8,v1)]) (λsg W=>match sg with|(j,v1)=>(Below i.heap.size i W)∧(cH dX 1 3 W i.heap.size v1 (Cn ((L.getD k []).take j) c))∧(j≤(L.getD k []).length)∧(True)) (λ(j,v1)=>(L.getD k []).length-j) ((0, .slice none 0 0)) ⟨rfl,rfl,trivial⟩ ⟨hB,cH.nil,(me _),trivial⟩ ?_
 rintro⟨j,v1⟩ aj ak ⟨hB,hrst,hj,_⟩ al C
 refine Zr<|Zv (dq rfl rfl)<|ct<|Zq<|ZQ rfl (λT=> ?_) λT=> ?_
 refine cx<|Zq<|cy ?_
 have hrl:=Kq (L.getD k []) c j
 have hr4:=fP hr k
 refine Zr<|Zv (dp (v:=(vs.getD k undef)) rfl (Below.slT hB o) rfl cV Om Om)<|Zv (cD (v:= .int .i64 _) rfl cR (dr.cell (Below.slT hB o) eD 0 Om Om 0 rfl))<|ZZ rfl<|Zr<|Zi rfl<|Zi rfl<|Zv (eV rfl rfl)<|ct<|ZQ rfl (λp=> ?_) λp=> ?_
 refine cI<|Zw v1 rfl<|Zi rfl<|Zy (ez (u:= .int .i64 _) rfl cV eP rfl Dd Dd λU ao ap V X=> ?_)
 obtain⟨hB,hrst⟩:=V.k2 hB hrst
 refine Zy (dP (v:=v1) (v2:= .slice (some ⟨U,0,none⟩) 1 1) rfl rfl cV eP Dd hrst (eJ X rfl) rfl (m3 hB) (by omega) (by omega) λD aq Y q=> ?_)
 replace q:=cH.snoc (enc:=dX) (x:=_) rfl rfl rfl rfl q
 replace hB:=ZG hB Y hrst
 refine Zw D rfl<|ct<|ZT rfl rfl rfl ?_
 exact C _ _ ((j+1,D)) Za ⟨rfl,rfl,trivial⟩ ⟨hB,(by (rw[←Vk (k:=j) Om p];exact q)),Om,trivial⟩ (by show (L.getD k []).length-(j+1)<(L.getD k []).length-j;omega)
 refine cx<|ZT rfl rfl rfl ?_
 exact C _ _ ((j+1,v1)) Za ⟨rfl,rfl,trivial⟩ ⟨hB,(by (rw[←Vb (k:=j) Om (aaS p)];exact hrst)),Om,trivial⟩ (by show (L.getD k []).length-(j+1)<(L.getD k []).length-j;omega)
 refine cT ?_
 replace d:=On hB d
 replace a:=On hB a
 replace e:=On hB e
 replace ho:=Below.ow hB ho
 replace hlo:=LO.below hB hlo
 have hzs:=go (am _) (Below.size B)
 replace hrst:=cH.mono hrst hzs
 replace hB:=Below.trans B (Below.mono hB hzs)
 obtain rfl:j=(L.getD k []).length:=by omega
 rw[aaY]at hrst
 have hcl:=KH L c k
 have hvn:=hlo.len
 refine cI<|Zf rfl dU<|ZL v0 rfl eM e rfl<|Zw v1 rfl<|Zy (ez (u:=v1) rfl dG jJ (by rw[dr.cells hrst.sl];rfl) Dd Dd λr ar s Z E=> ?_)
 have au:=ZO s hB
 have av:=acm (b:=r) (Below.ow hB hrv) (aaR s.symm)
 have aw:=acm (b:=r) ho (aaR s.symm)
 obtain⟨d,a,e,ho,hlo,hB,hrst⟩:=Z.k7 d a e ho hlo hB hrst
 rw[dr.cells hrst.sl]at E
 refine Zy (dP (v:=v0) (v2:= .slice (some ⟨r,0,none⟩) 1 1) rfl rfl dG jJ Dd ho (eJ E rfl) (by exact UY (cH.one hrst)) (m3 hB) (by omega) (by omega) λF ax f g=> ?_)
 replace g:=cH.snoc (enc:=encV) (x:=v1) rfl rfl rfl rfl g
 replace d:=At.grownOw d ho f Dd
 replace a:=At.grownOw a ho f Dd
 replace e:=At.grownOw e ho f Dd
 replace hlo:=LO.grownOw hlo ho f Dd
 replace hB:=ZG hB f ho
 replace hrst:=cH.grownOw hrst ho f Dd
 refine Zf rfl dU<|Zy (de (v:=F) rfl rfl eM (dr.one g.sl) e fF λay h aa=> ?_)
 replace d:=At.grownNe d z h
 replace a:=At.grownNe a A h
 replace hlo:=LO.grownAt hlo e h Dd
 replace hB:=Zg hB h y
 replace hrst:=cH.grownAt hrst e h Dd
 replace g:=cH.grownAt g e h Dd
 replace e:=aa
 replace e:At _ _ #[_,_] _:=e
 refine ct<|ZT rfl rfl rfl ?_
 exact Q _ _ ((k+1,F,vn++[v1])) Za ⟨rfl,trivial⟩ ⟨hB,d,a,(by exact e),(by exact g),(by rw[←GX Om];exact LO.snoc hlo hrst),Om,trivial⟩ (by show L.length-(k+1)<L.length-k;omega)
 refine cT<|Zr<|Zv (cz rfl df rfl e)<|Zy (cA rfl rfl df rfl a rfl (by exact iO (cH.one ho)) λaz t ab=> ?_)
 replace hB:=Zg hB t M
 replace ho:=cH.grownAt ho a t Dd
 replace hlo:=LO.grownAt hlo a t Dd
 replace a:=ab
 refine ct<|Zt<|jp rfl df a rfl ⟨hB,?_⟩
 exact⟨_,_,rfl,cH.mono ho (me _),by rw[←Ks (k:=k) Om];exact hlo⟩
theorem pt (n:Int) (rv:Value) (vs:List Value) (L:ML) (w:World) (hrv:cH encV 1 35 w 0 rv vs) (hLO:LO 3 0 w vs L) (hr:dR n L=true) (hLb:L.length≤1000000):
    Fn Tryz.prog 191 #[.agg #[.int .i64 n,rv]] w λv w'=>∃c,v= .int .i64 c∧((∃k,k<L.length∧0<(L.getD k []).length)→sQ L c):=by
 refine cK (n:=61) Tryz.func191 rfl rfl rfl λhB=> ?_
 have hll:=hLO.ll
 have hvl:=hll.len
 refine Zr<|Zy (du (c:= #[_,_]) rfl rfl λp W3 Q x b=> ?_)
 replace hB:=Ze hB x
 refine ZZ rfl<|Zr<|Zy (hU (enc:=eQ) (encV:=eQ) λf W8 y z q=> ?_)
 have A:=ZO y hB
 obtain⟨hB,b⟩:=z.k2 hB b
 replace q:dy eQ eQ _ _ []:=q
 refine Zw (.map (some f)) rfl<|ct<|Zr<|ZZ rfl<|Zq<|Zr<|Zf rfl dU<|ZL rv rfl eM b rfl<|Zv (db (v:=rv) rfl ((Below.ow hB hrv)).sl dG)<|ZZ rfl<|cy ?_
 refine cW (σ:=(Nat)×(List (Int×Int))) [6,6,8,8,15,30] (λ(i,l)=>[(15, .int .i64 (i:Int))]) (λsg W=>match sg with|(i,l)=>(Below w.heap.size w W)∧(At W p _ 203)∧(dy eQ eQ W f l)∧(i≤L.length)∧(Bb L i (i*4001) l)∧(True)) (λ(i,l)=>L.length-i) ((0,[])) ⟨rfl,trivial⟩ ⟨hB,b,q,(me _),(Bb.mono Bb.nil Om),trivial⟩ ?_
 rintro⟨i,l⟩ R S ⟨hB,b,hmc,hi,g,_⟩ T B
 refine Zr<|Zv (dq rfl rfl)<|ct<|Zq<|ZQ rfl (λC=> ?_) λC=> ?_
 refine cx<|Zq<|cy<|Zr<|Zv (dp (v:=rv) rfl ((Below.ow hB hrv)).sl rfl dG Om Om)<|Zv (cD (v:=(vs.getD i undef)) rfl fv (dr.cell ((Below.ow hB hrv)).sl fZ undef Om Om 0 rfl)) ?_
 have r:dr dX 1 w ((vs.getD i undef)) (L.getD i []):=hll.get i (by omega)
 refine Zw (vs.getD i undef) rfl<|ct<|Zr<|Zw (vs.getD i undef) rfl<|Zv (db (v:=(vs.getD i undef)) rfl (Below.slT hB r) cV)<|ZZ rfl<|cy ?_
 refine cW (σ:=(Nat)×(List (Int×Int))) [8,8,21,29] (λ(j,l2)=>[(21, .int .i64 (j:Int))]) (λsg W=>match sg with|(j,l2)=>(Below w.heap.size w W)∧(At W p _ 203)∧(dy eQ eQ W f l2)∧(j≤(L.getD i []).length)∧(Bb L i (i*4001+j) l2)∧(0<j→l2≠[])∧(True)) (λ(j,l2)=>(L.getD i []).length-j) ((0,l)) ⟨rfl,trivial⟩ ⟨hB,b,hmc,(me _),(Bb.mono g Om),(λh=>absurd h (Nat.lt_irrefl _)),trivial⟩ ?_
 rintro⟨j,l2⟩ U V ⟨hB,b,hmc2,hj,hbu,hne,_⟩ X D
 have hri:=fP hr i
 refine Zr<|Zv (dq rfl rfl)<|ct<|Zq<|ZQ rfl (λE=> ?_) λE=> ?_
 refine cx<|Zq<|cy<|Zr<|Zv (dp (v:=(vs.getD i undef)) rfl (Below.slT hB r) rfl cV Om Om)<|Zv (cD (v:= .int .i64 _) rfl cR (dr.cell (Below.slT hB r) eD 0 Om Om 0 rfl))<|ZZ rfl ?_
 have hgl:=hbu.get ((L.getD i []).getD j 0)
 refine cI<|Zw (.map (some f)) rfl<|Zi rfl<|Zv (fX (enc:=eQ) (encV:=eQ) (v0:=0) (k:=((L.getD i []).getD j 0)) rfl rfl rz gY (λa=>⟨a,rfl⟩) fV xd rfl hmc2)<|Zv (d5 rfl rfl Om Om) ?_
 refine gU (dd:=none) rfl rfl rfl (fN (enc:=eQ) (encV:=eQ) (k:=((L.getD i []).getD j 0)) (v:=_) rfl rfl rfl rz gY (λa=>⟨a,rfl⟩) fV hmc2 (λY u F=> ?_))
 replace hB:=Zg hB u A
 replace b:=At.grownMap b hmc2 u
 replace hmc2:=F
 refine ct<|ZT rfl rfl rfl ?_
 exact D _ _ ((j+1,iM l2 ((L.getD i []).getD j 0) ((iN l2 ((L.getD i []).getD j 0)).getD 0+1))) Za ⟨rfl,trivial⟩ ⟨hB,b,(by exact hmc2),Om,(Bb.mono (Bb.put hbu Om Om) Om),(λ_=>KA),trivial⟩ (by show (L.getD i []).length-(j+1)<(L.getD i []).length-j;omega)
 refine cT<|ZT rfl rfl rfl ?_
 exact B _ _ ((i+1,l2)) Za ⟨rfl,trivial⟩ ⟨hB,b,(by exact hmc2),Om,(hbu.next (λh=>hne Om) Om),trivial⟩ (by show L.length-(i+1)<L.length-i;omega)
 refine cT<|Zq<|Zr<|Zw (.map (some f)) rfl<|Zy (D1 rfl rz hmc λG Z H I d=> ?_)
 have J:=ZO H hB
 obtain⟨hB,b,hmc⟩:=I.k3 hB b hmc
 refine ct<|cy ?_
 refine cW (σ:=(List Int)×(Int)) [4,4,9,10,33,59] (λ(seen,bb)=>[(4, .int .i64 bb)]) (λsg W=>match sg with|(seen,bb)=>(Below w.heap.size w W)∧(At W p _ 203)∧(dy eQ eQ W f _)∧(eT eQ eQ W G f l seen)∧(BeP L seen bb)∧(True)) (λ(seen,bb)=>l.length-seen.length) (([],-1)) ⟨rfl,trivial⟩ ⟨hB,b,hmc,d,(.inl ⟨rfl,rfl⟩),trivial⟩ ?_
 rintro⟨seen,bb⟩ aa ab ⟨hB,b,hmc,d,hbe,_⟩ ac m
 refine Zr ?_
 refine gU (dd:=some 33) rfl rfl rfl (HP rfl d (λK=> ?_) (λe ad ae o af s M=> ?_))
 refine Zv (rZ rfl)<|ct<|Zq<|dE rfl<|cT ?_
 obtain rfl:i=L.length:=by omega
 refine Zr<|Zi rfl<|ZZ rfl<|Zt<|cZ (v:= .int .i64 _) rfl ⟨hB,?_⟩
 exact⟨_,rfl,VL hbe g rfl K⟩
 replace hB:=Zg hB s J
 replace b:=adI b d s
 replace hmc:=adC hmc d s
 replace d:=M
 refine Zv (gj rfl)<|ct<|Zq<|cN rfl<|cx<|cy<|Zr<|Zv (Et rfl d o)<|Zv (c7 rfl)<|Zv (da rfl)<|Zi rfl<|ZZ rfl ?_
 refine Zr<|Zi rfl<|Zv (dq rfl rfl)<|ZX rfl (λt=> ?_) λt=> ?_
 refine Zs<|Zs<|Zs<|Zs<|Zs<|Zb rfl<|Zb rfl<|Zs<|Zs<|Zs<|Zs<|Zs<|Zs<|Zs ?_
 refine Zs<|Zs<|Zs<|Zb rfl<|ct<|cN rfl<|cI<|Zi rfl<|ZZ rfl ?_
 exact m _ _ ((e::seen,e)) Za ⟨rfl,trivial⟩ ⟨hB,b,hmc,d,(IO hr g o),trivial⟩ (by have hle:=adE d;show l.length-(e::seen).length<l.length-seen.length;simp only[aaW]at hle ⊢;omega)
 refine Zi rfl<|Zw (.map (some f)) rfl<|Zi rfl<|Zv (fX (enc:=eQ) (encV:=eQ) (v0:=0) (k:=_) rfl rfl rz gY (λa=>⟨a,rfl⟩) fV xd rfl hmc)<|Zv (gQ rfl rfl)<|Zb rfl<|ZX rfl (λN=> ?_) λN=> ?_
 refine Zs<|Zs<|Zs<|Zs<|Zs<|Zs<|Zs<|Zs<|Zs<|Zs<|Zb rfl<|ct<|cN rfl<|cI ?_
 refine Zi rfl<|ZZ rfl ?_
 exact m _ _ ((e::seen,e)) Za ⟨rfl,trivial⟩ ⟨hB,b,hmc,d,(IO hr g o),trivial⟩ (by have hle:=adE d;show l.length-(e::seen).length<l.length-seen.length;simp only[aaW]at hle ⊢;omega)
 refine Zi rfl<|Zw (.map (some f)) rfl<|Zi rfl<|Zv (fX (enc:=eQ) (encV:=eQ) (v0:=0) (k:=_) rfl rfl rz gY (λa=>⟨a,rfl⟩) fV xd rfl hmc)<|Zv (dO rfl rfl)<|ZX rfl (λO=> ?_) λO=> ?_
 refine Zi rfl<|Zi rfl<|Zv (dq rfl rfl)<|Zb rfl<|Zb rfl<|ct<|ZQ rfl (λP=> ?_) λP=> ?_
 refine cI<|Zi rfl<|ZZ rfl ?_
 exact m _ _ ((e::seen,e)) Za ⟨rfl,trivial⟩ ⟨hB,b,hmc,d,(IO hr g o),trivial⟩ (by have hle:=adE d;show l.length-(e::seen).length<l.length-seen.length;simp only[aaW]at hle ⊢;omega)
 refine cx ?_
 exact m _ _ ((e::seen,bb)) Za ⟨rfl,trivial⟩ ⟨hB,b,hmc,d,(Pn hbe t),trivial⟩ (by have hle:=adE d;show l.length-(e::seen).length<l.length-seen.length;simp only[aaW]at hle ⊢;omega)
 refine Zs<|Zs<|Zs<|Zb rfl<|Zb rfl<|ct<|dE rfl<|cx ?_
 exact m _ _ ((e::seen,bb)) Za ⟨rfl,trivial⟩ ⟨hB,b,hmc,d,(Pn hbe t),trivial⟩ (by have hle:=adE d;show l.length-(e::seen).length<l.length-seen.length;simp only[aaW]at hle ⊢;omega)
theorem qT (xl:Value) (l:List Int) (n:Int) (w:World) (hl:dr dX 1 w xl l) (hlb:l.length≤1000000) (hn:0≤n∧n≤4000):
    Fn Tryz.prog 194 #[xl, .int .i64 n] w λv w'=>cH dX 1 3 w' w.heap.size v (l8 l n.toNat):=by
 refine cK (n:=33) Tryz.func194 rfl rfl rfl λhB=> ?_
 refine Zr<|Zw (.slice none 0 0) rfl<|ct<|Zr<|Zy (hU (enc:=eQ) (encV:=Value.bool) λb W5 i j c=> ?_)
 have m:=ZO i hB
 replace hB:=Ze hB j
 replace c:dy eQ Value.bool _ _ (fC []):=c
 refine Zw (.map (some b)) rfl<|ct<|Zq<|Zr<|Zw xl rfl<|Zv (db (v:=xl) rfl (Below.slT hB hl) cV)<|ZZ rfl<|cy ?_
 refine cW (σ:=(Nat)) [7,7,13,19] (λk=>[(13, .int .i64 (k:Int))]) (λk W=>(Below w.heap.size w W)∧(dy eQ Value.bool W b (fC (rk [] l k)))∧(k≤l.length)∧(True)) (λk=>l.length-k) (0) ⟨rfl,trivial⟩ ⟨hB,c,(me _),trivial⟩ ?_
 rintro k A B ⟨hB,hmk,hk,_⟩ C o
 refine Zr<|Zv (dq rfl rfl)<|ct<|Zq<|ZQ rfl (λp=> ?_) λp=> ?_
 refine cx<|Zq<|cy<|Zr<|Zv (dp (v:=xl) rfl (Below.slT hB hl) rfl cV Om Om)<|Zv (cD (v:= .int .i64 _) rfl cR (dr.cell (Below.slT hB hl) eD 0 Om Om 0 rfl))<|ZZ rfl<|cI<|Zw (.map (some b)) rfl<|Zi rfl ?_
 refine gU (dd:=none) rfl rfl rfl (fN (enc:=eQ) (encV:=Value.bool) (k:=(l.getD k 0)) (v:=true) rfl rfl rfl mX gY (λa=>⟨a,rfl⟩) fV hmk (λD q r=> ?_))
 replace hB:=Zg hB q m
 replace hmk:=r
 rw[kb]at hmk
 refine ct<|ZT rfl rfl rfl ?_
 exact o _ _ (k+1) Za ⟨rfl,trivial⟩ ⟨hB,(by exact hmk),Om,trivial⟩ Zo
 refine cT<|Zr<|Zw (.slice none 0 0) rfl<|ct<|Zq ?_
 obtain rfl:k=l.length:=by omega
 refine Zr<|Zi rfl<|ZZ rfl<|cy ?_
 refine cW (σ:=(Nat)×(Value)) [8,9,21,31] (λ(cc,v0)=>[(21, .int .i64 (cc:Int)),(8,v0)]) (λsg W=>match sg with|(cc,v0)=>(Below w.heap.size w W)∧(dy eQ Value.bool W b _)∧(cH dX 1 3 W w.heap.size v0 (l8 (rk [] l l.length) cc))∧((cc:Int)≤n)∧(True)) (λ(cc,v0)=>n.toNat-cc) ((0, .slice none 0 0)) ⟨rfl,rfl,trivial⟩ ⟨hB,hmk,cH.nil,Om,trivial⟩ ?_
 rintro⟨cc,v0⟩ E F ⟨hB,hmk,ho,hcc,_⟩ G f
 refine Zr<|Zv (dq rfl rfl)<|ct<|Zq<|ZQ rfl (λs=> ?_) λs=> ?_
 refine cx<|Zq<|cy<|Zr<|Zi rfl<|ZZ rfl<|Zr<|Zw (.map (some b)) rfl<|Zi rfl<|Zv (fX (enc:=eQ) (encV:=Value.bool) (v0:=false) (k:=_) rfl rfl mX gY (λa=>⟨a,rfl⟩) fV rg rfl hmk)<|ct<|ZQ rfl (λd=> ?_) λd=> ?_
 refine cI<|Zw v0 rfl<|Zi rfl<|Zy (ez (u:= .int .i64 _) rfl cV eP rfl Dd Dd λt H I y z=> ?_)
 obtain⟨hB,hmk,ho⟩:=y.k3 hB hmk ho
 refine Zy (dP (v:=v0) (v2:= .slice (some ⟨t,0,none⟩) 1 1) rfl rfl cV eP Dd ho (eJ z rfl) rfl (m3 hB) (by have:=mK (rk [] l l.length) cc;omega) (by have:=mK (rk [] l l.length) cc;omega) λg J h e=> ?_)
 replace e:=cH.snoc (enc:=dX) (x:=_) rfl rfl rfl rfl e
 replace hB:=ZG hB h ho
 replace hmk:=dy.grownOw hmk ho h
 refine Zw g rfl<|ct<|ZT rfl rfl rfl ?_
 exact f _ _ ((cc+1,g)) Za ⟨rfl,rfl,trivial⟩ ⟨hB,hmk,(by (rw[nK,if_pos (uS d)];exact e)),Om,trivial⟩ (by show n.toNat-(cc+1)<n.toNat-cc;omega)
 refine cx<|ZT rfl rfl rfl ?_
 exact f _ _ ((cc+1,v0)) Za ⟨rfl,rfl,trivial⟩ ⟨hB,hmk,(by (rw[nK,if_neg (rE d)];exact ho)),Om,trivial⟩ (by show n.toNat-(cc+1)<n.toNat-cc;omega)
 refine cT ?_
 obtain rfl:cc=n.toNat:=by omega
 rw[Ur]at ho
 refine Zr<|Zw v0 rfl<|Zw v0 rfl<|ct<|Zt<|cZ (v:=v0) rfl ⟨hB,?_⟩
 exact ho
end
section
theorem Kd:cY Tryz.prog 189=true:=by kernel_rfl
theorem KW:cY Tryz.prog 191=true:=by kernel_rfl
theorem Jt:cY Tryz.prog 193=true:=by kernel_rfl
theorem Jz:cY Tryz.prog 194=true:=by kernel_rfl
theorem yc (n:Int) (rv:Value) (vs:List Value) (L:ML) (w:World) (hrv:cH encV 1 35 w 0 rv vs) (hLO:LO 3 0 w vs L) (hr:dR n L=true) (hLb:L.length≤1000000) (hfu:jE L L.length=true):
    Fn Tryz.prog 188 #[.agg #[.int .i64 n,rv]] w λv w'=>∃tv T,v= .tuple #[tv, .int .i64 0]∧cH dX 1 3 w' w.heap.size tv T∧oa L T∧T.length≤4000:=by
 refine cK (n:=33) Tryz.func188 rfl rfl rfl λhB=> ?_
 have hll:=hLO.ll
 have hvl:=hll.len
 refine Zr<|Zy (du (c:= #[_,_]) rfl rfl λE W3 ae F d=> ?_)
 replace hB:=Ze hB F
 refine Zw (.slice none 0 0) rfl<|ZZ rfl<|Zq<|cy<|Zr<|Zv (cz rfl df rfl d)<|ZC (vs:=[.agg #[_,_]]) vj (kr n _ _ L _ ((Below.ow hB hrv)).sl (LO.mono (LO.below hB hLO) (me _)).ll hLb (λi=>go (fP hr i) Dd)) rfl λaf ag G H=> ?_
 obtain⟨hB,d⟩:=G.k2 hB d
 obtain rfl:=H
 refine Zv (eK rfl)<|Zb rfl<|ct<|ZQ rfl (λs=> ?_) λs=> ?_
 exact absurd (kh s) (by rw[hr];decide)
 refine Zr<|Zv (cz rfl df rfl d)<|ZC (vs:=[.agg #[_,_]]) Kd (oY n _ _ _ _ (cH.mono (Below.ow hB hrv) (me _)) (LO.mono (LO.below hB hLO) (me _)) hLb) rfl λah ai I J=> ?_
 obtain⟨hB,d⟩:=I.k2 hB d
 obtain rfl:=J
 refine Zv (eK rfl)<|Zb rfl<|ct<|ZQ rfl (λt=> ?_) λt=> ?_
 exact absurd (kh t) (by rw[hfu];decide)
 refine cx<|Zr<|Zw (.slice none 0 0) rfl<|ct<|Zr<|Zv (cz rfl df rfl d)<|Zy (cM gv rfl λK aj y M e=> ?_)
 have z:=ZO y hB
 have A:=Zn y d.lt
 obtain⟨hB,d⟩:=M.k2 hB d
 refine Zy (cA rfl rfl df rfl e rfl (by exact iO (cH.one hrv)) λak B N=> ?_)
 replace hB:=Zg hB B z
 replace d:=At.grownNe d A B
 replace e:=N
 refine ct<|Zq<|cy ?_
 refine cW (σ:=(Value)×(List Value)×(ML)×(Value)×(List Int)) [4,4,6,6,16,28] (λ(rv1,g,L1,v0,out)=>[(4,v0)]) (λsg W=>match sg with|(rv1,g,L1,v0,out)=>(Below w.heap.size w W)∧(At W E _ 203)∧(At W K #[.int .i64 n,rv1] 203)∧(cH encV 1 35 W 0 rv1 g)∧(cH dX 1 3 W w.heap.size v0 (out))∧(LO 3 0 w g L1)∧(ON n L L1 out)∧(L1.length≤1000000)∧(True)) (λ(rv1,g,L1,v0,out)=>L1.length) ((rv,vs,L, .slice none 0 0,[])) ⟨rfl,trivial⟩ ⟨hB,d,e,(Below.ow hB hrv),cH.nil,hLO,(aed hr hfu),hLb,trivial⟩ ?_
 rintro⟨rv1,g,L1,v0,out⟩ al ao ⟨hB,d,e,hrw1,ho,hlo1,hgr,hl0,_⟩ ap O
 refine Zq<|Zr<|Zf rfl dU<|ZL rv1 rfl eM e rfl<|Zv (db (v:=rv1) rfl hrw1.sl dG)<|Zv (gQ rfl rfl)<|ct<|ZQ rfl (λP=> ?_) λP=> ?_
 refine cx<|cy ?_
 have hl1:L1.length≤1000000:=by have:=hgr.len;omega
 refine Zr<|Zv (cz rfl df rfl e)<|ZC (vs:=[.agg #[_,_]]) KW (pt n _ _ L1 _ (cH.mono hrw1 (am _)) (LO.below hB hlo1) hgr.r hl1) rfl λaq ar Q R=> ?_
 obtain⟨hB,d,e,hrw1,ho⟩:=Q.k5 hB d e hrw1 ho
 obtain⟨c8_1,rfl,S⟩:=R
 refine Zw (.int .i64 c8_1) rfl<|ct ?_
 have hcin:=hgr.inl (by have:=hlo1.len;omega) S
 have hl1:L1.length≤1000000:=by have:=hgr.len;omega
 refine eR (λa b=>a.grownBy b v0.ownBlock) fx (λU V=> ?_)
 obtain⟨hB,d,e,hrw1,ho⟩:=V.k5 hB d e hrw1 ho
 have X:=ho
 have hS:=World.grownBy.refl U v0.ownBlock
 refine Tw 0 v0 rfl rfl hS<|Tw 1 (.int .i64 c8_1) rfl rfl hS<|Tk 4 rfl (λ_ hq=>cz rfl df rfl (At.grownOw e X hq Dd)) hS<|Tw 5 (.int .i64 c8_1) rfl rfl hS<|To 2 rfl (ez (u:= .int .i64 c8_1) rfl cV eP rfl Dd Dd λY au av m Z=>⟨.inl (cB hS (dA.grown m v0.ownBlock)),?_⟩)
 obtain⟨hB,d,e,hrw1,ho⟩:=m.k5 hB d e hrw1 ho
 replace hS:=cB hS (dA.grown m v0.ownBlock)
 refine To 3 rfl (dP (v:=v0) (v2:= .slice (some ⟨Y,0,none⟩) 1 1) rfl rfl cV eP Dd ho (eJ Z rfl) rfl (m3 hB) (by have:=hgr.len;omega) (by have:=hgr.len;omega) λC aw j f=>⟨.inl (cB hS j),?_⟩)
 replace hS:=cB hS j
 replace f:=cH.snoc (enc:=dX) (x:=c8_1) rfl rfl rfl rfl f
 replace hB:=ZG hB j ho
 replace d:=At.grownOw d ho j Dd
 replace e:=At.grownOw e ho j Dd
 replace hrw1:=cH.grownOw hrw1 ho j Dd
 refine To 6 rfl (TC (vs:=[.agg #[_,_], .int .i64 c8_1]) Jt (pz n _ _ L1 c8_1 _ (cH.mono hrw1 (am _)) (LO.below hB hlo1) hgr.r hl1) rfl λax ay o aa=>⟨.inl (cB hS (dA.grown o v0.ownBlock)),?_⟩)
 obtain⟨hB,d,e,f⟩:=o.k4 hB d e f
 replace hS:=cB hS (dA.grown o v0.ownBlock)
 obtain⟨rv9_6,rfl,hk9_6⟩:=aa
 refine Tw 7 C rfl rfl hS<|To 8 rfl (cA rfl rfl df rfl e rfl (by exact iO (cH.one hk9_6)) λaz l ab=>⟨.inr jW,?_⟩)
 replace hB:=Zg hB l z
 replace d:=At.grownNe d A l
 replace f:=cH.grownAt f e l Dd
 replace hk9_6:=cH.grownAt hk9_6 e l Dd
 replace e:=ab
 refine Td ?_
 exact O _ _ ((rv9_6,ut undef (λk=> !decide (c8_1∈L1.getD k [])) g L1.length,tZ L1 c8_1,C,out++[c8_1])) Za ⟨rfl,trivial⟩ ⟨hB,d,(by exact e),hk9_6,(by exact f),(by have h:=adY hlo1 (λk=> !decide (c8_1∈L1.getD k [])) L1.length (am _);rw[Qo]at h;exact h),(hgr.next hcin),(by have:=(hgr.next hcin).len;omega),trivial⟩ (by exact CD hcin)
 refine cT ?_
 have hTl:=mK out n.toNat
 have hn4:=(fz.1 hr).2.1
 refine Zr<|Zw v0 rfl<|Zf rfl iA<|Zl rfl cR d rfl<|ZC Jz (qT _ out n _ ho.sl (by have:=hgr.len;omega) (by have q:=fz.1 hr;exact⟨q.1,q.2.1⟩)) rfl λD aA ac p=> ?_
 have aB:=adi ho
 have ad:=(Below.size hB)
 replace hB:=Ze hB ac
 replace p:=cH.mono p ad
 refine Zw D rfl<|ZZ rfl<|Zt<|dH (v:=D) rfl (v1:= .int .i64 0) rfl ⟨hB,?_⟩
 exact⟨_,_,rfl,p,hgr.fin hr (by have:=hlo1.len;omega),by omega⟩
end
end Go.Proofs.YtedeonkjellcpaaGreatDoor
