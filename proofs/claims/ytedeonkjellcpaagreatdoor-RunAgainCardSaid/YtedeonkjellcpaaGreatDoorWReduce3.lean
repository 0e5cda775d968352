/- The walks of package cover. The walks of package reduce. The walk of a column left out. The walk of the making smaller, step after step. -/
import Derived.Test.YtedeonkjellcpaaGreatDoorT1
namespace Go.Proofs.YtedeonkjellcpaaGreatDoor
set_option linter.unusedVariables false
set_option linter.unusedSimpArgs false
section
open Go Go.RowKit
theorem dS:d5 Tryz.prog 203 1=some 1:=by kernel_rfl
theorem eI:eJ Tryz.prog 201=true:=by kernel_rfl
theorem dF:fl Tryz.prog 201=some (35,1,24):=by kernel_rfl
theorem iv:d5 Tryz.prog 203 0=some 0:=by kernel_rfl
theorem ng:eJ Tryz.prog 83=true:=by kernel_rfl
theorem SC:cX Tryz.prog 178=true:=by kernel_rfl
theorem yw:eJ Tryz.prog 218=true:=by kernel_rfl
theorem E4:m3 Tryz.prog 218=some (9,4):=by kernel_rfl
theorem JA:qJ Tryz.prog 9 (λv=>∃a:List UInt8,v=dY a):=by
  refine pz Tryz.underlying9 ?_ ?_ ?_ ?_
  · rintro w _ _ ⟨a,rfl⟩ ⟨c,rfl⟩
    refine⟨_,run_equalIn_string w 9999 9 _ _ Tryz.underlying9,by rw[beq_iff_eq,ByteArray.toList_eq];simp[dY]⟩
  · rintro _ _ ⟨a,rfl⟩ ⟨c,rfl⟩
    exact .inr ⟨_,rfl,by rw[Em];simp[dY]⟩
  · rintro w em _ ⟨a,rfl⟩
    have h2:∀k,(Instr.checkKey em (k+1) 9 (dY a)).run Tryz.prog w= .ok () w:=λk=>by
      simp[dY,Instr.checkKey,run_underlying Tryz.underlying9]
    exact h2 9999
  · rintro _ ⟨a,rfl⟩
    exact(Em a a).2 rfl
theorem Sz:cX Tryz.prog 179=true:=by kernel_rfl
theorem jJ:(dW Tryz.prog 35).map (λz=>z.cells.size)=some 1:=by kernel_rfl
theorem gq:dW Tryz.prog 203=some (.agg #[.int .i64 0, .slice none 0 0]):=by kernel_rfl
theorem Av:(Tryz.prog.info? 201).map (·.size)=some 1:=by kernel_rfl
theorem pU {f:Nat→Value} {w:World} {d:Option Nat} {ty:TypeId} {ps:String} {af:Array Edge} {g:Option (Nat×Bool)}:
    (execOp (dk f) ⟨d, .build 203 #[],ty,ps,af,g⟩).run Tryz.prog w= .ok (.value (.agg #[.int .i64 0, .slice none 0 0])) w:=by
  obtain⟨i0,hi0,hz0⟩:=Do.1 (show (Tryz.prog.info? 203).bind (·.zero)=_ from gq)
  obtain⟨j3,hj3,hs3⟩:=an.1 fN
  obtain⟨j201,hj201,hs201⟩:=an.1 Av
  simp[execOp,Instr.build,zeroValue,typeInfo,sizeOf,hi0,hz0,run_underlying Tryz.underlying203,Instr.fill,d7,hj3,hs3,hj201,hs201]
theorem da:kf Tryz.prog 203=some 2:=by kernel_rfl
theorem VW:dW Tryz.prog 57=some (.slice none 0 0):=by kernel_rfl
theorem ko {f:Nat→Value} {w:World} {d:Option Nat} {ty:TypeId} {ps:String} {af:Array Edge} {g:Option (Nat×Bool)} {x0:Operand} {c0_0:Value} (h0:dk f x0=c0_0) (k0:c0_0.cells= #[c0_0]):
    (execOp (dk f) ⟨d, .build 203 #[(0,x0)],ty,ps,af,g⟩).run Tryz.prog w= .ok (.value (.agg #[c0_0, .slice none 0 0])) w:=by
  obtain⟨i0,hi0,hz0⟩:=Do.1 (show (Tryz.prog.info? 203).bind (·.zero)=_ from gq)
  obtain⟨j3,hj3,hs3⟩:=an.1 fN
  obtain⟨j201,hj201,hs201⟩:=an.1 Av
  simp[execOp,h0,k0,Instr.build,zeroValue,typeInfo,sizeOf,hi0,hz0,run_underlying Tryz.underlying203,Instr.fill,d7,hj3,hs3,hj201,hs201]
theorem Tv:dW Tryz.prog 218=some (.map none):=by kernel_rfl
theorem Qm:cX Tryz.prog 177=true:=by kernel_rfl
theorem kA (n:Int) (rv:Value) (vs:List Value) (L:List (List Int)) (w:World) (hrv:dp encV 1 w rv vs) (hll:LL w vs L) (hLb:L.length≤1000000) (hRb:∀i,(L.getD i []).length≤1000000):
    Fn Tryz.prog 181 #[.agg #[.int .i64 n,rv]] w λv w'=>v= .bool (dQ n L):=by
 refine cM (n:=41) Tryz.func181 rfl rfl rfl λhB=> ?_
 have hvl:=hll.len
 refine Zr<|Zy (dw (c:= #[_,_]) rfl rfl λg W3 p h a=> ?_)
 replace hB:=Ze hB h
 refine Zb rfl<|ct<|Zq<|Zr<|Zf rfl dS<|ZL rv rfl eI a rfl<|Zv (de (v:=rv) rfl (Below.slT hB hrv) dF)<|ZZ rfl<|cy ?_
 refine cY (σ:=(Nat)) [2,2,4,5,7,7,11,32] (λi=>[(11, .int .i64 (i:Int))]) (λi W=>(Below w.heap.size w W)∧(At W g _ 203)∧(i≤L.length)∧(∀q,q<i→pl n (L.getD q [])=true)∧(True)) (λi=>L.length-i) (0) ⟨rfl,trivial⟩ ⟨hB,a,(my _),eT,trivial⟩ ?_
 rintro i r s ⟨hB,a,hi,hq,_⟩ t j
 refine Zr<|Zv (dq rfl rfl)<|ct<|Zq<|ZQ rfl (λl=> ?_) λl=> ?_
 refine cx<|Zq<|cy<|Zr<|Zv (dm (v:=rv) rfl (Below.slT hB hrv) rfl dF Om (by omega))<|Zv (cD (v:=(vs.getD i undef)) rfl fp (dp.cell (Below.slT hB hrv) fX undef Om (by omega) 0 rfl)) ?_
 have b:dp dT 1 w ((vs.getD i undef)) (L.getD i []):=hll.get i (by omega)
 refine Zw (vs.getD i undef) rfl<|ct<|Zr<|ZZ rfl ?_
 have hRi:=hRb i
 refine Zr<|Zw (vs.getD i undef) rfl<|Zv (de (v:=(vs.getD i undef)) rfl (Below.slT hB b) cV)<|ZZ rfl<|cy ?_
 refine cY (σ:=(Nat)) [2,2,5,5,7,7,17,31] (λk=>[(17, .int .i64 (k:Int)),(5, .int .i64 (Aw (L.getD i []) k))]) (λk W=>(Below w.heap.size w W)∧(At W g _ 203)∧(k≤(L.getD i []).length)∧(∀q,q<k→0≤(L.getD i []).getD q 0∧(L.getD i []).getD q 0<n∧(0<q→(L.getD i []).getD (q-1) 0<(L.getD i []).getD q 0))∧(True)) (λk=>(L.getD i []).length-k) (0) ⟨rfl,rfl,trivial⟩ ⟨hB,a,(my _),eT,trivial⟩ ?_
 rintro k u x ⟨hB,a,hk,hq2,_⟩ y m
 refine Zr<|Zv (dq rfl rfl)<|ct<|Zq<|ZQ rfl (λo=> ?_) λo=> ?_
 refine cx<|Zq<|cy<|Zr<|Zv (dm (v:=(vs.getD i undef)) rfl (Below.slT hB b) rfl cV Om (by omega))<|Zv (cD (v:= .int .i64 _) rfl cR (dp.cell (Below.slT hB b) ez 0 Om (by omega) 0 rfl))<|ZZ rfl<|Zq<|Zr<|Zi rfl<|Zi rfl<|Zv (tA rfl rfl) ?_
 refine ZX rfl (λd=> ?_) λd=> ?_
 refine Zs<|Zs<|Zs<|Zs<|Zb rfl<|ct<|cQ rfl<|Zr<|Zb rfl<|ct<|Zt<|df (v:= .bool false) rfl ⟨hB,?_⟩
 exact Uq (i:=i) (k:=k) Om Om (λq hq=>(hq2 q hq).1) (.inl d)
 refine Zi rfl<|Zf rfl iv<|Zl rfl cR a rfl<|Zv (kn rfl rfl)<|Zb rfl<|ct<|ZQ rfl (λe=> ?_) λe=> ?_
 refine Zr<|Zb rfl<|ct<|Zt<|df (v:= .bool false) rfl ⟨hB,?_⟩
 exact Uq (i:=i) (k:=k) Om Om (λq hq=>(hq2 q hq).1) (.inr e)
 refine cx<|cI<|Zi rfl<|ZZ rfl<|ZT rfl rfl rfl ?_
 exact m _ _ (k+1) Za ⟨rfl,rfl,trivial⟩ ⟨hB,a,Om,(Rz hq2 d e),trivial⟩ Zo
 refine cT<|ZT rfl rfl rfl ?_
 exact j _ _ (i+1) Za ⟨rfl,trivial⟩ ⟨hB,a,Om,(d6 hq (jB.2 (λq hq=>hq2 q Om))),trivial⟩ Zo
 refine cT<|Zr<|Zf rfl iv<|Zl rfl cR a rfl<|Zv (kn rfl rfl)<|ZX rfl (λf=> ?_) λf=> ?_
 refine Zf rfl iv<|Zl rfl cR a rfl<|Zv (tA rfl rfl)<|Zb rfl<|Zb rfl<|ct<|Zt<|df (v:= .bool _) rfl ⟨hB,?_⟩
 obtain rfl:i=L.length:=by omega
 exact aaB f hq
 refine Zs<|Zs<|Zs<|Zb rfl<|Zb rfl<|ct<|Zt<|df (v:= .bool false) rfl ⟨hB,?_⟩
 obtain rfl:i=L.length:=by omega
 exact aam f
theorem Be (xa xb:Value) (a b:List Int) (w:World) (ha:dp dT 1 w xa a) (hb:dp dT 1 w xb b) (hal:a.length≤1000000) (hbl:b.length≤1000000):
    Fn Tryz.prog 179 #[xa,xb] w λv w'=>v= .bool (fP a b):=by
 refine cM (n:=40) Tryz.func179 rfl rfl rfl λhB=> ?_
 refine Zr<|Zb rfl<|ct<|Zq<|Zr<|Zw xa rfl<|Zv (de (v:=xa) rfl (Below.slT hB ha) cV)<|Zw xb rfl<|Zv (de (v:=xb) rfl (Below.slT hB hb) cV)<|Zv (e7 rfl rfl)<|ct<|ZQ rfl (λd=> ?_) λd=> ?_
 refine Zr<|Zw xa rfl<|Zv (de (v:=xa) rfl (Below.slT hB ha) cV)<|Zw xb rfl<|Zv (de (v:=xb) rfl (Below.slT hB hb) cV)<|Zv (dq rfl rfl)<|Zb rfl<|ct<|Zt<|df (v:= .bool _) rfl ⟨hB,?_⟩
 exact Yt d
 refine cx<|Zq<|Zr<|Zw xa rfl<|Zv (de (v:=xa) rfl (Below.slT hB ha) cV)<|ZZ rfl<|cy ?_
 refine cY (σ:=(Nat)) [4,5,18,39] (λk=>[(18, .int .i64 (k:Int))]) (λk W=>(Below w.heap.size w W)∧(k≤a.length)∧(∀q,q<k→a.getD q 0=b.getD q 0)∧(True)) (λk=>a.length-k) (0) ⟨rfl,trivial⟩ ⟨hB,(my _),eT,trivial⟩ ?_
 rintro k l m ⟨hB,hk,hq,_⟩ o e
 refine Zr<|Zv (dq rfl rfl)<|ct<|Zq<|ZQ rfl (λf=> ?_) λf=> ?_
 refine cx<|Zq<|cy<|Zr<|Zi rfl<|ZZ rfl<|Zd dC λg h=> ?_
 replace hB:=Ze hB h
 have hS:=dC.refl g
 refine Tw 0 xa rfl rfl hS<|Ti 1 rfl rfl hS<|Tk 2 rfl (λ_ hq=>dm (v:=xa) rfl (hq.slT (Below.slT hB ha)) rfl cV Om (by omega)) hS<|Tk 3 rfl (λ_ hq=>cD (v:= .int .i64 _) rfl cR (dp.cell (hq.slT (Below.slT hB ha)) ez 0 Om (by omega) 0 rfl)) hS<|Tw 4 xb rfl rfl hS<|Ti 5 rfl rfl hS<|Tk 6 rfl (λ_ hq=>dm (v:=xb) rfl (hq.slT (Below.slT hB hb)) rfl cV Om (by omega)) hS<|Tk 7 rfl (λ_ hq=>cD (v:= .int .i64 _) rfl cR (dp.cell (hq.slT (Below.slT hB hb)) ez 0 Om (by omega) 0 rfl)) hS<|Tk 8 rfl (λ_ _=>e7 rfl rfl) hS<|Td<|ZQ rfl (λc=> ?_) λc=> ?_
 refine Zd dC λi j=> ?_
 replace hB:=Ze hB j
 have hS:=dC.refl i
 refine Tw 0 xa rfl rfl hS<|Ti 1 rfl rfl hS<|Tk 2 rfl (λ_ hq=>dm (v:=xa) rfl (hq.slT (Below.slT hB ha)) rfl cV Om (by omega)) hS<|Tk 3 rfl (λ_ hq=>cD (v:= .int .i64 _) rfl cR (dp.cell (hq.slT (Below.slT hB ha)) ez 0 Om (by omega) 0 rfl)) hS<|Tw 4 xb rfl rfl hS<|Ti 5 rfl rfl hS<|Tk 6 rfl (λ_ hq=>dm (v:=xb) rfl (hq.slT (Below.slT hB hb)) rfl cV Om (by omega)) hS<|Tk 7 rfl (λ_ hq=>cD (v:= .int .i64 _) rfl cR (dp.cell (hq.slT (Below.slT hB hb)) ez 0 Om (by omega) 0 rfl)) hS<|Tk 8 rfl (λ_ _=>dq rfl rfl) hS<|Ty 9 rfl rfl hS<|Td<|Zt<|df (v:= .bool _) rfl ⟨hB,?_⟩
 exact Y8 (k:=k) Om Om hq c
 refine cx<|ZT rfl rfl rfl ?_
 exact e _ _ (k+1) Za ⟨rfl,trivial⟩ ⟨hB,Om,(d6 hq (aaN c)),trivial⟩ Zo
 refine cT<|Zr<|Zb rfl<|ct<|Zt<|df (v:= .bool false) rfl ⟨hB,?_⟩
 exact XL (k:=k) Om Om hq
theorem CV (xa:Value) (a:List Int) (w:World) (ha:dp dT 1 w xa a) (hal:a.length≤4000) (hsm:∀x,x∈a→0≤x∧x<65536):
    Fn Tryz.prog 178 #[xa] w λv w'=>v=dY (lk a):=by
 refine cM (n:=23) Tryz.func178 rfl rfl rfl λhB=> ?_
 refine Zr<|Zw (.string _) rfl<|ct<|Zr<|Zw (.slice none 0 0) rfl<|ct<|Zq<|Zr<|Zw xa rfl<|Zv (de (v:=xa) rfl (Below.slT hB ha) cV)<|ZZ rfl<|cy ?_
 refine cY (σ:=(Nat)×(Value)) [3,3,5,5,8,20] (λ(k,v0)=>[(8, .int .i64 (k:Int)),(3,v0)]) (λsg W=>match sg with|(k,v0)=>(Below w.heap.size w W)∧(cH xx 1 5 W w.heap.size v0 (rT (a.take k)))∧(k≤a.length)∧(True)) (λ(k,v0)=>a.length-k) ((0, .slice none 0 0)) ⟨rfl,rfl,trivial⟩ ⟨hB,cH.nil,(my _),trivial⟩ ?_
 rintro⟨k,v0⟩ p W9 ⟨hB,ho,hk,_⟩ q d
 refine Zr<|Zv (dq rfl rfl)<|ct<|Zq<|ZQ rfl (λe=> ?_) λe=> ?_
 refine cx<|Zq<|cy<|Zr<|Zv (dm (v:=xa) rfl (Below.slT hB ha) rfl cV Om (by omega))<|Zv (cD (v:= .int .i64 _) rfl cR (dp.cell (Below.slT hB ha) ez 0 Om (by omega) 0 rfl))<|ZZ rfl ?_
 have f:=(hsm (a.getD k 0) (dB (by omega))).1
 have hwl:(rT (a.take k)).length≤8000:=by rw[K6,aa4];omega
 refine cI<|Zw v0 rfl<|Zi rfl<|Zv (Vh rfl rfl f)<|Zv (MU rfl Tryz.underlying3 Tryz.underlying5)<|Zi rfl<|Zv (MU rfl Tryz.underlying3 Tryz.underlying5)<|Zy (HT (u0:= .int .u8 _) (u1:= .int .u8 _) rfl rfl kw zi rfl rfl Dd Dd λg r h i j=> ?_)
 have l:=ZO h hB
 have olt_ho:=acL ho
 obtain⟨hB,ho⟩:=i.k2 hB ho
 have m:=Aj (enc:=xx) (sz:=1) (a0:=_) (a1:=_) j rfl rfl rfl rfl l
 refine Zy (jg (v:=v0) (v2:= .slice (some ⟨g,0,none⟩) 2 2) rfl rfl kw zi Dd ho m.sl (C3) (mV hB) iw iw λc s o b t=> ?_)
 replace b:=cH.app (enc:=xx) rfl rfl rfl rfl b
 replace hB:=ZG hB o ho
 refine Zw c rfl<|ct<|ZT rfl rfl rfl ?_
 exact d _ _ ((k+1,c)) Za ⟨rfl,rfl,trivial⟩ ⟨hB,(by rw[←HZ a k Om];exact b),Om,trivial⟩ (by show a.length-(k+1)<a.length-k;omega)
 refine cT ?_
 obtain rfl:k=a.length:=by omega
 rw[aa7]at ho
 refine Zr<|Zw v0 rfl<|Zv (qq (v:=v0) rfl ho.sl Tryz.underlying177 Tryz.underlying5 Tryz.underlying9)<|Zw (dY _) rfl<|ct<|Zt<|df (v:=dY _) rfl ⟨hB,?_⟩
 rfl
theorem YK (N o:Nat) (p n:Int) (l:List Rw) (ks:List (List Int)) (bl bp bmet bm bq b4 bs:Nat) (xl xp rv xq s1 s2:Value) (vs:List Value) (lq:List Int) (w:World) (hN0:N≤w.heap.size) (ho:o<8) (hp:0≤p∧p.toNat<2^n.toNat) (hl4:l.length≤4000) (hlr:iC l) (hrr:∀k,k<l.length→dP (l.getD k ⟨⟨0,0⟩,0⟩).c.m (l.getD k ⟨⟨0,0⟩,0⟩).c.v n=true) (hnd:ks.Nodup) (hkr:∀x,x∈ks→qE l x) (hkl:ks.length≤2000) (hl:dp gx 3 w xl l) (hbl:At w bl #[xl] 83) (hbp:At w bp #[xp] 57) (hpo:cH fh 4 40 w N xp (wD l n l.length)) (hbm:At w bmet #[.map (some bq)] 218) (hq:dy dY Value.bool w bq (fz ((ks).map lk))) (d:At w b4 #[.int .i64 0, .slice none 0 0] 203) (hbs:At w bs #[.int .i64 n,s1,s2] 59) (hxq:cH dT 1 3 w N xq lq) (hmm:At w bm #[.int .i64 (l.length:Int),rv] 203) (hrv:cH encV 1 35 w N rv vs) (hLO:LO 3 N w vs (iF ks)) (lom:N≤bm) (loq:N≤bq) (hne:b4≠bm):
    lc Tryz.prog 177 #[.int .i64 (o:Int), .int .i64 p, .pointer (some ⟨bl,0,none⟩), .pointer (some ⟨bp,0,none⟩), .pointer (some ⟨bmet,0,none⟩), .pointer (some ⟨bm,0,none⟩)] w λv w'=>Below N w w'∧At w' bl #[xl] 83∧At w' bp #[xp] 57∧cH fh 4 40 w' N xp (wD l n l.length)∧At w' bmet #[.map (some bq)] 218∧dy dY Value.bool w' bq (fz ((ji ks (tk l o p.toNat)).map lk))∧At w' b4 #[.int .i64 0, .slice none 0 0] 203∧At w' bs #[.int .i64 n,s1,s2] 59∧cH dT 1 3 w' N xq lq∧∃rv' vs',At w' bm #[.int .i64 (l.length:Int),rv'] 203∧cH encV 1 35 w' N rv' vs'∧LO 3 N w' vs' (iF (ji ks (tk l o p.toNat))):=by
 refine dK (n:=77) (N:=N) Tryz.func177 rfl rfl rfl λhB=> ?_
 have hpl:=Eo (l:=l) (n:=n) (am _)
 have hkl2:=Cg ks
 have hvl:=hLO.len
 have P:=hB
 replace hB:=Below.refl w.heap.size w
 refine Zr<|Zw (.slice none 0 0) rfl<|ct<|Zq<|Zr<|ZL xl rfl ng (On hB hbl) rfl<|Zv (de (v:=xl) rfl (Below.slT hB hl) dM)<|ZZ rfl<|cy ?_
 refine cY (σ:=(Nat)×(Value)) [8,10,15,38] (λ(k,v0)=>[(15, .int .i64 (k:Int)),(8,v0)]) (λsg W=>match sg with|(k,v0)=>(Below w.heap.size w W)∧(cH dT 1 3 W w.heap.size v0 (jQ l o p.toNat k))∧(k≤l.length)∧(True)) (λ(k,v0)=>l.length-k) ((0, .slice none 0 0)) ⟨rfl,rfl,trivial⟩ ⟨hB,cH.nil,(my _),trivial⟩ ?_
 rintro⟨k,v0⟩ g9 W8 ⟨hB,ho,hk,_⟩ aM S
 refine Zr<|Zv (dq rfl rfl)<|ct<|Zq<|ZQ rfl (λai=> ?_) λai=> ?_
 refine cx<|Zq<|cy<|Zr<|Zi rfl<|Zv (dm (v:=xl) rfl (Below.slT hB hl) rfl dM Om (by omega))<|Zv (jc rfl dU (dp.cell (Below.slT hB hl) eA ⟨⟨0,0⟩,0⟩ Om (by omega) 0 rfl) (dp.cell (Below.slT hB hl) eA ⟨⟨0,0⟩,0⟩ Om (by omega) 1 rfl) (dp.cell (Below.slT hB hl) eA ⟨⟨0,0⟩,0⟩ Om (by omega) 2 rfl))<|Zy (cK jM rfl λaN aO aj ak Q=> ?_)
 have al:=ZO aj hB
 obtain⟨hB,ho⟩:=ak.k2 hB ho
 refine Zi rfl<|Zy (cA rfl rfl dU rfl Q rfl rfl λaP ag ao=> ?_)
 replace hB:=Zg hB ag al
 replace ho:=cH.grownAt ho Q ag Dd
 replace Q:=ao
 refine ct ?_
 obtain⟨aQ,aR,ap⟩:=hlr.get (k:=k) (by omega)
 refine Zr<|Zf rfl fF<|Zl rfl dN Q rfl<|Zi rfl<|Zv (qQ rfl rfl Om (by simp only[IntKind.bits];omega))<|Zv (m5 (n:=1) rfl rfl rfl (by show (l.getD k ⟨⟨0,0⟩,0⟩).o/2^((o:Nat):Int).toNat<256;exact abr (abV _ _) ap) Dd)<|Zv (dJ rfl rfl)<|ZX rfl (λR=> ?_) λR=> ?_
 refine ZL xp rfl eY (On hB hbp) rfl<|Zi rfl<|Zv (dm (v:=xp) rfl ((Below.ow hB hpo)).sl rfl ey Om (by omega))<|Zv (eQ rfl cC (dp.cell ((Below.ow hB hpo)).sl dr 0 Om (by omega) 0 rfl) (dp.cell ((Below.ow hB hpo)).sl dr 0 Om (by omega) 1 rfl) (dp.cell ((Below.ow hB hpo)).sl dr 0 Om (by omega) 2 rfl) (dp.cell ((Below.ow hB hpo)).sl dr 0 Om (by omega) 3 rfl))<|Zi rfl<|ZC (vs:=[.agg #[_,_,_,_], .int .i64 _]) Mv (Bw _ _ _) rfl λaS aT aq ar=> ?_
 obtain⟨hB,ho⟩:=aq.k2 hB ho
 obtain rfl:=ar
 refine Zb rfl<|ct<|ZQ rfl (λT=> ?_) λT=> ?_
 have hrl:=wi l o p.toNat k
 refine cI<|Zw v0 rfl<|Zi rfl<|Zy (eC (u:= .int .i64 _) rfl cV eL rfl Dd Dd λau aU aV av aw=> ?_)
 obtain⟨hB,ho⟩:=av.k2 hB ho
 refine Zy (dR (v:=v0) (v2:= .slice (some ⟨au,0,none⟩) 1 1) rfl rfl cV eL Dd ho (eK aw rfl) rfl (mV hB) (by omega) (by omega) λah aW ax U=> ?_)
 replace U:=cH.snoc (enc:=dT) (x:=_) rfl rfl rfl rfl U
 replace hB:=ZG hB ax ho
 refine Zw ah rfl<|ct<|ZT rfl rfl rfl ?_
 exact S _ _ ((k+1,ah)) Za ⟨rfl,rfl,trivial⟩ ⟨hB,(by (rw[←Xr (k:=k) (o:=o) Om (hrr k Om) hp R T];exact U)),Om,trivial⟩ (by show l.length-(k+1)<l.length-k;omega)
 refine cx<|ZT rfl rfl rfl ?_
 exact S _ _ ((k+1,v0)) Za ⟨rfl,rfl,trivial⟩ ⟨hB,(by (rw[←Wi (k:=k) (o:=o) Om (hrr k Om) hp R T];exact ho)),Om,trivial⟩ (by show l.length-(k+1)<l.length-k;omega)
 refine Zs<|Zs<|Zs<|Zs<|Zs<|Zs<|Zb rfl<|ct<|dH rfl<|cx<|cI<|Zv (eB rfl rfl Om Om)<|Zi rfl ?_
 refine ct ?_
 exact S _ _ ((k+1,v0)) Za ⟨rfl,rfl,trivial⟩ ⟨hB,(by (rw[←Uz (k:=k) (o:=o) R];exact ho)),Om,trivial⟩ (by show l.length-(k+1)<l.length-k;omega)
 refine cT ?_
 obtain rfl:k=l.length:=by omega
 have hro:qE l (tk l o p.toNat):=⟨o,p.toNat,rfl⟩
 have hrl:=wi l o p.toNat l.length
 refine Zr<|Zw v0 rfl<|ZC SC (CV _ (jQ l o p.toNat l.length) _ ho.sl Om (hro.small hl4)) rfl λaX aY ay az=> ?_
 obtain⟨hB,ho⟩:=ay.k2 hB ho
 obtain rfl:=az
 refine Zw (.string _) rfl<|ct<|Zq<|Zr<|ZL (.map (some bq)) rfl yw (On hB hbm) rfl<|Zw (.string _) rfl<|Zv (fR (enc:=dY) (encV:=Value.bool) (v0:=false) (k:=(lk (tk l o p.toNat))) rfl rfl E4 JA (λa=>⟨a,rfl⟩) ED rz rfl (acl hB hq))<|ct<|ZQ rfl (λV=> ?_) λV=> ?_
 refine nX ?_
 replace hbl:=On hB hbl
 replace hbp:=On hB hbp
 replace hpo:=Below.ow hB hpo
 replace hbm:=On hB hbm
 replace hq:=acl hB hq
 replace d:=On hB d
 replace hbs:=On hB hbs
 replace hxq:=Below.ow hB hxq
 replace hmm:=On hB hmm
 replace hrv:=Below.ow hB hrv
 replace hLO:=LO.below hB hLO
 have hzs:=go hN0 (Below.size P)
 replace hB:=Below.trans P (Below.mono hB hzs)
 repeat (first|refine d9 ?_|refine dO ?_)
 refine oe ?_
 have hin:tk l o p.toNat∈ks:=(vt hl4 hkr hro).1 (vD V)
 rw[KN hin]
 exact⟨hB,hbl,hbp,hpo,hbm,hq,d,hbs,hxq,rv,vs,hmm,hrv,hLO⟩
 refine cx ?_
 replace hbl:=On hB hbl
 replace hbp:=On hB hbp
 replace hpo:=Below.ow hB hpo
 replace hbm:=On hB hbm
 replace hq:=acl hB hq
 replace d:=On hB d
 replace hbs:=On hB hbs
 replace hxq:=Below.ow hB hxq
 replace hmm:=On hB hmm
 replace hrv:=Below.ow hB hrv
 replace hLO:=LO.below hB hLO
 have hzs:=go hN0 (Below.size P)
 replace ho:=cH.mono ho hzs
 replace hB:=Below.trans P (Below.mono hB hzs)
 have hnr:tk l o p.toNat∉ks:=λh=>rh V ((vt hl4 hkr hro).2 h)
 refine Zr<|ZL (.map (some bq)) rfl yw hbm rfl<|Zw (.string _) rfl ?_
 refine gM (dd:=none) rfl rfl rfl (fK (enc:=dY) (encV:=Value.bool) (k:=(lk (tk l o p.toNat))) (v:=true) rfl rfl rfl E4 JA (λa=>⟨a,rfl⟩) ED hq (λaZ B aA=> ?_))
 replace hbl:=At.grownMap hbl hq B
 replace hbp:=At.grownMap hbp hq B
 replace hpo:=cH.grownMap hpo hq B
 replace hbm:=At.grownMap hbm hq B
 replace d:=At.grownMap d hq B
 replace hbs:=At.grownMap hbs hq B
 replace hxq:=cH.grownMap hxq hq B
 replace hmm:=At.grownMap hmm hq B
 replace hrv:=cH.grownMap hrv hq B
 replace hLO:=LO.grownMap hLO hq B
 replace hB:=dg hB B hN0 (λj hj=>by cases hj;exact loq)
 replace ho:=cH.grownMap ho hq B
 replace hq:=aA
 rw[jX,Ot hl4 hkr hro]at hq
 refine ct<|Zr<|Zf rfl dS<|ZL rv rfl eI hmm rfl<|Zv (de (v:=rv) rfl hrv.sl dF)<|ZZ rfl<|Zq<|cy ?_
 refine cY (σ:=(Nat)) [12,12,49,62] (λi=>[(12, .int .i64 (i:Int))]) (λi W=>(At W bl _ 83)∧(At W bp _ 57)∧(cH fh 4 40 W N xp _)∧(At W bmet _ 218)∧(dy dY Value.bool W bq _)∧(At W b4 _ 203)∧(At W bs _ 59)∧(cH dT 1 3 W N xq _)∧(At W bm _ 203)∧(cH encV 1 35 W N rv _)∧(LO 3 N W vs (iF ks))∧(Below N w W)∧(cH dT 1 3 W N v0 _)∧(i≤(iF ks).length)∧(∀q,i≤q→q<(iF ks).length→fP (tk l o p.toNat) ((iF ks).getD q [])=true)∧(True)) (λi=>i) ((iF ks).length) ⟨congrArg (λq:Nat=>Value.int .i64 (q:Int)) hvl,trivial⟩ ⟨hbl,hbp,hpo,hbm,hq,d,hbs,hxq,hmm,hrv,hLO,hB,ho,(am _),(λq h1 h2=>by omega),trivial⟩ ?_
 rintro i a0 aB ⟨hbl,hbp,hpo,hbm,hq,d,hbs,hxq,hmm,hrv,hLO,hB,ho,hi,hq2,_⟩ a1 aC
 refine Zq ?_
 have hsl:=L4 hkr (i-1)
 refine Zr<|Zi rfl<|Zv (iG rfl rfl)<|ZX rfl (λaD=> ?_) λaD=> ?_
 refine Zw v0 rfl<|Zf rfl dS<|ZL rv rfl eI hmm rfl<|Zi rfl<|Zv (jS rfl rfl Om Om)<|Zv (dm (v:=rv) rfl hrv.sl rfl dF Om (by omega))<|Zv (cD (v:=(vs.getD ((i:Int)-1).toNat undef)) rfl fp (dp.cell hrv.sl fX undef Om (by omega) 0 rfl)) ?_
 have E:dp dT 1 aB ((vs.getD ((i:Int)-1).toNat undef)) ((iF ks).getD (i-1) []):=(by rw[show ((i:Int)-1).toNat=i-1 by omega];exact(LO.ll hLO).get (i-1) (by omega))
 refine ZC Sz (Be _ _ _ _ _ ho.sl E (by omega) (by omega)) rfl λa2 a3 X aE=> ?_
 obtain⟨hbl,hbp,hpo,hbm,hq,d,hbs,hxq,hmm,hrv,hLO⟩:=X.k11 hbl hbp hpo hbm hq d hbs hxq hmm hrv hLO
 replace hB:=cW hB X hN0
 obtain⟨ho,E⟩:=X.k2 ho E
 obtain rfl:=aE
 refine Zb rfl<|ct<|ZQ rfl (λY=> ?_) λY=> ?_
 refine cx<|cy<|cI<|Zi rfl<|Zv (jS rfl rfl Om Om)<|ZZ rfl ?_
 exact aC _ _ (i-1) Za ⟨congrArg (Value.int .i64) (by omega:(i:Int)-1=((i-1:Nat):Int)),trivial⟩ ⟨hbl,hbp,hpo,hbm,hq,d,hbs,hxq,hmm,hrv,hLO,hB,ho,Om,(λq h1 h2=>if e:q=i-1 then by rw[e];exact Y else hq2 q Om h2),trivial⟩ Zo
 refine cT ?_
 have hput:=N8 (i:=i) hnd hnr hi hq2 (λh0=>by exact Y)
 have hC:vs.length≤jn rv:=(Sl.eqv hrv.sl).2.1
 have hone:=LO.one hLO
 refine eP dC fC (λZ aa=> ?_)
 obtain⟨hbl,hbp,hpo,hbm,hq,d,hbs,hxq,hmm,hrv,hLO⟩:=aa.k11 hbl hbp hpo hbm hq d hbs hxq hmm hrv hLO
 replace hB:=cW hB aa hN0
 obtain⟨ho,E⟩:=aa.k2 ho E
 have hS:=dC.refl Z
 refine Tf 0 rfl rfl dS hS<|Tk 1 rfl (λ_ hq=>cD (v:=rv) rfl eI (At.cell (hq.at hmm) rfl)) hS<|Ti 2 rfl rfl hS<|Ti 3 rfl rfl hS<|Tk 4 rfl (λ_ hq=>nt (v:=rv) rfl ((hq.ow hrv)).sl dF rfl rfl Om Om Om) hS ?_
 have f:dp encV 1 Z (fV 1 rv 0 i i) ((vs.drop 0).take (i-0)):=acQ fX hrv.sl (by omega) (by omega) (by omega) (by omega)
 refine Tw 5 v0 rfl rfl hS<|Tf 7 rfl rfl dS hS<|Tk 8 rfl (λ_ hq=>cD (v:=rv) rfl eI (At.cell (hq.at hmm) rfl)) hS<|Ti 9 rfl rfl hS<|Tk 10 rfl (λ_ hq=>nD (v:=rv) rfl ((hq.ow hrv)).sl dF rfl Om Om) hS ?_
 have g:dp encV 1 Z (fV 1 rv i vs.length (jn rv)) ((vs.drop i).take (vs.length-i)):=acQ fX hrv.sl (by omega) (by omega) (by omega) (by omega)
 refine To 6 rfl (eC (u:=v0) rfl dF jJ (by rw[dp.cells ho.sl];rfl) Dd Dd λt a4 G H I=>⟨.inl (hS.trans H),?_⟩)
 have ab:N≤t:=G▸(go hN0 (Below.size hB))
 have J:=go (dC.size hS) (aa1 G.symm)
 have aF:=abE (b:=t) hrv (aa1 G.symm)
 have aG:=ac4 (b:=t) f (aa1 G.symm)
 have aH:=ac4 (b:=t) g (aa1 G.symm)
 obtain⟨hbl,hbp,hpo,hbm,hq,d,hbs,hxq,hmm,hrv,hLO⟩:=H.k11 hbl hbp hpo hbm hq d hbs hxq hmm hrv hLO
 replace hB:=cW hB H hN0
 obtain⟨ho,E,f,g⟩:=H.k4 ho E f g
 replace hS:=hS.trans H
 rw[dp.cells ho.sl]at I
 have z:=jf (enc:=encV) (a:=v0) I rfl rfl ab
 refine To 11 rfl (dR (v:= .slice (some ⟨t,0,none⟩) 1 1) (v2:=fV 1 rv i vs.length (jn rv)) rfl rfl dF jJ Dd z g ((Er hone)) (mV hB) iw iw λac a5 r F=>⟨.inl (dg hS r (am _) (λj hj=>by have e:t=j:=aaY hj;rw[←e];exact J)),?_⟩)
 replace hS:dC _ _:=dg hS r (am _) (λj hj=>by have e:t=j:=aaY hj;rw[←e];exact J)
 replace F:=cH.app (enc:=encV) rfl rfl rfl rfl F
 replace hbl:=At.grownOw hbl z r Dd
 replace hbp:=At.grownOw hbp z r Dd
 replace hpo:=cH.grownOw hpo z r Dd
 replace hbm:=At.grownOw hbm z r Dd
 replace hq:=dy.grownOw hq z r
 replace d:=At.grownOw d z r Dd
 replace hbs:=At.grownOw hbs z r Dd
 replace hxq:=cH.grownOw hxq z r Dd
 replace hmm:=At.grownOw hmm z r Dd
 replace hLO:=LO.grownOw hLO z r Dd
 replace hB:=dg hB r hN0 (λj hj=>(cH.lt z j hj))
 replace ho:=cH.grownOw ho z r Dd
 replace f:=acS f aG r
 replace g:=acS g aH r
 refine To 12 rfl (kb (N:=N) (v:=fV 1 rv 0 i i) (v2:=ac) rfl rfl dF jJ f (sE iw) F.sl fD (go hN0 (Below.size hB)) iw iw λad a6 K y=>⟨.inl (hS.trans K),?_⟩)
 replace y:=cH.app (enc:=encV) rfl rfl rfl rfl y
 obtain⟨hbl,hbp,hpo,hbm,hq,d,hbs,hxq,hmm,hLO⟩:=K.k10 hbl hbp hpo hbm hq d hbs hxq hmm hLO
 replace hB:=cW hB K hN0
 obtain⟨ho,f,g⟩:=K.k3 ho f g
 replace hS:=hS.trans K
 refine Tf 13 rfl rfl dS hS<|To 14 rfl (db (v:=ad) rfl rfl eI (dp.one y.sl) hmm fD λa7 C aI=>⟨.inr ka,?_⟩)
 replace hbl:=At.grownAt hbl hmm C Dd
 replace hbp:=At.grownAt hbp hmm C Dd
 replace hpo:=cH.grownAt hpo hmm C Dd
 replace hbm:=At.grownAt hbm hmm C Dd
 replace hq:=dy.grownAt hq hmm C
 replace d:=At.grownNe d hne C
 replace hbs:=At.grownAt hbs hmm C Dd
 replace hxq:=cH.grownAt hxq hmm C Dd
 replace hLO:=LO.grownAt hLO hmm C Dd
 replace hB:=dg hB C hN0 (λj hj=>by cases hj;exact lom)
 replace ho:=cH.grownAt ho hmm C Dd
 replace y:=cH.grownAt y hmm C Dd
 replace hmm:=aI
 replace hmm:At _ _ #[_,_] _:=hmm
 refine Td ?_
 repeat (first|refine eN ?_|refine ex ?_)
 refine eq ?_
 repeat (first|refine d9 ?_|refine dO ?_)
 refine oe ?_
 rw[←hput]
 rw[List.drop_zero,acC,Ep]at y
 exact⟨hB,hbl,hbp,hpo,hbm,hq,d,hbs,hxq,_,_,hmm,y,LO.put (i:=i) hLO ho hi⟩
 refine Zs<|Zs<|Zs<|Zs<|Zs<|Zs<|Zs<|Zs<|Zb rfl<|ct<|dH rfl<|cT ?_
 have hput:=N8 (i:=i) hnd hnr hi hq2 (λh0=>by omega)
 have hC:vs.length≤jn rv:=(Sl.eqv hrv.sl).2.1
 have hone:=LO.one hLO
 refine eP dC fC (λae af=> ?_)
 obtain⟨hbl,hbp,hpo,hbm,hq,d,hbs,hxq,hmm,hrv,hLO⟩:=af.k11 hbl hbp hpo hbm hq d hbs hxq hmm hrv hLO
 replace hB:=cW hB af hN0
 replace ho:=af.ow ho
 have hS:=dC.refl ae
 refine Tf 0 rfl rfl dS hS<|Tk 1 rfl (λ_ hq=>cD (v:=rv) rfl eI (At.cell (hq.at hmm) rfl)) hS<|Ti 2 rfl rfl hS<|Ti 3 rfl rfl hS<|Tk 4 rfl (λ_ hq=>nt (v:=rv) rfl ((hq.ow hrv)).sl dF rfl rfl Om Om Om) hS ?_
 have f:dp encV 1 ae (fV 1 rv 0 i i) ((vs.drop 0).take (i-0)):=acQ fX hrv.sl (by omega) (by omega) (by omega) (by omega)
 refine Tw 5 v0 rfl rfl hS<|Tf 7 rfl rfl dS hS<|Tk 8 rfl (λ_ hq=>cD (v:=rv) rfl eI (At.cell (hq.at hmm) rfl)) hS<|Ti 9 rfl rfl hS<|Tk 10 rfl (λ_ hq=>nD (v:=rv) rfl ((hq.ow hrv)).sl dF rfl Om Om) hS ?_
 have g:dp encV 1 ae (fV 1 rv i vs.length (jn rv)) ((vs.drop i).take (vs.length-i)):=acQ fX hrv.sl (by omega) (by omega) (by omega) (by omega)
 refine To 6 rfl (eC (u:=v0) rfl dF jJ (by rw[dp.cells ho.sl];rfl) Dd Dd λt a8 L M I=>⟨.inl (hS.trans M),?_⟩)
 have ab:N≤t:=L▸(go hN0 (Below.size hB))
 have J:=go (dC.size hS) (aa1 L.symm)
 have aF:=abE (b:=t) hrv (aa1 L.symm)
 have aJ:=ac4 (b:=t) f (aa1 L.symm)
 have aK:=ac4 (b:=t) g (aa1 L.symm)
 obtain⟨hbl,hbp,hpo,hbm,hq,d,hbs,hxq,hmm,hrv,hLO⟩:=M.k11 hbl hbp hpo hbm hq d hbs hxq hmm hrv hLO
 replace hB:=cW hB M hN0
 obtain⟨ho,f,g⟩:=M.k3 ho f g
 replace hS:=hS.trans M
 rw[dp.cells ho.sl]at I
 have A:=jf (enc:=encV) (a:=v0) I rfl rfl ab
 refine To 11 rfl (dR (v:= .slice (some ⟨t,0,none⟩) 1 1) (v2:=fV 1 rv i vs.length (jn rv)) rfl rfl dF jJ Dd A g ((Er hone)) (mV hB) iw iw λac a9 s F=>⟨.inl (dg hS s (am _) (λj hj=>by have e:t=j:=aaY hj;rw[←e];exact J)),?_⟩)
 replace hS:dC _ _:=dg hS s (am _) (λj hj=>by have e:t=j:=aaY hj;rw[←e];exact J)
 replace F:=cH.app (enc:=encV) rfl rfl rfl rfl F
 replace hbl:=At.grownOw hbl A s Dd
 replace hbp:=At.grownOw hbp A s Dd
 replace hpo:=cH.grownOw hpo A s Dd
 replace hbm:=At.grownOw hbm A s Dd
 replace hq:=dy.grownOw hq A s
 replace d:=At.grownOw d A s Dd
 replace hbs:=At.grownOw hbs A s Dd
 replace hxq:=cH.grownOw hxq A s Dd
 replace hmm:=At.grownOw hmm A s Dd
 replace hLO:=LO.grownOw hLO A s Dd
 replace hB:=dg hB s hN0 (λj hj=>(cH.lt A j hj))
 replace ho:=cH.grownOw ho A s Dd
 replace f:=acS f aJ s
 replace g:=acS g aK s
 refine To 12 rfl (kb (N:=N) (v:=fV 1 rv 0 i i) (v2:=ac) rfl rfl dF jJ f (sE iw) F.sl fD (go hN0 (Below.size hB)) iw iw λad ba O y=>⟨.inl (hS.trans O),?_⟩)
 replace y:=cH.app (enc:=encV) rfl rfl rfl rfl y
 obtain⟨hbl,hbp,hpo,hbm,hq,d,hbs,hxq,hmm,hLO⟩:=O.k10 hbl hbp hpo hbm hq d hbs hxq hmm hLO
 replace hB:=cW hB O hN0
 obtain⟨ho,f,g⟩:=O.k3 ho f g
 replace hS:=hS.trans O
 refine Tf 13 rfl rfl dS hS<|To 14 rfl (db (v:=ad) rfl rfl eI (dp.one y.sl) hmm fD λbb D aL=>⟨.inr ka,?_⟩)
 replace hbl:=At.grownAt hbl hmm D Dd
 replace hbp:=At.grownAt hbp hmm D Dd
 replace hpo:=cH.grownAt hpo hmm D Dd
 replace hbm:=At.grownAt hbm hmm D Dd
 replace hq:=dy.grownAt hq hmm D
 replace d:=At.grownNe d hne D
 replace hbs:=At.grownAt hbs hmm D Dd
 replace hxq:=cH.grownAt hxq hmm D Dd
 replace hLO:=LO.grownAt hLO hmm D Dd
 replace hB:=dg hB D hN0 (λj hj=>by cases hj;exact lom)
 replace ho:=cH.grownAt ho hmm D Dd
 replace y:=cH.grownAt y hmm D Dd
 replace hmm:=aL
 replace hmm:At _ _ #[_,_] _:=hmm
 refine Td ?_
 repeat (first|refine eN ?_|refine ex ?_)
 refine eq ?_
 repeat (first|refine d9 ?_|refine dO ?_)
 refine oe ?_
 rw[←hput]
 rw[List.drop_zero,acC,Ep]at y
 exact⟨hB,hbl,hbp,hpo,hbm,hq,d,hbs,hxq,_,_,hmm,y,LO.put (i:=i) hLO ho hi⟩
theorem CS (S:Sp) (onV mayV:Value) (xa:Value) (l:List Rw) (w:World) (hon:dp fh 4 w onV S.on) (hmay:dp fh 4 w mayV S.may) (hl:dp gx 3 w xa l) (hlb:l.length≤1000000) (hlr:iC l):
    Fn Tryz.prog 146 #[.agg #[.int .i64 S.n,onV,mayV],xa] w λv w'=>if CE S l=0 then ∃rv vs,v= .tuple #[.agg #[.int .i64 (l.length:Int),rv], .int .i64 0]∧cH encV 1 35 w' w.heap.size rv vs∧LO 3 w.heap.size w' vs (mB S l)else v= .tuple #[.agg #[.int .i64 0, .slice none 0 0], .int .i64 (CE S l)]:=by
 refine cM (n:=76) Tryz.func146 rfl rfl rfl λhB=> ?_
 refine Zr<|Zy (dw (c:= #[_,_,_]) rfl rfl λP W3 bk ah d=> ?_)
 replace hB:=Ze hB ah
 refine Zy (dw (v:=xa) (c:= #[xa]) rfl (dp.cells (Below.slT hB hl)) λB W6 bl ai f=> ?_)
 obtain⟨hB,d⟩:=ai.k2 hB d
 refine Zy (cK gq rfl λQ W9 aj ak a=> ?_)
 have R:=ZO aj hB
 obtain⟨hB,d,f⟩:=ak.k3 hB d f
 refine ZZ rfl<|Zq<|Zr<|Zv (cz rfl ee rfl d)<|ZC (vs:=[.agg #[_,_,_]]) oC (iP S _ _ _ (Below.slT hB hon) (Below.slT hB hmay)) rfl λbm bn al ao=> ?_
 obtain⟨hB,d,f,a⟩:=al.k4 hB d f a
 obtain rfl:=ao
 refine Zv (eR rfl)<|ct<|ZQ rfl (λV=> ?_) λV=> ?_
 refine Zr<|Zv (pU)<|Zy (cA rfl rfl da rfl a rfl rfl λbo ap aq=> ?_)
 replace hB:=Zg hB ap R
 replace a:=aq
 refine ZZ rfl<|Zt<|eh rfl da a rfl (v1:= .int .i64 1) rfl ⟨hB,?_⟩
 rw[ZE (by rw[kZ V];decide),if_neg (by decide)]
 refine cx ?_
 have hr:dt S=true:=mN V
 obtain⟨h0,h8,h1,h5,h6,_⟩:=dz.1 hr
 refine Zr<|Zy (cK VW rfl λC bp ar au g=> ?_)
 have av:=ZO ar hB
 obtain⟨hB,d,f,a⟩:=au.k4 hB d f a
 refine ct<|Zq<|Zr<|ZL xa rfl ng f rfl<|Zv (de (v:=xa) rfl (Below.slT hB hl) dM)<|ZZ rfl<|cy ?_
 refine cY (σ:=(Nat)×(Value)) [5,5,8,10,24,44] (λ(k,vp)=>[(24, .int .i64 (k:Int))]) (λsg W=>match sg with|(k,vp)=>(Below w.heap.size w W)∧(At W P _ 59)∧(At W B _ 83)∧(At W Q _ 203)∧(At W C #[vp] 57)∧(cH fh 4 40 W w.heap.size vp (wD l S.n k))∧(k≤l.length)∧(∀q,q<k→dP (l.getD q ⟨⟨0,0⟩,0⟩).c.m (l.getD q ⟨⟨0,0⟩,0⟩).c.v S.n=true)∧(True)) (λ(k,vp)=>l.length-k) ((0, .slice none 0 0)) ⟨rfl,trivial⟩ ⟨hB,d,f,a,g,cH.nil,(my _),eT,trivial⟩ ?_
 rintro⟨k,vp⟩ bq br ⟨hB,d,f,a,g,hpo,hk,hq,_⟩ bs aw
 refine Zr<|Zv (dq rfl rfl)<|ct<|Zq<|ZQ rfl (λax=> ?_) λax=> ?_
 refine cx<|Zq<|cy<|Zr<|Zv (dm (v:=xa) rfl (Below.slT hB hl) rfl dM Om (by omega))<|Zv (jc rfl dU (dp.cell (Below.slT hB hl) eA ⟨⟨0,0⟩,0⟩ Om (by omega) 0 rfl) (dp.cell (Below.slT hB hl) eA ⟨⟨0,0⟩,0⟩ Om (by omega) 1 rfl) (dp.cell (Below.slT hB hl) eA ⟨⟨0,0⟩,0⟩ Om (by omega) 2 rfl))<|Zy (cK jM rfl λbt bu ay az D=> ?_)
 have aA:=ZO ay hB
 obtain⟨hB,d,f,a,g,hpo⟩:=az.k6 hB d f a g hpo
 refine Zy (cA rfl rfl dU rfl D rfl rfl λbv J aB=> ?_)
 replace hB:=Zg hB J aA
 replace d:=At.grownAt d D J Dd
 replace f:=At.grownAt f D J Dd
 replace a:=At.grownAt a D J Dd
 replace g:=At.grownAt g D J Dd
 replace hpo:=cH.grownAt hpo D J Dd
 replace D:=aB
 refine ct ?_
 obtain⟨aC,aD,bw⟩:=hlr.get (k:=k) (by omega)
 refine Zr<|Zf rfl gC<|Zv (iq rfl dh (At.cell D rfl) (At.cell D rfl))<|Zf rfl iM<|Zl rfl cR d rfl<|ZC (vs:=[.agg #[_,_], .int .i64 _]) yM (kx _ _ _ _ aC aD) rfl λbx bz aE aF=> ?_
 obtain⟨hB,d,f,a,g,hpo⟩:=aE.k6 hB d f a g hpo
 obtain⟨sa,er,rfl,hhP7_4⟩:=vY aF
 refine Zw (.tuple #[.agg #[_,_,_,_], .int .i64 _]) rfl<|Zv (cZ rfl)<|Zv (c7 rfl)<|Zy (cK el rfl λZ aG aa aH E=> ?_)
 have aI:=ZO aa hB
 have aJ:=abE (b:=Z) hpo (aa1 aa.symm)
 obtain⟨hB,d,f,a,g,hpo⟩:=aH.k6 hB d f a g hpo
 replace E:At aG Z #[wv 0 0,wv 0 1,wv 0 2,wv 0 3] 40:=E
 refine Zy (cA rfl rfl cC rfl E rfl rfl λbA K aK=> ?_)
 replace hB:=Zg hB K aI
 replace d:=At.grownAt d E K Dd
 replace f:=At.grownAt f E K Dd
 replace a:=At.grownAt a E K Dd
 replace g:=At.grownAt g E K Dd
 replace hpo:=abg hpo aJ K
 replace E:=aK
 refine ZZ rfl<|Zq<|Zr<|Zi rfl<|Zv (e7 rfl rfl)<|ct<|ZQ rfl (λX=> ?_) λX=> ?_
 refine Zr<|Zv (pU)<|Zi rfl<|Zy (cA rfl rfl da rfl a rfl rfl λbB aL aM=> ?_)
 replace hB:=Zg hB aL R
 replace a:=aM
 refine ZZ rfl<|Zt<|eh rfl da a rfl (v1:= .int .i64 _) rfl ⟨hB,?_⟩
 obtain⟨hrr,her⟩:=hhP7_4.resolve_left (λh=>X h.2.2)
 rw[X3 (k:=k) (by omega) (λq=>by have:=hrr.symm.trans q;cases this),if_neg (by decide),her]
 refine cx ?_
 obtain⟨hrr,hsa,_⟩:=hhP7_4.resolve_right (λh=>X (λe=>by rw[h.2]at e;cases e))
 subst hsa
 have hpl:=Eo (l:=l) (n:=S.n) (k:=k) (by omega)
 refine cI<|ZL vp rfl eY g rfl<|Zv (cz rfl cC rfl E)<|Zy (eC (u:= .agg #[_,_,_,_]) rfl ey pP rfl Dd Dd λaN bC bD aO aP=> ?_)
 obtain⟨hB,d,f,a,g,hpo⟩:=aO.k6 hB d f a g hpo
 refine Zy (dR (v:=vp) (v2:= .slice (some ⟨aN,0,none⟩) 1 1) rfl rfl ey pP Dd hpo (eK aP rfl) rfl (mV hB) (by omega) (by omega) λab bE N L=> ?_)
 replace L:=cH.snoc (enc:=fh) (x:=(qU (l.getD k ⟨⟨0,0⟩,0⟩).c.m (l.getD k ⟨⟨0,0⟩,0⟩).c.v S.n.toNat)) rfl rfl rfl rfl L
 replace hB:=ZG hB N hpo
 replace d:=At.grownOw d hpo N Dd
 replace f:=At.grownOw f hpo N Dd
 replace a:=At.grownOw a hpo N Dd
 replace g:=At.grownOw g hpo N Dd
 refine Zy (db (v:=ab) rfl rfl eY (dp.one L.sl) g fD λbF O aQ=> ?_)
 replace hB:=Zg hB O av
 replace d:=At.grownAt d g O Dd
 replace f:=At.grownAt f g O Dd
 replace a:=At.grownAt a g O Dd
 replace L:=cH.grownAt L g O Dd
 replace g:=aQ
 replace g:At _ _ #[_] _:=g
 refine ct<|ZT rfl rfl rfl ?_
 exact aw _ _ ((k+1,ab)) Za ⟨rfl,trivial⟩ ⟨hB,d,f,a,g,(by rw[←LG Om];exact L),Om,(d6 hq hrr),trivial⟩ (by show l.length-(k+1)<l.length-k;omega)
 refine cT<|Zq ?_
 obtain rfl:k=l.length:=by omega
 refine Zr<|ZL xa rfl ng f rfl<|Zv (de (v:=xa) rfl (Below.slT hB hl) dM)<|Zv (iG rfl rfl)<|ct<|ZQ rfl (λaR=> ?_) λaR=> ?_
 refine Zr<|Zv (pU)<|Zy (cA rfl rfl da rfl a rfl rfl λbG aS aT=> ?_)
 replace hB:=Zg hB aS R
 replace a:=aT
 refine ZZ rfl<|Zt<|eh rfl da a rfl (v1:= .int .i64 3) rfl ⟨hB,?_⟩
 rw[XS hr hq (by omega),if_neg (by decide)]
 refine cx<|Zr<|ZL xa rfl ng f rfl<|Zv (de (v:=xa) rfl (Below.slT hB hl) dM)<|Zv (ko (h0:=rfl) (k0:=rfl) (c0_0:= .int .i64 _))<|Zy (cK gq rfl λF bH ac aU j=> ?_)
 have ad:=ZO ac hB
 have ae:=Zn ac a.lt
 obtain⟨hB,d,f,a,g,hpo⟩:=aU.k6 hB d f a g hpo
 refine Zy (cA rfl rfl da rfl j rfl rfl λbI M aV=> ?_)
 replace hB:=Zg hB M ad
 replace d:=At.grownAt d j M Dd
 replace f:=At.grownAt f j M Dd
 replace a:=At.grownNe a ae M
 replace g:=At.grownAt g j M Dd
 replace hpo:=cH.grownAt hpo j M Dd
 replace j:=aV
 refine ct<|Zr<|Zy (g7 (enc:=dY) (encV:=Value.bool) λT bJ aW aX t=> ?_)
 have aY:=ZO aW hB
 obtain⟨hB,d,f,a,g,hpo,j⟩:=aX.k7 hB d f a g hpo j
 replace t:dy dY Value.bool _ _ (fz (([]:List (List Int)).map lk)):=t
 refine Zy (cK Tv rfl λG bK aZ a0 r=> ?_)
 have a1:=ZO aZ hB
 obtain⟨hB,d,f,a,g,hpo,j,t⟩:=a0.k8 hB d f a g hpo j t
 refine Zy (db (v:= .map (some T)) rfl rfl yw rfl r K1 λbL H a2=> ?_)
 replace hB:=Zg hB H a1
 replace d:=At.grownAt d r H Dd
 replace f:=At.grownAt f r H Dd
 replace a:=At.grownAt a r H Dd
 replace g:=At.grownAt g r H Dd
 replace hpo:=cH.grownAt hpo r H Dd
 replace j:=At.grownAt j r H Dd
 replace t:=dy.grownAt t r H
 replace r:=a2
 replace r:At _ _ #[_] _:=r
 refine ct<|Zr<|Zv (eS (vs:= #[.pointer (some ⟨B,0,none⟩), .pointer (some ⟨C,0,none⟩), .pointer (some ⟨G,0,none⟩), .pointer (some ⟨F,0,none⟩)]) AO)<|Zw (.func (.func 177) #[] #[.pointer (some ⟨B,0,none⟩), .pointer (some ⟨C,0,none⟩), .pointer (some ⟨G,0,none⟩), .pointer (some ⟨F,0,none⟩)]) rfl<|ct<|Zq<|Zr<|Zf rfl gW<|ZL onV rfl eY d rfl<|Zv (de (v:=onV) rfl (Below.slT hB hon) ey)<|ZZ rfl<|cy ?_
 refine cY (σ:=(Nat)×(Value)×(List Value)) [14,15,17,17,57,74] (λ(o,rv,vs)=>[(57, .int .i64 (o:Int))]) (λsg W=>match sg with|(o,rv,vs)=>(Below w.heap.size w W)∧(At W P _ 59)∧(At W B _ 83)∧(At W Q _ 203)∧(At W C _ 57)∧(cH fh 4 40 W w.heap.size vp _)∧(At W G _ 218)∧(dy dY Value.bool W T (fz ((lh S l o).map lk)))∧(At W F #[.int .i64 (l.length:Int),rv] 203)∧(cH encV 1 35 W w.heap.size rv vs)∧(LO 3 w.heap.size W vs (iF (lh S l o)))∧(o≤S.on.length)∧(True)) (λ(o,rv,vs)=>S.on.length-o) ((0, .slice none 0 0,[])) ⟨rfl,trivial⟩ ⟨hB,d,f,a,g,hpo,r,t,j,cH.nil,LO.nil,(my _),trivial⟩ ?_
 rintro⟨o,rv,vs⟩ bM bN ⟨hB,d,f,a,g,hpo,r,t,j,hrv,hLO,ho,_⟩ bO a3
 refine Zr<|Zv (dq rfl rfl)<|ct<|Zq<|ZQ rfl (λa4=> ?_) λa4=> ?_
 refine cx<|Zq<|cy<|Zr<|Zi rfl<|Zv (dm (v:=onV) rfl (Below.slT hB hon) rfl ey Om (by omega))<|Zv (eQ rfl cC (dp.cell (Below.slT hB hon) dr 0 Om (by omega) 0 rfl) (dp.cell (Below.slT hB hon) dr 0 Om (by omega) 1 rfl) (dp.cell (Below.slT hB hon) dr 0 Om (by omega) 2 rfl) (dp.cell (Below.slT hB hon) dr 0 Om (by omega) 3 rfl))<|Zy (cK el rfl λaf a5 ag a6 y=> ?_)
 have a7:=ZO ag hB
 have a8:=abE (b:=af) hpo (aa1 ag.symm)
 obtain⟨hB,d,f,a,g,hpo,r,t,j,hrv,hLO⟩:=a6.k11 hB d f a g hpo r t j hrv hLO
 replace y:At a5 af #[wv 0 0,wv 0 1,wv 0 2,wv 0 3] 40:=y
 refine Zi rfl<|Zy (cA rfl rfl cC rfl y rfl rfl λbP z a9=> ?_)
 replace hB:=Zg hB z a7
 replace d:=At.grownAt d y z Dd
 replace f:=At.grownAt f y z Dd
 replace a:=At.grownAt a y z Dd
 replace g:=At.grownAt g y z Dd
 replace hpo:=abg hpo a8 z
 replace r:=At.grownAt r y z Dd
 replace t:=dy.grownAt t y z
 replace j:=At.grownAt j y z Dd
 replace hrv:=cH.grownAt hrv y z Dd
 replace hLO:=LO.grownAt hLO y z Dd
 replace y:=a9
 refine ct<|Zr<|Zv (cz rfl cC rfl y)<|ZC (vs:=[.agg #[_,_,_,_]]) uI (nU (S.on.getD o 0) _) rfl λU bQ ba A=> ?_
 have bb:=(Below.size hB)
 obtain⟨hB,d,f,a,g,hpo,r,t,j,hrv,hLO,y⟩:=ba.k12 hB d f a g hpo r t j hrv hLO y
 replace A:=cH.mono A bb
 refine Zv (de (v:=U) rfl A.sl cV)<|ZZ rfl<|cy ?_
 refine cY (σ:=(Nat)×(Value)×(List Value)) [17,17,65,73] (λ(k,rv2,I)=>[(65, .int .i64 (k:Int))]) (λsg W=>match sg with|(k,rv2,I)=>(Below w.heap.size w W)∧(At W P _ 59)∧(At W B _ 83)∧(At W Q _ 203)∧(At W C _ 57)∧(cH fh 4 40 W w.heap.size vp _)∧(At W G _ 218)∧(cH dT 1 3 W w.heap.size U _)∧(dy dY Value.bool W T (fz ((uw l o (eb (S.on.getD o 0)) (lh S l o) k).map lk)))∧(At W F #[.int .i64 (l.length:Int),rv2] 203)∧(cH encV 1 35 W w.heap.size rv2 I)∧(LO 3 w.heap.size W I (iF (uw l o (eb (S.on.getD o 0)) (lh S l o) k)))∧(k≤(eb (S.on.getD o 0)).length)∧(True)) (λ(k,rv2,I)=>(eb (S.on.getD o 0)).length-k) ((0,rv,vs)) ⟨rfl,trivial⟩ ⟨hB,d,f,a,g,hpo,r,A,t,j,hrv,hLO,(my _),trivial⟩ ?_
 rintro⟨k,rv2,I⟩ bR bS ⟨hB,d,f,a,g,hpo,r,A,t,j,hrv2,hLO2,hk,_⟩ bT bc
 refine Zr<|Zv (dq rfl rfl)<|ct<|Zq<|ZQ rfl (λbd=> ?_) λbd=> ?_
 refine cx<|Zq<|cy<|Zr<|Zv (dm (v:=U) rfl A.sl rfl cV Om (by omega))<|Zv (cD (v:= .int .i64 _) rfl cR (dp.cell A.sl ez 0 Om (by omega) 0 rfl))<|ZZ rfl ?_
 have hls:=mq (S.on.getD o 0)
 obtain⟨p,bf,hpb,hpe⟩:=l9 (s:=S.on.getD o 0) (i:=k) (by omega)
 have bg:0≤(eb (S.on.getD o 0)).getD k 0∧((eb (S.on.getD o 0)).getD k 0).toNat<2^S.n.toNat:=by rw[hpe];exact⟨by omega,by rw[so];exact T3 hr (by omega) hpb bf⟩
 refine cI<|Zw (.func (.func 177) #[] #[.pointer (some ⟨B,0,none⟩), .pointer (some ⟨C,0,none⟩), .pointer (some ⟨G,0,none⟩), .pointer (some ⟨F,0,none⟩)]) rfl<|Zi rfl<|Zi rfl ?_
 refine mQ (dd:=some 72) rfl rfl rfl (ip (q:=177) (first:= #[]) (cap:= #[.pointer (some ⟨B,0,none⟩), .pointer (some ⟨C,0,none⟩), .pointer (some ⟨G,0,none⟩), .pointer (some ⟨F,0,none⟩)]) (vs:= #[.int .i64 _, .int .i64 _, .pointer (some ⟨B,0,none⟩), .pointer (some ⟨C,0,none⟩), .pointer (some ⟨G,0,none⟩), .pointer (some ⟨F,0,none⟩)]) rfl Qm GD) (YK w.heap.size o ((eb (S.on.getD o 0)).getD k 0) S.n l (uw l o (eb (S.on.getD o 0)) (lh S l o) k) B C G F T Q P xa _ rv2 U _ _ I (eb (S.on.getD o 0)) _ (Below.size hB) Om bg Om hlr hq (tT (w4 S l o) k) (λx hx=>Rg hx) (Mq Om Om) (Below.slT hB hl) f g hpo r t a d A j hrv2 hLO2 ad aY ae) (λbU bV bh=> ?_)
 obtain⟨hBt,f,g,hpo,r,t,a,d,A,rv3,bi,j,hrv3,hLO3⟩:=bh
 replace hB:=Below.trans hB hBt
 refine ct<|ZT rfl rfl rfl ?_
 exact bc _ _ ((k+1,rv3,bi)) Za ⟨rfl,trivial⟩ ⟨hB,d,f,a,g,hpo,r,A,(by exact t),j,hrv3,hLO3,Om,trivial⟩ (by show (eb (S.on.getD o 0)).length-(k+1)<(eb (S.on.getD o 0)).length-k;omega)
 refine cT ?_
 obtain rfl:k=(eb (S.on.getD o 0)).length:=by omega
 refine ZT rfl rfl rfl ?_
 exact a3 _ _ ((o+1,rv2,I)) Za ⟨rfl,trivial⟩ ⟨hB,d,f,a,g,hpo,r,(by exact t),j,hrv2,hLO2,Om,trivial⟩ (by show S.on.length-(o+1)<S.on.length-o;omega)
 refine cT ?_
 obtain rfl:o=S.on.length:=by omega
 refine Zr<|Zv (cz rfl da rfl j)<|Zy (cA rfl rfl da rfl a rfl (by simp only[ab1,acD,cH.one hrv,abN];rfl) λbW Y bj=> ?_)
 replace hB:=Zg hB Y R
 replace hrv:=cH.grownAt hrv a Y Dd
 replace hLO:=LO.grownAt hLO a Y Dd
 replace a:=bj
 refine ZZ rfl<|Zt<|eh rfl da a rfl (v1:= .int .i64 0) rfl ⟨hB,?_⟩
 rw[if_pos (Ud hr hq (by omega))]
 exact⟨_,_,rfl,hrv,hLO⟩
end
section
open Go Go.RowKit
theorem Ke:cX Tryz.prog 232=true:=by kernel_rfl
theorem St:cX Tryz.prog 231=true:=by kernel_rfl
theorem uX:cX Tryz.prog 181=true:=by kernel_rfl
theorem wL:dW Tryz.prog 3=some (.int .i64 0):=by kernel_rfl
theorem CT:cX Tryz.prog 230=true:=by kernel_rfl
theorem JL:cX Tryz.prog 234=true:=by kernel_rfl
theorem J4:cX Tryz.prog 233=true:=by kernel_rfl
theorem vl (xr:Value) (r:List Int) (c:Int) (w:World) (hr:dp dT 1 w xr r) (hrb:r.length≤9223372036854775807):
    Fn Tryz.prog 232 #[xr, .int .i64 c] w λv w'=>v= .bool (decide (c∈r)):=by
 refine cM (n:=17) Tryz.func232 rfl rfl rfl λhB=> ?_
 refine Zr<|Zb rfl<|ct<|Zq<|Zr<|Zw xr rfl<|Zv (de (v:=xr) rfl (Below.slT hB hr) cV)<|ZZ rfl<|cy ?_
 refine cY (σ:=(Nat)) [4,4,6,6,9,16] (λk=>[(9, .int .i64 (k:Int))]) (λk W=>(Below w.heap.size w W)∧(k≤r.length)∧(∀q,q<k→¬r.getD q 0=c)∧(True)) (λk=>r.length-k) (0) ⟨rfl,trivial⟩ ⟨hB,(my _),eT,trivial⟩ ?_
 rintro k g8 W7 ⟨hB,hk,hq,_⟩ J9 b
 refine Zr<|Zv (dq rfl rfl)<|ct<|Zq<|ZQ rfl (λd=> ?_) λd=> ?_
 refine cx<|Zq<|cy<|Zr<|Zv (dm (v:=xr) rfl (Below.slT hB hr) rfl cV Om Om)<|Zv (cD (v:= .int .i64 _) rfl cR (dp.cell (Below.slT hB hr) ez 0 Om Om 0 rfl))<|ZZ rfl<|Zr<|Zi rfl<|Zi rfl<|Zv (dJ rfl rfl)<|ct ?_
 refine ZQ rfl (λa=> ?_) λa=> ?_
 refine Zr<|Zb rfl<|ct<|Zt<|df (v:= .bool true) rfl ⟨hB,?_⟩
 exact T6 (k:=k) (by omega) a
 refine cx<|ZT rfl rfl rfl ?_
 exact b _ _ (k+1) Za ⟨rfl,trivial⟩ ⟨hB,Om,(d6 hq a),trivial⟩ Zo
 refine cT<|Zr<|Zb rfl<|ct<|Zt<|df (v:= .bool false) rfl ⟨hB,?_⟩
 exact T1 (by omega) hq
theorem qK (xa xb:Value) (a b:List Int) (w:World) (ha:dp dT 1 w xa a) (hb:dp dT 1 w xb b) (hal:a.length≤9223372036854775807) (hbl:b.length≤9223372036854775807):
    Fn Tryz.prog 233 #[xa,xb] w λv w'=>v= .bool (Cs a b):=by
 refine cM (n:=18) Tryz.func233 rfl rfl rfl λhB=> ?_
 refine Zr<|Zb rfl<|ct<|Zq<|Zr<|Zw xa rfl<|Zv (de (v:=xa) rfl (Below.slT hB ha) cV)<|ZZ rfl<|cy ?_
 refine cY (σ:=(Nat)) [4,4,6,6,9,17] (λk=>[(9, .int .i64 (k:Int))]) (λk W=>(Below w.heap.size w W)∧(k≤a.length)∧(∀q,q<k→(!decide (a.getD q 0∈b))=false)∧(True)) (λk=>a.length-k) (0) ⟨rfl,trivial⟩ ⟨hB,(my _),eT,trivial⟩ ?_
 rintro k g8 W7 ⟨hB,hk,hq,_⟩ J9 d
 refine Zr<|Zv (dq rfl rfl)<|ct<|Zq<|ZQ rfl (λe=> ?_) λe=> ?_
 refine cx<|Zq<|cy<|Zr<|Zv (dm (v:=xa) rfl (Below.slT hB ha) rfl cV Om Om)<|Zv (cD (v:= .int .i64 _) rfl cR (dp.cell (Below.slT hB ha) ez 0 Om Om 0 rfl))<|ZZ rfl<|Zr<|Zw xb rfl<|Zi rfl<|ZC Ke (vl _ _ _ _ (Below.slT hB hb) pN) rfl λh i f g=> ?_
 replace hB:=Ze hB f
 obtain rfl:=g
 refine Zv (eR rfl)<|ct<|ZQ rfl (λc=> ?_) λc=> ?_
 refine Zr<|Zb rfl<|ct<|Zt<|df (v:= .bool false) rfl ⟨hB,?_⟩
 exact XW (k:=k) (by omega) c
 refine cx<|ZT rfl rfl rfl ?_
 exact d _ _ (k+1) Za ⟨rfl,trivial⟩ ⟨hB,Om,(d6 hq c),trivial⟩ Zo
 refine cT<|Zr<|Zb rfl<|ct<|Zt<|df (v:= .bool true) rfl ⟨hB,?_⟩
 exact X2 (by omega) hq
theorem xv (k:Int) (xr:Value) (r:List Int) (c:Int) (bx:Nat) (w:World) (hx:At w bx #[.int .i64 c] 3) (hr:dp dT 1 w xr r) (hrb:r.length≤1000000):
    Fn Tryz.prog 231 #[.int .i64 k,xr, .pointer (some ⟨bx,0,none⟩)] w λv w'=>v= .bool (!decide (c∈r)):=by
 refine cM (n:=10) Tryz.func231 rfl rfl rfl λhB=> ?_
 refine Zr<|Zb rfl<|ct<|Zr<|Zw xr rfl<|Zl rfl cR (On hB hx) rfl<|ZC Ke (vl _ _ _ _ (Below.slT hB hr) (by omega)) rfl λd W5 a b=> ?_
 replace hB:=Ze hB a
 obtain rfl:=b
 refine Zv (eR rfl)<|Zb rfl<|ct<|Zt<|df (v:= .bool _) rfl ⟨hB,?_⟩
 rfl
theorem qO (k:Int) (xr:Value) (i:Int) (bx:Nat) (w:World) (hx:At w bx #[.int .i64 i] 3):
    Fn Tryz.prog 234 #[.int .i64 k,xr, .pointer (some ⟨bx,0,none⟩)] w λv w'=>v= .bool (decide (¬k=i)):=by
 refine cM (n:=9) Tryz.func234 rfl rfl rfl λhB=> ?_
 refine Zr<|Zb rfl<|ct<|Zr<|Zi rfl<|Zl rfl cR (On hB hx) rfl<|Zv (e7 rfl rfl)<|Zb rfl<|ct<|Zt<|df (v:= .bool _) rfl ⟨hB,?_⟩
 rfl
theorem o6 (n:Int) (rv:Value) (vs:List Value) (L:ML) (q bx:Nat) (p:Nat→Bool) (w:World) (hrv:cH encV 1 35 w 0 rv vs) (hLO:LO 3 0 w vs L) (hLb:L.length≤1000000) (hq:cX Tryz.prog q=true) (hdo:∀(k:Nat) (xr:Value) (W:World),k<L.length→Below w.heap.size w W→dp dT 1 W xr (L.getD k [])→Fn Tryz.prog q #[.int .i64 (k:Int),xr, .pointer (some ⟨bx,0,none⟩)] W λv w'=>v= .bool (p k)):
    Fn Tryz.prog 230 #[.agg #[.int .i64 n,rv], .func (.func q) #[] #[.pointer (some ⟨bx,0,none⟩)]] w λv w'=>∃rv',v= .agg #[.int .i64 n,rv']∧cH encV 1 35 w' w.heap.size rv' (tS undef p vs L.length):=by
 refine cM (n:=31) Tryz.func230 rfl rfl rfl λhB=> ?_
 have hll:=hLO.ll
 have hvl:=hll.len
 refine Zr<|Zy (dw (c:= #[_,_]) rfl rfl λE W3 U F a=> ?_)
 replace hB:=Ze hB F
 refine Zy (cK gq rfl λG W6 H I d=> ?_)
 have J:=ZO H hB
 obtain⟨hB,a⟩:=I.k2 hB a
 refine ct<|Zr<|Zf rfl iv<|Zl rfl cR a rfl<|Zv (ko (h0:=rfl) (k0:=rfl) (c0_0:= .int .i64 _))<|Zy (cK gq rfl λK V l M f=> ?_)
 have t:=ZO l hB
 have y:=Zn l a.lt
 have z:=Zn l d.lt
 obtain⟨hB,a,d⟩:=M.k3 hB a d
 refine Zy (cA rfl rfl da rfl f rfl rfl λX m N=> ?_)
 replace hB:=Zg hB m t
 replace a:=At.grownNe a y m
 replace d:=At.grownNe d z m
 replace f:=N
 refine ct<|Zq<|Zr<|Zf rfl dS<|ZL rv rfl eI a rfl<|Zv (de (v:=rv) rfl ((Below.ow hB hrv)).sl dF)<|ZZ rfl<|cy ?_
 refine cY (σ:=(Nat)×(Value)) [6,7,14,29] (λ(k,v0)=>[(14, .int .i64 (k:Int))]) (λsg W=>match sg with|(k,v0)=>(Below w.heap.size w W)∧(At W E _ 203)∧(At W G _ 203)∧(At W K #[.int .i64 n,v0] 203)∧(cH encV 1 35 W w.heap.size v0 (tS undef p vs k))∧(k≤L.length)∧(True)) (λ(k,v0)=>L.length-k) ((0, .slice none 0 0)) ⟨rfl,trivial⟩ ⟨hB,a,d,f,cH.nil,(my _),trivial⟩ ?_
 rintro⟨k,v0⟩ Y Z ⟨hB,a,d,f,ho,hk,_⟩ aa A
 refine Zr<|Zv (dq rfl rfl)<|ct<|Zq<|ZQ rfl (λO=> ?_) λO=> ?_
 refine cx<|Zq<|cy<|Zr<|Zi rfl<|Zv (dm (v:=rv) rfl ((Below.ow hB hrv)).sl rfl dF Om Om)<|Zv (cD (v:=(vs.getD k undef)) rfl fp (dp.cell ((Below.ow hB hrv)).sl fX undef Om Om 0 rfl)) ?_
 have h:dp dT 1 w ((vs.getD k undef)) (L.getD k []):=hll.get k (by omega)
 refine Zi rfl<|Zw (vs.getD k undef) rfl<|ct ?_
 have hkl:=Du undef p vs k
 refine Zr<|Zw (.func (.func q) #[] #[.pointer (some ⟨bx,0,none⟩)]) rfl<|Zi rfl<|Zw (vs.getD k undef) rfl ?_
 refine oI (dd:=some 22) rfl rfl rfl (ip (q:=q) (first:= #[]) (cap:= #[.pointer (some ⟨bx,0,none⟩)]) (vs:= #[.int .i64 _,(vs.getD k undef), .pointer (some ⟨bx,0,none⟩)]) rfl hq GD) (hdo k _ _ Om hB (Below.slT hB h)) (λab ac P Q=> ?_)
 obtain⟨hB,a,d,f,ho⟩:=P.k5 hB a d f ho
 obtain rfl:=Q
 refine ct<|ZQ rfl (λo=> ?_) λo=> ?_
 refine cI<|Zf rfl dS<|ZL v0 rfl eI f rfl<|Zw (vs.getD k undef) rfl<|Zy (eC (u:=(vs.getD k undef)) rfl dF jJ (by rw[dp.cells (Below.slT hB h)];rfl) Dd Dd λr ad s R B=> ?_)
 have ae:=ZO s hB
 have af:=abE (b:=r) (Below.ow hB hrv) (aa1 s.symm)
 have ag:=abE (b:=r) ho (aa1 s.symm)
 obtain⟨hB,a,d,f,ho⟩:=R.k5 hB a d f ho
 rw[dp.cells (Below.slT hB h)]at B
 refine Zy (dR (v:=v0) (v2:= .slice (some ⟨r,0,none⟩) 1 1) rfl rfl dF jJ Dd ho (eK B rfl) (by simp only[ab1,acD,dp.one (Below.slT hB h),abN]) (mV hB) (by omega) (by omega) λC ah i g=> ?_)
 replace g:=cH.snoc (enc:=encV) (x:=(vs.getD k undef)) rfl rfl rfl rfl g
 replace hB:=ZG hB i ho
 replace a:=At.grownOw a ho i Dd
 replace d:=At.grownOw d ho i Dd
 replace f:=At.grownOw f ho i Dd
 refine Zf rfl dS<|Zy (db (v:=C) rfl rfl eI (dp.one g.sl) f fD λai j S=> ?_)
 replace hB:=Zg hB j t
 replace a:=At.grownNe a y j
 replace d:=At.grownNe d z j
 replace g:=cH.grownAt g f j Dd
 replace f:=S
 replace f:At _ _ #[_,_] _:=f
 refine ct<|ZT rfl rfl rfl ?_
 exact A _ _ ((k+1,C)) Za ⟨rfl,trivial⟩ ⟨hB,a,d,(by exact f),(by (rw[←TJ o];exact g)),Om,trivial⟩ (by show L.length-(k+1)<L.length-k;omega)
 refine cx<|ZT rfl rfl rfl ?_
 exact A _ _ ((k+1,v0)) Za ⟨rfl,trivial⟩ ⟨hB,a,d,(by exact f),(by (rw[←Ul o];exact ho)),Om,trivial⟩ (by show L.length-(k+1)<L.length-k;omega)
 refine cT<|Zr<|Zv (cz rfl da rfl f)<|Zy (cA rfl rfl da rfl d rfl (by exact iI (cH.one ho)) λaj D T=> ?_)
 replace hB:=Zg hB D J
 replace ho:=cH.grownAt ho d D Dd
 replace d:=T
 refine ct<|Zt<|jw rfl da d rfl ⟨hB,?_⟩
 exact⟨_,rfl,(by have e:k=L.length:=Om;rw[e]at ho;exact ho)⟩
theorem AM (n:Int) (rv:Value) (vs:List Value) (L:ML) (w:World) (hrv:cH encV 1 35 w 0 rv vs) (hLO:LO 3 0 w vs L) (hr:dQ n L=true) (hLb:L.length≤1000000):
    Fn Tryz.prog 183 #[.agg #[.int .i64 n,rv]] w λv w'=>∃rv' vs' L' c b,v= .tuple #[.agg #[.int .i64 n,rv'], .int .i64 c, .bool b]∧cH encV 1 35 w' 0 rv' vs'∧LO 3 0 w' vs' L'∧YZ L L' c b:=by
 refine cM (n:=31) Tryz.func183 rfl rfl rfl λhB=> ?_
 have hll:=hLO.ll
 have hvl:=hll.len
 refine Zr<|Zy (dw (c:= #[_,_]) rfl rfl λu W3 S x e=> ?_)
 replace hB:=Ze hB x
 refine Zy (cK gq rfl λg W6 q y d=> ?_)
 have r:=ZO q hB
 have z:=Zn q e.lt
 obtain⟨hB,e⟩:=y.k2 hB e
 refine Zi rfl<|Zb rfl<|ct<|Zq<|Zr<|Zv (cz rfl da rfl e)<|ZC (vs:=[.agg #[_,_]]) uX (kA n _ _ L _ ((Below.ow hB hrv)).sl (LO.mono (LO.below hB hLO) (my _)).ll hLb (λi=>go (fL hr i) Dd)) rfl λT U A B=> ?_
 obtain⟨hB,e,d⟩:=A.k3 hB e d
 obtain rfl:=B
 refine Zv (eR rfl)<|ct<|ZQ rfl (λs=> ?_) λs=> ?_
 exact absurd (kZ s) (by rw[hr];decide)
 refine cx<|Zq<|Zr<|Zf rfl dS<|ZL rv rfl eI e rfl<|Zv (de (v:=rv) rfl ((Below.ow hB hrv)).sl dF)<|ZZ rfl<|cy ?_
 refine cY (σ:=(Nat)) [3,4,6,7,15,29] (λk0=>[(15, .int .i64 (k0:Int))]) (λk0 W=>(Below w.heap.size w W)∧(At W u _ 203)∧(At W g _ 203)∧(k0≤L.length)∧(True)) (λk0=>L.length-k0) (0) ⟨rfl,trivial⟩ ⟨hB,e,d,(my _),trivial⟩ ?_
 rintro k0 V X ⟨hB,e,d,hk,_⟩ Y C
 refine Zr<|Zv (dq rfl rfl)<|ct<|Zq<|ZQ rfl (λD=> ?_) λD=> ?_
 refine cx<|Zq<|cy<|Zr<|Zv (dm (v:=rv) rfl ((Below.ow hB hrv)).sl rfl dF Om Om)<|Zv (cD (v:=(vs.getD k0 undef)) rfl fp (dp.cell ((Below.ow hB hrv)).sl fX undef Om Om 0 rfl)) ?_
 have l:dp dT 1 w ((vs.getD k0 undef)) (L.getD k0 []):=hll.get k0 (by omega)
 refine Zw (vs.getD k0 undef) rfl<|ct<|Zr<|Zw (vs.getD k0 undef) rfl<|Zv (de (v:=(vs.getD k0 undef)) rfl (Below.slT hB l) cV)<|Zv (dJ rfl rfl)<|ct<|ZQ rfl (λt=> ?_) λt=> ?_
 refine Zr<|Zw (vs.getD k0 undef) rfl<|Zv (dm (j:=0) (v:=(vs.getD k0 undef)) rfl (Below.slT hB l) rfl cV Om Om)<|Zv (cD (v:= .int .i64 _) rfl cR (dp.cell (j:=0) (Below.slT hB l) ez 0 Om Om 0 rfl))<|Zy (cK wL rfl λm Z E F f=> ?_)
 have G:=ZO E hB
 obtain⟨hB,e,d⟩:=F.k3 hB e d
 refine Zy (db (v:= .int .i64 _) rfl rfl cR rfl f Dd λaa o H=> ?_)
 replace hB:=Zg hB o G
 replace e:=At.grownAt e f o Dd
 replace d:=At.grownAt d f o Dd
 replace f:=H
 replace f:At _ _ #[_] _:=f
 refine ct<|Zd (λa b=>a.grownBy b (some g)) λI J=> ?_
 obtain⟨hB,e,d,f⟩:=J.k4 hB e d f
 have K:=d
 have hS:=World.grownBy.refl I (some g)
 refine Tk 0 rfl (λ_ hq=>cz rfl da rfl (At.grownNe e z hq)) hS<|Tk 1 rfl (λ_ _=>eS (vs:= #[.pointer (some ⟨m,0,none⟩)]) AO) hS<|Tk 3 rfl (λ_ hq=>cD (v:= .int .i64 _) rfl cR (At.cell (At.grownAt f K hq Dd) rfl)) hS<|To 2 rfl (TC (vs:=[.agg #[_,_], .func (.func 231) #[] #[.pointer (some ⟨m,0,none⟩)]]) CT (o6 n _ vs L 231 m (λk=> !decide (((L.getD k0 []).getD 0 0)∈L.getD k [])) _ (cH.mono (Below.ow hB hrv) (my _)) (LO.mono (LO.below hB hLO) (my _)) hLb St (λk2 xr W h2 hB2 M=>xv _ _ _ _ _ _ (On hB2 f) M (by have:=fL hr k2;omega))) rfl λab ac p N=>⟨.inl (cB hS (dC.grown p (some g))),?_⟩)
 have O:=(Below.size hB)
 obtain⟨hB,d⟩:=p.k2 hB d
 replace hS:=cB hS (dC.grown p (some g))
 obtain⟨rv8_2,rfl,hk8_2⟩:=N
 replace hk8_2:=cH.mono hk8_2 O
 refine To 4 rfl (cA rfl rfl da rfl d rfl (by exact iI (cH.one hk8_2)) λad h P=>⟨.inl (cB hS h),?_⟩)
 replace hS:=cB hS h
 replace hB:=Zg hB h r
 replace hk8_2:=cH.grownAt hk8_2 d h Dd
 replace d:=P
 refine Ti 5 rfl rfl hS<|Ty 6 rfl rfl hS<|Td<|Zt<|jK rfl da d rfl (v1:= .int .i64 _) rfl (v2:= .bool true) rfl ⟨hB,?_⟩
 exact⟨_,_,_,_,_,rfl,cH.mono hk8_2 (my _),LO.below hB (adg hLO (λk=> !decide (((L.getD k0 []).getD 0 0)∈L.getD k [])) _ (am _)),aaJ (k:=k0) (by omega) t rfl⟩
 refine cx<|ZT rfl rfl rfl ?_
 exact C _ _ (k0+1) Za ⟨rfl,trivial⟩ ⟨hB,e,d,Om,trivial⟩ Zo
 refine cT<|Zr<|Zv (cz rfl da rfl e)<|Zy (cA rfl rfl da rfl d rfl (by exact iI (cH.one hrv)) λae Q R=> ?_)
 replace hB:=Zg hB Q r
 replace d:=R
 refine Zi rfl<|Zb rfl<|ct<|Zt<|jK rfl da d rfl (v1:= .int .i64 0) rfl (v2:= .bool false) rfl ⟨hB,?_⟩
 exact⟨_,_,_,_,_,rfl,Below.ow hB hrv,LO.below hB hLO,aaF L⟩
theorem AX (n:Int) (rv:Value) (vs:List Value) (L:ML) (w:World) (hrv:cH encV 1 35 w 0 rv vs) (hLO:LO 3 0 w vs L) (hr:dQ n L=true) (hLb:L.length≤1000000):
    Fn Tryz.prog 185 #[.agg #[.int .i64 n,rv]] w λv w'=>∃rv' vs' L' b,v= .tuple #[.agg #[.int .i64 n,rv'], .bool b]∧cH encV 1 35 w' 0 rv' vs'∧LO 3 0 w' vs' L'∧WZ L L' b:=by
 refine cM (n:=54) Tryz.func185 rfl rfl rfl λhB=> ?_
 have hll:=hLO.ll
 have hvl:=hll.len
 refine Zr<|Zy (dw (c:= #[_,_]) rfl rfl λp W3 aa y d=> ?_)
 replace hB:=Ze hB y
 refine Zy (cK gq rfl λq W6 z A a=> ?_)
 have g:=ZO z hB
 obtain⟨hB,d⟩:=A.k2 hB d
 refine Zb rfl<|ct<|Zq<|Zr<|Zv (cz rfl da rfl d)<|ZC (vs:=[.agg #[_,_]]) uX (kA n _ _ L _ ((Below.ow hB hrv)).sl (LO.mono (LO.below hB hLO) (my _)).ll hLb (λi=>go (fL hr i) Dd)) rfl λab ac B C=> ?_
 obtain⟨hB,d,a⟩:=B.k3 hB d a
 obtain rfl:=C
 refine Zv (eR rfl)<|ct<|ZQ rfl (λr=> ?_) λr=> ?_
 exact absurd (kZ r) (by rw[hr];decide)
 refine cx<|Zq<|Zr<|Zf rfl dS<|ZL rv rfl eI d rfl<|Zv (de (v:=rv) rfl ((Below.ow hB hrv)).sl dF)<|ZZ rfl<|cy ?_
 refine cY (σ:=(Nat)) [3,7,15,52] (λi=>[(15, .int .i64 (i:Int))]) (λi W=>(Below w.heap.size w W)∧(At W p _ 203)∧(At W q _ 203)∧(i≤L.length)∧(True)) (λi=>L.length-i) (0) ⟨rfl,trivial⟩ ⟨hB,d,a,(my _),trivial⟩ ?_
 rintro i ad ae ⟨hB,d,a,hi,_⟩ af D
 refine Zr<|Zv (dq rfl rfl)<|ct<|Zq<|ZQ rfl (λE=> ?_) λE=> ?_
 refine cx<|Zq<|cy<|Zr<|Zi rfl<|Zv (dm (v:=rv) rfl ((Below.ow hB hrv)).sl rfl dF Om Om)<|Zv (cD (v:=(vs.getD i undef)) rfl fp (dp.cell ((Below.ow hB hrv)).sl fX undef Om Om 0 rfl)) ?_
 have s:dp dT 1 w ((vs.getD i undef)) (L.getD i []):=hll.get i (by omega)
 refine Zy (cK wL rfl λf ag F G e=> ?_)
 have H:=ZO F hB
 obtain⟨hB,d,a⟩:=G.k3 hB d a
 refine Zy (db (v:= .int .i64 _) rfl rfl cR rfl e Dd λah h I=> ?_)
 replace hB:=Zg hB h H
 replace d:=At.grownAt d e h Dd
 replace a:=At.grownAt a e h Dd
 replace e:=I
 replace e:At _ _ #[_] _:=e
 refine Zw (vs.getD i undef) rfl<|ct<|Zr<|Zf rfl dS<|ZL rv rfl eI d rfl<|Zv (de (v:=rv) rfl ((Below.ow hB hrv)).sl dF)<|ZZ rfl<|cy ?_
 refine cY (σ:=(Nat)) [3,3,6,7,23,51] (λk=>[(23, .int .i64 (k:Int))]) (λk W=>(Below w.heap.size w W)∧(At W p _ 203)∧(At W q _ 203)∧(At W f _ 3)∧(k≤L.length)∧(True)) (λk=>L.length-k) (0) ⟨rfl,trivial⟩ ⟨hB,d,a,e,(my _),trivial⟩ ?_
 rintro k ai aj ⟨hB,d,a,e,hk,_⟩ ak j
 refine Zr<|Zv (dq rfl rfl)<|ct<|Zq<|ZQ rfl (λJ=> ?_) λJ=> ?_
 refine cx<|Zq<|cy<|Zr<|Zi rfl<|Zv (dm (v:=rv) rfl ((Below.ow hB hrv)).sl rfl dF Om Om)<|Zv (cD (v:=(vs.getD k undef)) rfl fp (dp.cell ((Below.ow hB hrv)).sl fX undef Om Om 0 rfl)) ?_
 have t:dp dT 1 w ((vs.getD k undef)) (L.getD k []):=hll.get k (by omega)
 refine Zi rfl<|Zw (vs.getD k undef) rfl<|ct<|Zr<|Zi rfl<|Zl rfl cR e rfl<|Zv (e7 rfl rfl)<|ZX rfl (λl=> ?_) λl=> ?_
 refine Zw (vs.getD k undef) rfl<|Zw (vs.getD i undef) rfl<|ZC J4 (qK _ _ _ _ _ (Below.slT hB t) (Below.slT hB s) (by have:=fL hr k;omega) (by have:=fL hr i;omega)) rfl λal ao K M=> ?_
 obtain⟨hB,d,a,e⟩:=K.k4 hB d a e
 obtain rfl:=M
 refine Zb rfl<|ZX rfl (λm=> ?_) λm=> ?_
 refine Zw (vs.getD k undef) rfl<|Zv (de (v:=(vs.getD k undef)) rfl (Below.slT hB t) cV)<|Zw (vs.getD i undef) rfl<|Zv (de (v:=(vs.getD i undef)) rfl (Below.slT hB s) cV)<|Zv (dq rfl rfl)<|ZX rfl (λN=> ?_) λN=> ?_
 refine Zs<|Zs<|Zs<|Zb rfl<|Zb rfl<|ct<|cQ rfl<|Zr<|Zv (cz rfl da rfl d)<|Zv (eS (vs:= #[.pointer (some ⟨f,0,none⟩)]) AO)<|ZC (vs:=[.agg #[_,_], .func (.func 234) #[] #[.pointer (some ⟨f,0,none⟩)]]) CT (o6 n _ vs L 234 f (λk=>decide (¬(k:Int)=(i:Int))) _ (cH.mono (Below.ow hB hrv) (my _)) (LO.mono (LO.below hB hLO) (my _)) hLb JL (λk2 xr W h2 hB2 O=>qO _ _ _ _ _ (On hB2 e))) rfl λP ap Q o=> ?_
 have R:=(Below.size hB)
 obtain⟨hB,a⟩:=Q.k2 hB a
 obtain⟨rv10_2,rfl,hk10_2⟩:=o
 replace hk10_2:=cH.mono hk10_2 R
 refine Zy (cA rfl rfl da rfl a rfl (by exact iI (cH.one hk10_2)) λaq u S=> ?_)
 replace hB:=Zg hB u g
 replace hk10_2:=cH.grownAt hk10_2 a u Dd
 replace a:=S
 refine Zb rfl<|ct<|Zt<|eh rfl da a rfl (v1:= .bool true) rfl ⟨hB,?_⟩
 exact⟨_,_,_,_,rfl,cH.mono hk10_2 (my _),LO.below hB (adg hLO (λk=>decide (¬(k:Int)=(i:Int))) _ (am _)),JF (i:=i) (k:=k) (by omega) (by omega) l m⟩
 refine Zi rfl<|Zl rfl cR e rfl<|Zv (dq rfl rfl)<|Zb rfl<|Zb rfl<|ct<|ZQ rfl (λT=> ?_) λT=> ?_
 refine Zr<|Zv (cz rfl da rfl d)<|Zv (eS (vs:= #[.pointer (some ⟨f,0,none⟩)]) AO)<|ZC (vs:=[.agg #[_,_], .func (.func 234) #[] #[.pointer (some ⟨f,0,none⟩)]]) CT (o6 n _ vs L 234 f (λk=>decide (¬(k:Int)=(i:Int))) _ (cH.mono (Below.ow hB hrv) (my _)) (LO.mono (LO.below hB hLO) (my _)) hLb JL (λk2 xr W h2 hB2 O=>qO _ _ _ _ _ (On hB2 e))) rfl λP ar U o=> ?_
 have V:=(Below.size hB)
 obtain⟨hB,a⟩:=U.k2 hB a
 obtain⟨rv10_2,rfl,hk10_2⟩:=o
 replace hk10_2:=cH.mono hk10_2 V
 refine Zy (cA rfl rfl da rfl a rfl (by exact iI (cH.one hk10_2)) λau x X=> ?_)
 replace hB:=Zg hB x g
 replace hk10_2:=cH.grownAt hk10_2 a x Dd
 replace a:=X
 refine Zb rfl<|ct<|Zt<|eh rfl da a rfl (v1:= .bool true) rfl ⟨hB,?_⟩
 exact⟨_,_,_,_,rfl,cH.mono hk10_2 (my _),LO.below hB (adg hLO (λk=>decide (¬(k:Int)=(i:Int))) _ (am _)),JF (i:=i) (k:=k) (by omega) (by omega) l m⟩
 refine cx<|ZT rfl rfl rfl ?_
 exact j _ _ (k+1) Za ⟨rfl,trivial⟩ ⟨hB,d,a,e,Om,trivial⟩ Zo
 refine Zs<|Zs<|Zs<|Zs<|Zs<|Zs<|Zs<|Zs<|Zs<|Zs<|Zb rfl<|ct<|dH rfl<|cx ?_
 refine ZT rfl rfl rfl ?_
 exact j _ _ (k+1) Za ⟨rfl,trivial⟩ ⟨hB,d,a,e,Om,trivial⟩ Zo
 refine Zs<|Zs<|Zs<|Zb rfl<|Zb rfl<|Zs<|Zs<|Zs<|Zs<|Zs<|Zs<|Zs<|Zs<|Zs ?_
 refine Zs<|Zb rfl<|ct<|dH rfl<|cx<|ZT rfl rfl rfl ?_
 exact j _ _ (k+1) Za ⟨rfl,trivial⟩ ⟨hB,d,a,e,Om,trivial⟩ Zo
 refine cT<|ZT rfl rfl rfl ?_
 exact D _ _ (i+1) Za ⟨rfl,trivial⟩ ⟨hB,d,a,Om,trivial⟩ Zo
 refine cT<|Zr<|Zv (cz rfl da rfl d)<|Zy (cA rfl rfl da rfl a rfl (by exact iI (cH.one hrv)) λav Y Z=> ?_)
 replace hB:=Zg hB Y g
 replace a:=Z
 refine Zb rfl<|ct<|Zt<|eh rfl da a rfl (v1:= .bool false) rfl ⟨hB,?_⟩
 exact⟨_,_,_,_,rfl,Below.ow hB hrv,LO.below hB hLO,Xy L⟩
end
section
open Go Go.RowKit
theorem mK:m3 Tryz.prog 295=some (3,35):=by kernel_rfl
theorem g6:qJ Tryz.prog 3 (λv=>∃a:Int,v=eM a):=by
  refine pz Tryz.underlying3 ?_ ?_ ?_ ?_
  · rintro w _ _ ⟨a,rfl⟩ ⟨c,rfl⟩
    refine⟨a==c,?_,by simp[eM]⟩
    simp[Op.equal,eM]
    exact run_equalIn_int w 9999 3 .i64 .i64 a c Tryz.underlying3
  · rintro _ _ ⟨a,rfl⟩ ⟨c,rfl⟩
    exact .inr ⟨a==c,by simp[Instr.sameNow,eM],by simp[eM]⟩
  · rintro w em _ ⟨a,rfl⟩
    have h2:∀k,(Instr.checkKey em (k+1) 3 (eM a)).run Tryz.prog w= .ok () w:=λk=>by
      simp[eM,Instr.checkKey,run_underlying Tryz.underlying3]
    exact h2 9999
  · rintro _ ⟨a,rfl⟩
    simp[eM,Instr.sameBits]
theorem tX:dW Tryz.prog 35=some (.slice none 0 0):=by kernel_rfl
set_option maxHeartbeats 2000000 in
theorem wA (n:Int) (rv:Value) (vs:List Value) (L:ML) (w:World) (hrv:cH encV 1 35 w 0 rv vs) (hLO:LO 3 0 w vs L) (hr:dQ n L=true) (hLb:L.length≤1000000):
    Fn Tryz.prog 187 #[.agg #[.int .i64 n,rv]] w λv w'=>∃rv' vs' L' b,v= .tuple #[.agg #[.int .i64 n,rv'], .bool b]∧cH encV 1 35 w' 0 rv' vs'∧LO 3 0 w' vs' L'∧WZ L L' b:=by
 refine cM (n:=135) Tryz.func187 rfl rfl rfl λhB=> ?_
 have hll:=hLO.ll
 have hvl:=hll.len
 refine Zr<|Zy (dw (c:= #[_,_]) rfl rfl λo W3 a0 aj d=> ?_)
 replace hB:=Ze hB aj
 refine Zy (cK gq rfl λp W6 ak al f=> ?_)
 have U:=ZO ak hB
 obtain⟨hB,d⟩:=al.k2 hB d
 refine Zb rfl<|ct<|Zq<|Zr<|Zv (cz rfl da rfl d)<|ZC (vs:=[.agg #[_,_]]) uX (kA n _ _ L _ ((Below.ow hB hrv)).sl (LO.mono (LO.below hB hLO) (my _)).ll hLb (λi=>go (fL hr i) Dd)) rfl λa1 a2 ao ap=> ?_
 obtain⟨hB,d,f⟩:=ao.k3 hB d f
 obtain rfl:=ap
 refine Zv (eR rfl)<|ct<|ZQ rfl (λV=> ?_) λV=> ?_
 exact absurd (kZ V) (by rw[hr];decide)
 refine cx<|Zr<|Zy (g7 (enc:=eM) (encV:=id) λm a3 aq ar au=> ?_)
 have av:=ZO aq hB
 obtain⟨hB,d,f⟩:=ar.k3 hB d f
 refine Zw (.map (some m)) rfl<|ct<|Zq<|Zr<|Zf rfl dS<|ZL rv rfl eI d rfl<|Zv (de (v:=rv) rfl ((Below.ow hB hrv)).sl dF)<|ZZ rfl<|cy ?_
 refine cY (σ:=(Nat)×(List (Int×Value))) [5,6,8,8,26,46] (λ(i,l)=>[(26, .int .i64 (i:Int))]) (λsg W=>match sg with|(i,l)=>(Below w.heap.size w W)∧(At W o _ 203)∧(At W p _ 203)∧(dy eM id W m l)∧(MO 3 w.heap.size W l (py L i))∧(i≤L.length)∧(True)) (λ(i,l)=>L.length-i) ((0,[])) ⟨rfl,trivial⟩ ⟨hB,d,f,au,MO.nil,(my _),trivial⟩ ?_
 rintro⟨i,l⟩ a4 a5 ⟨hB,d,f,hmw,hmo,hi,_⟩ a6 aw
 refine Zr<|Zv (dq rfl rfl)<|ct<|Zq<|ZQ rfl (λax=> ?_) λax=> ?_
 refine cx<|Zq<|cy<|Zr<|Zi rfl<|Zv (dm (v:=rv) rfl ((Below.ow hB hrv)).sl rfl dF Om Om)<|Zv (cD (v:=(vs.getD i undef)) rfl fp (dp.cell ((Below.ow hB hrv)).sl fX undef Om Om 0 rfl)) ?_
 have D:dp dT 1 w ((vs.getD i undef)) (L.getD i []):=hll.get i (by omega)
 refine Zi rfl<|Zw (vs.getD i undef) rfl<|ct<|Zr<|Zw (vs.getD i undef) rfl<|Zv (de (v:=(vs.getD i undef)) rfl (Below.slT hB D) cV)<|ZZ rfl<|cy ?_
 refine cY (σ:=(Nat)×(List (Int×Value))) [8,8,33,45] (λ(j,l2)=>[(33, .int .i64 (j:Int))]) (λsg W=>match sg with|(j,l2)=>(Below w.heap.size w W)∧(At W o _ 203)∧(At W p _ 203)∧(dy eM id W m l2)∧(MO 3 w.heap.size W l2 (Uo (L.getD i []) i (py L i) j))∧(j≤(L.getD i []).length)∧(True)) (λ(j,l2)=>(L.getD i []).length-j) ((0,l)) ⟨rfl,trivial⟩ ⟨hB,d,f,hmw,hmo,(my _),trivial⟩ ?_
 rintro⟨j,l2⟩ a7 a8 ⟨hB,d,f,hmw2,hmo2,hj,_⟩ a9 ay
 refine Zr<|Zv (dq rfl rfl)<|ct<|Zq<|ZQ rfl (λaz=> ?_) λaz=> ?_
 refine cx<|Zq<|cy<|Zr<|Zv (dm (v:=(vs.getD i undef)) rfl (Below.slT hB D) rfl cV Om Om)<|Zv (cD (v:= .int .i64 _) rfl cR (dp.cell (Below.slT hB D) ez 0 Om Om 0 rfl))<|ZZ rfl ?_
 have hov:=MO.get hmo2 ((L.getD i []).getD j 0)
 have hwl1:=DD (r:=L.getD i []) (i:=i) (g:=py L i) (c:=((L.getD i []).getD j 0)) j
 have hwl2:=yo (c:=((L.getD i []).getD j 0)) (fL hr) i
 have hwl3:=fL hr i
 refine cI<|Zw (.map (some m)) rfl<|Zi rfl<|Zw (.map (some m)) rfl<|Zi rfl<|Zv (fR (enc:=eM) (encV:=id) (v0:= .slice none 0 0) (k:=((L.getD i []).getD j 0)) rfl rfl mK g6 (λa=>⟨a,rfl⟩) fU tX rfl hmw2)<|Zi rfl<|Zy (eC (u:= .int .i64 _) rfl cV eL rfl Dd Dd λaA ba bb E aB=> ?_)
 obtain⟨hB,d,f,hmw2⟩:=E.k4 hB d f hmw2
 replace hmo2:=MO.ext E hmo2
 replace hov:=E.ow hov
 refine Zy (jg (v:=(L3 l2 ((L.getD i []).getD j 0))) (v2:= .slice (some ⟨aA,0,none⟩) 1 1) rfl rfl cV eL Dd hov (eK aB rfl) rfl (mV hB) (by omega) (by omega) λX bc z F aC=> ?_)
 replace F:=cH.snoc (enc:=dT) (x:=(i:Int)) rfl rfl rfl rfl F
 replace hB:=ZG hB z hov
 replace d:=At.grownOw d hov z Dd
 replace f:=At.grownOw f hov z Dd
 replace hmw2:=dy.grownOw hmw2 hov z
 replace hmo2:=MO.app hmo2 z aC F
 refine gM (dd:=none) rfl rfl rfl (fK (enc:=eM) (encV:=id) (k:=((L.getD i []).getD j 0)) (v:=X) rfl rfl rfl mK g6 (λa=>⟨a,rfl⟩) fU hmw2 (λbd B aD=> ?_))
 replace hB:=Zg hB B av
 replace d:=At.grownMap d hmw2 B
 replace f:=At.grownMap f hmw2 B
 replace hmo2:=MO.grownMap hmo2 hmw2 B
 replace hmw2:=aD
 refine ct<|ZT rfl rfl rfl ?_
 exact ay _ _ ((j+1,iJ l2 ((L.getD i []).getD j 0) X)) Za ⟨rfl,trivial⟩ ⟨hB,d,f,(by exact hmw2),hmo2,Om,trivial⟩ (by show (L.getD i []).length-(j+1)<(L.getD i []).length-j;omega)
 refine cT<|ZT rfl rfl rfl ?_
 obtain rfl:j=(L.getD i []).length:=by omega
 exact aw _ _ ((i+1,l2)) Za ⟨rfl,trivial⟩ ⟨hB,d,f,(by exact hmw2),hmo2,Om,trivial⟩ (by show L.length-(i+1)<L.length-i;omega)
 refine cT<|Zq ?_
 obtain rfl:i=L.length:=by omega
 have hn0:=(fv.1 hr).1
 have hn4:=(fv.1 hr).2.1
 refine Zr<|Zf rfl iv<|Zl rfl cR d rfl<|ZZ rfl<|cy ?_
 refine cY (σ:=(Nat)) [3,3,9,9,11,12,14,15,17,17,49,133] (λcc=>[(49, .int .i64 (cc:Int))]) (λcc W=>(Below w.heap.size w W)∧(At W o _ 203)∧(At W p _ 203)∧(dy eM id W m _)∧(MO 3 w.heap.size W l (py L L.length))∧((cc:Int)≤n)∧(True)) (λcc=>n.toNat-cc) (0) ⟨rfl,trivial⟩ ⟨hB,d,f,hmw,hmo,Om,trivial⟩ ?_
 rintro cc bf bg ⟨hB,d,f,hmw,hmo,hcc,_⟩ bh Y
 refine Zr<|Zv (dq rfl rfl)<|ct<|Zq<|ZQ rfl (λaE=> ?_) λaE=> ?_
 refine cx<|Zq<|cy<|Zr<|Zi rfl<|ZZ rfl<|Zq ?_
 have hw16:=MO.get hmo (cc:Int)
 refine Zr<|Zw (.map (some m)) rfl<|Zi rfl<|Zv (fR (enc:=eM) (encV:=id) (v0:= .slice none 0 0) (k:=(cc:Int)) rfl rfl mK g6 (λa=>⟨a,rfl⟩) fU tX rfl hmw)<|Zv (de (v:=(L3 l (cc:Int))) rfl hw16.sl cV)<|Zv (dJ rfl rfl)<|ct<|ZQ rfl (λZ=> ?_) λZ=> ?_
 refine cT<|ZT rfl rfl rfl ?_
 exact Y _ _ (cc+1) Za ⟨rfl,trivial⟩ ⟨hB,d,f,hmw,hmo,Om,trivial⟩ Zo
 refine cx ?_
 have hlim:0≤(py L L.length (cc:Int)).getD (0:Int).toNat 0∧(py L L.length (cc:Int)).getD (0:Int).toNat 0<L.length∧(cc:Int)∈L.getD ((py L L.length (cc:Int)).getD (0:Int).toNat 0).toNat []:=IJ (q:=0) (by omega)
 have hl0:=fL hr ((py L L.length (cc:Int)).getD (0:Int).toNat 0).toNat
 refine Zd dC λaF G=> ?_
 obtain⟨hB,d,f,hmw⟩:=G.k4 hB d f hmw
 replace hmo:=MO.ext G hmo
 replace hw16:=G.ow hw16
 have hS:=dC.refl aF
 refine Tf 0 rfl rfl dS hS<|Tk 1 rfl (λ_ hq=>cD (v:=rv) rfl eI (At.cell (hq.at d) rfl)) hS<|Tw 2 (.map (some m)) rfl rfl hS<|Ti 3 rfl rfl hS<|Tk 4 rfl (λ_ hq=>fR (enc:=eM) (encV:=id) (v0:= .slice none 0 0) (k:=(cc:Int)) rfl rfl mK g6 (λa=>⟨a,rfl⟩) fU tX rfl (hq.mapT hmw)) hS<|Tk 5 rfl (λ_ hq=>dm (j:=0) (v:=(L3 l (cc:Int))) rfl ((hq.ow hw16)).sl rfl cV Om Om) hS<|Tk 6 rfl (λ_ hq=>cD (v:= .int .i64 _) rfl cR (dp.cell (j:=0) ((hq.ow hw16)).sl ez 0 Om Om 0 rfl)) hS<|Tk 7 rfl (λ_ hq=>dm (v:=rv) rfl ((hq.ow (Below.ow hB hrv))).sl rfl dF Om Om) hS<|Tk 8 rfl (λ_ hq=>cD (v:=(vs.getD ((py L L.length (cc:Int)).getD (0:Int).toNat 0).toNat undef)) rfl fp (dp.cell ((hq.ow (Below.ow hB hrv))).sl fX undef Om Om 0 rfl)) hS ?_
 have C:dp dT 1 w ((vs.getD ((py L L.length (cc:Int)).getD (0:Int).toNat 0).toNat undef)) (L.getD ((py L L.length (cc:Int)).getD (0:Int).toNat 0).toNat []):=hll.get _ (by omega)
 refine Tk 9 rfl (λ_ hq=>de (v:=(vs.getD ((py L L.length (cc:Int)).getD (0:Int).toNat 0).toNat undef)) rfl (hq.slT (Below.slT hB C)) cV) hS<|Ti 10 rfl rfl hS<|Td<|cy ?_
 refine cY (σ:=(Nat)) [3,3,11,12,14,15,17,17,67,132] (λq=>[(67, .int .i64 (q:Int))]) (λq W=>(Below w.heap.size w W)∧(At W o _ 203)∧(At W p _ 203)∧(dy eM id W m _)∧(MO 3 w.heap.size W l (py L L.length))∧(cH dT 1 3 W w.heap.size (L3 l (cc:Int)) _)∧(q≤(L.getD ((py L L.length (cc:Int)).getD (0:Int).toNat 0).toNat []).length)∧(True)) (λq=>(L.getD ((py L L.length (cc:Int)).getD (0:Int).toNat 0).toNat []).length-q) (0) ⟨rfl,trivial⟩ ⟨hB,d,f,hmw,hmo,hw16,(my _),trivial⟩ ?_
 rintro q bi bj ⟨hB,d,f,hmw,hmo,hw16,hq,_⟩ bk H
 refine Zr<|Zv (dq rfl rfl)<|ct<|Zq<|ZQ rfl (λaG=> ?_) λaG=> ?_
 refine cx<|Zq<|cy<|Zr<|Zv (dm (v:=(vs.getD ((py L L.length (cc:Int)).getD (0:Int).toNat 0).toNat undef)) rfl (Below.slT hB C) rfl cV Om Om)<|Zv (cD (v:= .int .i64 _) rfl cR (dp.cell (Below.slT hB C) ez 0 Om Om 0 rfl))<|ZZ rfl ?_
 refine qn (σ:=(Unit)) [71,99] (λu_=>[]) (λW=>(Below w.heap.size w W)∧(At W o _ 203)∧(At W p _ 203)∧(True)) ⟨hB,d,f,trivial⟩ (λu_ W=>(¬((L.getD ((py L L.length (cc:Int)).getD (0:Int).toNat 0).toNat []).getD q 0)=(cc:Int))∧(Cs (py L L.length (cc:Int)) (py L L.length ((L.getD ((py L L.length (cc:Int)).getD (0:Int).toNat 0).toNat []).getD q 0))=true)∧(True)) (λbl aa=> ?_) ?_
 have hw20:=MO.get hmo ((L.getD ((py L L.length (cc:Int)).getD (0:Int).toNat 0).toNat []).getD q 0)
 refine Zr<|Zi rfl<|Zi rfl<|Zv (dJ rfl rfl)<|ZX rfl (λI=> ?_) λI=> ?_
 refine Zs<|Zs<|Zs<|Zs<|Zs<|Zs<|Zs<|Zs<|Zb rfl<|Zb rfl<|Zs<|Zs<|Zs<|Zs ?_
 refine Zs<|Zs<|Zs<|Zs<|Zs<|Zs<|Zs<|Zs<|Zs<|Zs<|Zb rfl<|ct<|cQ rfl<|cT ?_
 refine ZT rfl rfl rfl ?_
 exact H _ _ (q+1) Za ⟨rfl,trivial⟩ ⟨hB,d,f,hmw,hmo,hw16,Om,trivial⟩ Zo
 refine Zw (.map (some m)) rfl<|Zi rfl<|Zv (fR (enc:=eM) (encV:=id) (v0:= .slice none 0 0) (k:=(cc:Int)) rfl rfl mK g6 (λa=>⟨a,rfl⟩) fU tX rfl hmw)<|Zw (.map (some m)) rfl<|Zi rfl<|Zv (fR (enc:=eM) (encV:=id) (v0:= .slice none 0 0) (k:=((L.getD ((py L L.length (cc:Int)).getD (0:Int).toNat 0).toNat []).getD q 0)) rfl rfl mK g6 (λa=>⟨a,rfl⟩) fU tX rfl hmw)<|ZC J4 (qK _ _ _ _ _ hw16.sl hw20.sl (by have:=yo (c:=(cc:Int)) (fL hr) L.length;omega) (by have:=yo (c:=((L.getD ((py L L.length (cc:Int)).getD (0:Int).toNat 0).toNat []).getD q 0)) (fL hr) L.length;omega)) rfl λbm bn J aH=> ?_
 obtain⟨hB,d,f,hmw⟩:=J.k4 hB d f hmw
 replace hmo:=MO.ext J hmo
 obtain⟨hw16,hw20⟩:=J.k2 hw16 hw20
 obtain rfl:=aH
 refine Zv (eR rfl)<|Zb rfl<|ZX rfl (λK=> ?_) λK=> ?_
 refine Zs<|Zs<|Zs<|Zs<|Zs<|Zs<|Zs<|Zs<|Zs<|Zs<|Zs<|Zs<|Zs<|Zs ?_
 refine Zb rfl<|ct<|cQ rfl<|cT<|ZT rfl rfl rfl ?_
 exact H _ _ (q+1) Za ⟨rfl,trivial⟩ ⟨hB,d,f,hmw,hmo,hw16,Om,trivial⟩ Zo
 refine Zw (.map (some m)) rfl<|Zi rfl<|Zv (fR (enc:=eM) (encV:=id) (v0:= .slice none 0 0) (k:=((L.getD ((py L L.length (cc:Int)).getD (0:Int).toNat 0).toNat []).getD q 0)) rfl rfl mK g6 (λa=>⟨a,rfl⟩) fU tX rfl hmw)<|Zv (de (v:=(L3 l ((L.getD ((py L L.length (cc:Int)).getD (0:Int).toNat 0).toNat []).getD q 0))) rfl hw20.sl cV)<|Zw (.map (some m)) rfl<|Zi rfl<|Zv (fR (enc:=eM) (encV:=id) (v0:= .slice none 0 0) (k:=(cc:Int)) rfl rfl mK g6 (λa=>⟨a,rfl⟩) fU tX rfl hmw)<|Zv (de (v:=(L3 l (cc:Int))) rfl hw16.sl cV)<|Zv (dJ rfl rfl)<|ZX rfl (λaI=> ?_) λaI=> ?_
 refine Zi rfl<|Zi rfl<|Zv (iG rfl rfl)<|Zb rfl<|Zb rfl<|ct<|ZQ rfl (λaJ=> ?_) λaJ=> ?_
 refine cT<|ZT rfl rfl rfl ?_
 exact H _ _ (q+1) Za ⟨rfl,trivial⟩ ⟨hB,d,f,hmw,hmo,hw16,Om,trivial⟩ Zo
 refine cx ?_
 refine aa _ _ (()) ?_ ?_ ?_ ?_
 · repeat (first|exact dD.mask _ _ _|exact dD.refl _ _|refine acx ?_ rfl _|refine aco ?_ _ rfl|refine acg rfl ?_)
 · exact trivial
 · exact⟨hB,d,f,trivial⟩
 · exact⟨I,(mN K),trivial⟩
 refine Zs<|Zs<|Zs<|Zb rfl<|Zb rfl<|ct<|dH rfl<|cx ?_
 refine aa _ _ (()) ?_ ?_ ?_ ?_
 · repeat (first|exact dD.mask _ _ _|exact dD.refl _ _|refine acx ?_ rfl _|refine aco ?_ _ rfl|refine acg rfl ?_)
 · exact trivial
 · exact⟨hB,d,f,trivial⟩
 · exact⟨I,(mN K),trivial⟩
 rintro u_ bo bp ⟨hB,d,f,_⟩ ⟨hdc,hwt,_⟩
 refine Zr<|Zf rfl iv<|Zl rfl cR d rfl<|Zv (ko (h0:=rfl) (k0:=rfl) (c0_0:= .int .i64 _))<|Zy (cK gq rfl λaK bq M aL h=> ?_)
 have ab:=ZO M hB
 have ac:=Zn M d.lt
 have ad:=Zn M f.lt
 obtain⟨hB,d,f⟩:=aL.k3 hB d f
 refine Zy (cA rfl rfl da rfl h rfl rfl λbr N aM=> ?_)
 replace hB:=Zg hB N ab
 replace d:=At.grownNe d ac N
 replace f:=At.grownNe f ad N
 replace h:=aM
 refine ct<|Zq<|Zr<|Zf rfl dS<|ZL rv rfl eI d rfl<|Zv (de (v:=rv) rfl ((Below.ow hB hrv)).sl dF)<|ZZ rfl<|cy ?_
 refine cY (σ:=(Nat)×(Value)×(List Value)) [14,15,17,17,106,130] (λ(k,v0,vn)=>[(106, .int .i64 (k:Int))]) (λsg W=>match sg with|(k,v0,vn)=>(Below w.heap.size w W)∧(At W o _ 203)∧(At W p _ 203)∧(At W aK #[.int .i64 n,v0] 203)∧(cH encV 1 35 W w.heap.size v0 (vn))∧(LO 3 w.heap.size W vn (qD (L.take k) (cc:Int)))∧(k≤L.length)∧(True)) (λ(k,v0,vn)=>L.length-k) ((0, .slice none 0 0,[])) ⟨rfl,trivial⟩ ⟨hB,d,f,h,cH.nil,LO.nil,(my _),trivial⟩ ?_
 rintro⟨k,v0,vn⟩ bs A ⟨hB,d,f,h,ho,hlo,hk,_⟩ bt aN
 refine Zr<|Zv (dq rfl rfl)<|ct<|Zq<|ZQ rfl (λaO=> ?_) λaO=> ?_
 refine cx<|Zq<|cy<|Zr<|Zv (dm (v:=rv) rfl ((Below.ow hB hrv)).sl rfl dF Om Om)<|Zv (cD (v:=(vs.getD k undef)) rfl fp (dp.cell ((Below.ow hB hrv)).sl fX undef Om Om 0 rfl)) ?_
 have aP:dp dT 1 w ((vs.getD k undef)) (L.getD k []):=hll.get k (by omega)
 refine Zw (vs.getD k undef) rfl<|ct ?_
 have bu:=Below.ow hB hrv
 have bv:=LO.below hB hLO
 have bw:=Below.slT hB C
 have O:=Below.slT hB aP
 have ae:=hB
 replace hB:=Below.refl A.heap.size A
 refine Zr<|Zw (.slice none 0 0) rfl<|ct<|Zq<|Zr<|Zw (vs.getD k undef) rfl<|Zv (de (v:=(vs.getD k undef)) rfl (Below.slT hB O) cV)<|ZZ rfl<|cy ?_
 refine cY (σ:=(Nat)×(Value)) [15,15,17,17,112,123] (λ(j,v1)=>[(112, .int .i64 (j:Int)),(15,v1)]) (λsg W=>match sg with|(j,v1)=>(Below A.heap.size A W)∧(cH dT 1 3 W A.heap.size v1 (Br ((L.getD k []).take j) (cc:Int)))∧(j≤(L.getD k []).length)∧(True)) (λ(j,v1)=>(L.getD k []).length-j) ((0, .slice none 0 0)) ⟨rfl,rfl,trivial⟩ ⟨hB,cH.nil,(my _),trivial⟩ ?_
 rintro⟨j,v1⟩ bx bz ⟨hB,hrst,hj,_⟩ bA af
 refine Zr<|Zv (dq rfl rfl)<|ct<|Zq<|ZQ rfl (λaQ=> ?_) λaQ=> ?_
 refine cx<|Zq<|cy ?_
 have hrl:=IR (L.getD k []) (cc:Int) j
 have hr4:=fL hr k
 refine Zr<|Zv (dm (v:=(vs.getD k undef)) rfl (Below.slT hB O) rfl cV Om Om)<|Zv (cD (v:= .int .i64 _) rfl cR (dp.cell (Below.slT hB O) ez 0 Om Om 0 rfl))<|ZZ rfl<|Zr<|Zi rfl<|Zi rfl<|Zv (e7 rfl rfl)<|ct<|ZQ rfl (λP=> ?_) λP=> ?_
 refine cI<|Zw v1 rfl<|Zi rfl<|Zy (eC (u:= .int .i64 _) rfl cV eL rfl Dd Dd λaR bB bC aS aT=> ?_)
 obtain⟨hB,hrst⟩:=aS.k2 hB hrst
 refine Zy (dR (v:=v1) (v2:= .slice (some ⟨aR,0,none⟩) 1 1) rfl rfl cV eL Dd hrst (eK aT rfl) rfl (mV hB) (by omega) (by omega) λag bD aU Q=> ?_)
 replace Q:=cH.snoc (enc:=dT) (x:=_) rfl rfl rfl rfl Q
 replace hB:=ZG hB aU hrst
 refine Zw ag rfl<|ct<|ZT rfl rfl rfl ?_
 exact af _ _ ((j+1,ag)) Za ⟨rfl,rfl,trivial⟩ ⟨hB,(by (rw[←TR (k:=j) Om P];exact Q)),Om,trivial⟩ (by show (L.getD k []).length-(j+1)<(L.getD k []).length-j;omega)
 refine cx<|ZT rfl rfl rfl ?_
 exact af _ _ ((j+1,v1)) Za ⟨rfl,rfl,trivial⟩ ⟨hB,(by (rw[←Ui (k:=j) Om (aaN P)];exact hrst)),Om,trivial⟩ (by show (L.getD k []).length-(j+1)<(L.getD k []).length-j;omega)
 refine cT ?_
 replace d:=On hB d
 replace f:=On hB f
 replace h:=On hB h
 replace ho:=Below.ow hB ho
 replace hlo:=LO.below hB hlo
 have hzs:=go (am _) (Below.size ae)
 replace hrst:=cH.mono hrst hzs
 replace hB:=Below.trans ae (Below.mono hB hzs)
 obtain rfl:j=(L.getD k []).length:=by omega
 rw[aa7]at hrst
 have hcl:=IE L (cc:Int) k
 have hvn:=hlo.len
 refine cI<|Zf rfl dS<|ZL v0 rfl eI h rfl<|Zw v1 rfl<|Zy (eC (u:=v1) rfl dF jJ (by rw[dp.cells hrst.sl];rfl) Dd Dd λR bE S aV ah=> ?_)
 have bF:=ZO S hB
 have bG:=abE (b:=R) (Below.ow hB hrv) (aa1 S.symm)
 have bH:=abE (b:=R) ho (aa1 S.symm)
 obtain⟨d,f,h,ho,hlo,hB,hrst⟩:=aV.k7 d f h ho hlo hB hrst
 rw[dp.cells hrst.sl]at ah
 refine Zy (dR (v:=v0) (v2:= .slice (some ⟨R,0,none⟩) 1 1) rfl rfl dF jJ Dd ho (eK ah rfl) (by exact TM (cH.one hrst)) (mV hB) (by omega) (by omega) λai bI s t=> ?_)
 replace t:=cH.snoc (enc:=encV) (x:=v1) rfl rfl rfl rfl t
 replace d:=At.grownOw d ho s Dd
 replace f:=At.grownOw f ho s Dd
 replace h:=At.grownOw h ho s Dd
 replace hlo:=LO.grownOw hlo ho s Dd
 replace hB:=ZG hB s ho
 replace hrst:=cH.grownOw hrst ho s Dd
 refine Zf rfl dS<|Zy (db (v:=ai) rfl rfl eI (dp.one t.sl) h fD λbJ y aW=> ?_)
 replace d:=At.grownNe d ac y
 replace f:=At.grownNe f ad y
 replace hlo:=LO.grownAt hlo h y Dd
 replace hB:=Zg hB y ab
 replace hrst:=cH.grownAt hrst h y Dd
 replace t:=cH.grownAt t h y Dd
 replace h:=aW
 replace h:At _ _ #[_,_] _:=h
 refine ct<|ZT rfl rfl rfl ?_
 exact aN _ _ ((k+1,ai,vn++[v1])) Za ⟨rfl,trivial⟩ ⟨hB,d,f,(by exact h),(by exact t),(by rw[←F9 Om];exact LO.snoc hlo hrst),Om,trivial⟩ (by show L.length-(k+1)<L.length-k;omega)
 refine cT<|Zr<|Zv (cz rfl da rfl h)<|Zy (cA rfl rfl da rfl f rfl (by exact iI (cH.one ho)) λbK T aX=> ?_)
 replace hB:=Zg hB T U
 replace ho:=cH.grownAt ho f T Dd
 replace hlo:=LO.grownAt hlo f T Dd
 replace f:=aX
 refine Zb rfl<|ct<|Zt<|eh rfl da f rfl (v1:= .bool true) rfl ⟨hB,?_⟩
 exact⟨_,_,_,_,rfl,cH.mono ho (my _),LO.mono hlo (my _),(by rw[IB (by omega)];exact QH (i:=0) (λe=>Z (by rw[e];rfl)) hdc hwt)⟩
 refine cT<|ZT rfl rfl rfl ?_
 exact Y _ _ (cc+1) Za ⟨rfl,trivial⟩ ⟨hB,d,f,hmw,hmo,Om,trivial⟩ Zo
 refine cT<|Zr<|Zv (cz rfl da rfl d)<|Zy (cA rfl rfl da rfl f rfl (by exact iI (cH.one hrv)) λbL aY aZ=> ?_)
 replace hB:=Zg hB aY U
 replace f:=aZ
 refine Zb rfl<|ct<|Zt<|eh rfl da f rfl (v1:= .bool false) rfl ⟨hB,?_⟩
 exact⟨_,_,_,_,rfl,Below.ow hB hrv,LO.below hB hLO,Xy L⟩
end
section
open Go Go.RowKit
theorem S6:cX Tryz.prog 183=true:=by kernel_rfl
theorem zr:eJ Tryz.prog 210=true:=by kernel_rfl
theorem mP:m3 Tryz.prog 210=some (3,4):=by kernel_rfl
theorem SS:cX Tryz.prog 185=true:=by kernel_rfl
theorem Ry:cX Tryz.prog 187=true:=by kernel_rfl
theorem Sa:dW Tryz.prog 210=some (.map none):=by kernel_rfl
theorem zd:fl Tryz.prog 250=some (26,1,8):=by kernel_rfl
theorem Qz:(dW Tryz.prog 26).map (λz=>z.cells.size)=some 1:=by kernel_rfl
theorem RE:eJ Tryz.prog 26=true:=by kernel_rfl
theorem QA:cX Tryz.prog 182=true:=by kernel_rfl
theorem RA:cX Tryz.prog 184=true:=by kernel_rfl
theorem Qv:cX Tryz.prog 186=true:=by kernel_rfl
theorem uN (N bm bt bk b3:Nat) (n:Int) (xs rv:Value) (fs vs:List Value) (L0 L:ML) (ks:List Int) (w:World) (hN0:N≤w.heap.size) (hm:At w bm #[.int .i64 n,rv] 203) (hrv:cH encV 1 35 w 0 rv vs) (hLO:LO 3 0 w vs L) (hr:dQ n L=true) (hLb:L.length≤1000000) (hrd:mW L0 L ks) (h3:At w b3 #[.int .i64 0, .slice none 0 0] 203) (hbt:At w bt #[.map (some bk)] 210) (hst:cH encV 1 26 w N xs fs) (hks:dy eM Value.bool w bk (fz ks)) (lom:N≤bm) (lok:N≤bk) (hne:b3≠bm):
    lc Tryz.prog 182 #[.pointer (some ⟨bm,0,none⟩), .pointer (some ⟨bt,0,none⟩)] w λv w'=>Below N w w'∧At w' b3 #[.int .i64 0, .slice none 0 0] 203∧At w' bt #[.map (some bk)] 210∧cH encV 1 26 w' N xs fs∧∃rv' vs' L' ks' b,v= .bool b∧At w' bm #[.int .i64 n,rv'] 203∧cH encV 1 35 w' 0 rv' vs'∧LO 3 0 w' vs' L'∧dy eM Value.bool w' bk (fz ks')∧TK L0 L' L ks' n b:=by
 refine dK (n:=17) (N:=N) Tryz.func182 rfl rfl rfl λhB=> ?_
 refine Zr<|Zb rfl<|ct<|Zr<|Zv (cz rfl da rfl hm)<|ZC (vs:=[.agg #[_,_]]) S6 (AM n rv vs L _ hrv hLO hr hLb) rfl λy W5 m o=> ?_
 obtain⟨hm,h3,hbt,hst,hks⟩:=m.k5 hm h3 hbt hst hks
 replace hB:=cW hB m hN0
 obtain⟨rv1_1,z,L1_1,c1_1,c,rfl,hk1_1,hLO1_1,htp1_1⟩:=o
 refine Zw (.tuple #[.agg #[.int .i64 _,rv1_1], .int .i64 c1_1, .bool c]) rfl<|Zv (gR rfl)<|Zv (jm rfl)<|Zv (iQ rfl)<|Zy (cK gq rfl λp W8 h i d=> ?_)
 have q:N≤p:=h▸(go hN0 (Below.size hB))
 have r:=Zn h hm.lt
 have s:=Zn h h3.lt
 obtain⟨hm,h3,hbt,hst,hks⟩:=i.k5 hm h3 hbt hst hks
 replace hB:=cW hB i hN0
 obtain⟨hk1_1,hLO1_1⟩:=i.k2 hk1_1 hLO1_1
 refine Zy (cA rfl rfl da rfl d rfl (by exact iI (cH.one hk1_1)) λA e t=> ?_)
 replace hm:=At.grownNe hm r e
 replace h3:=At.grownNe h3 s e
 replace hbt:=At.grownAt hbt d e Dd
 replace hst:=cH.grownAt hst d e Dd
 replace hks:=dy.grownAt hks d e
 replace hB:=dg hB e hN0 (λj hj=>by cases hj;exact q)
 replace hk1_1:=cH.grownAt hk1_1 d e Dd
 replace hLO1_1:=LO.grownAt hLO1_1 d e Dd
 replace d:=t
 refine Zw (.int .i64 c1_1) rfl<|Zw (.bool c) rfl<|ct<|Zq<|Zr<|Zv (cz rfl da rfl d)<|Zy (cA rfl rfl da rfl hm rfl (by exact iI (cH.one hk1_1)) λB f u=> ?_)
 replace h3:=At.grownNe h3 hne f
 replace hbt:=At.grownAt hbt hm f Dd
 replace hst:=cH.grownAt hst hm f Dd
 replace hks:=dy.grownAt hks hm f
 replace hB:=dg hB f hN0 (λj hj=>by cases hj;exact lom)
 replace hk1_1:=cH.grownAt hk1_1 hm f Dd
 replace hLO1_1:=LO.grownAt hLO1_1 hm f Dd
 replace hm:=u
 refine ct<|Zr<|Zw (.bool c) rfl<|ct<|ZQ rfl (λl=> ?_) λl=> ?_
 refine cI<|ZL (.map (some bk)) rfl zr hbt rfl<|Zw (.int .i64 c1_1) rfl ?_
 refine gM (dd:=none) rfl rfl rfl (fK (enc:=eM) (encV:=Value.bool) (k:=c1_1) (v:=true) rfl rfl rfl mP g6 (λa=>⟨a,rfl⟩) fU hks (λC g x=> ?_))
 replace hm:=At.grownMap hm hks g
 replace h3:=At.grownMap h3 hks g
 replace hbt:=At.grownMap hbt hks g
 replace hst:=cH.grownMap hst hks g
 replace hB:=dg hB g hN0 (λj hj=>by cases hj;exact lok)
 replace hk1_1:=cH.grownMap hk1_1 hks g
 replace hLO1_1:=LO.grownMap hLO1_1 hks g
 replace hks:=x
 rw[jX]at hks
 refine ct<|Zr<|Zw (.bool c) rfl<|Zw (.bool c) rfl<|ct<|Zt<|df (v:= .bool c) rfl ?_
 subst l
 exact⟨hB,h3,hbt,hst,_,_,_,_,_,rfl,hm,hk1_1,hLO1_1,hks,Mg hrd hr htp1_1⟩
 refine cx<|Zr<|Zw (.bool c) rfl<|Zw (.bool c) rfl<|ct<|Zt<|df (v:= .bool c) rfl ?_
 subst l
 exact⟨hB,h3,hbt,hst,_,_,_,_,_,rfl,hm,hk1_1,hLO1_1,hks,Kw hrd hr htp1_1⟩
theorem vN (N bm bt bk b3:Nat) (n:Int) (xs rv:Value) (fs vs:List Value) (L0 L:ML) (ks:List Int) (w:World) (hN0:N≤w.heap.size) (hm:At w bm #[.int .i64 n,rv] 203) (hrv:cH encV 1 35 w 0 rv vs) (hLO:LO 3 0 w vs L) (hr:dQ n L=true) (hLb:L.length≤1000000) (hrd:mW L0 L ks) (h3:At w b3 #[.int .i64 0, .slice none 0 0] 203) (hbt:At w bt #[.map (some bk)] 210) (hst:cH encV 1 26 w N xs fs) (hks:dy eM Value.bool w bk (fz ks)) (lom:N≤bm) (lok:N≤bk) (hne:b3≠bm):
    lc Tryz.prog 184 #[.pointer (some ⟨bm,0,none⟩)] w λv w'=>Below N w w'∧At w' b3 #[.int .i64 0, .slice none 0 0] 203∧At w' bt #[.map (some bk)] 210∧cH encV 1 26 w' N xs fs∧∃rv' vs' L' ks' b,v= .bool b∧At w' bm #[.int .i64 n,rv'] 203∧cH encV 1 35 w' 0 rv' vs'∧LO 3 0 w' vs' L'∧dy eM Value.bool w' bk (fz ks')∧TK L0 L' L ks' n b:=by
 refine dK (n:=11) (N:=N) Tryz.func184 rfl rfl rfl λhB=> ?_
 refine Zr<|Zb rfl<|ct<|Zr<|Zv (cz rfl da rfl hm)<|ZC (vs:=[.agg #[_,_]]) SS (AX n rv vs L _ hrv hLO hr hLb) rfl λr W5 h i=> ?_
 obtain⟨hm,h3,hbt,hst,hks⟩:=h.k5 hm h3 hbt hst hks
 replace hB:=cW hB h hN0
 obtain⟨rv1_1,s,L1_1,e,rfl,hk1_1,hLO1_1,htp1_1⟩:=i
 refine Zw (.tuple #[.agg #[.int .i64 _,rv1_1], .bool e]) rfl<|Zv (cZ rfl)<|Zv (c7 rfl)<|Zy (cK gq rfl λk W8 f g a=> ?_)
 have l:N≤k:=f▸(go hN0 (Below.size hB))
 have m:=Zn f hm.lt
 have o:=Zn f h3.lt
 obtain⟨hm,h3,hbt,hst,hks⟩:=g.k5 hm h3 hbt hst hks
 replace hB:=cW hB g hN0
 obtain⟨hk1_1,hLO1_1⟩:=g.k2 hk1_1 hLO1_1
 refine Zy (cA rfl rfl da rfl a rfl (by exact iI (cH.one hk1_1)) λt c p=> ?_)
 replace hm:=At.grownNe hm m c
 replace h3:=At.grownNe h3 o c
 replace hbt:=At.grownAt hbt a c Dd
 replace hst:=cH.grownAt hst a c Dd
 replace hks:=dy.grownAt hks a c
 replace hB:=dg hB c hN0 (λj hj=>by cases hj;exact l)
 replace hk1_1:=cH.grownAt hk1_1 a c Dd
 replace hLO1_1:=LO.grownAt hLO1_1 a c Dd
 replace a:=p
 refine Zw (.bool e) rfl<|ct<|Zr<|Zv (cz rfl da rfl a)<|Zy (cA rfl rfl da rfl hm rfl (by exact iI (cH.one hk1_1)) λu d q=> ?_)
 replace h3:=At.grownNe h3 hne d
 replace hbt:=At.grownAt hbt hm d Dd
 replace hst:=cH.grownAt hst hm d Dd
 replace hks:=dy.grownAt hks hm d
 replace hB:=dg hB d hN0 (λj hj=>by cases hj;exact lom)
 replace hk1_1:=cH.grownAt hk1_1 hm d Dd
 replace hLO1_1:=LO.grownAt hLO1_1 hm d Dd
 replace hm:=q
 refine ct<|Zr<|Zw (.bool e) rfl<|Zw (.bool e) rfl<|ct<|Zt<|df (v:= .bool e) rfl ?_
 exact⟨hB,h3,hbt,hst,_,_,_,_,_,rfl,hm,hk1_1,hLO1_1,hks,Pp hrd hr htp1_1⟩
theorem vf (N bm bt bk b3:Nat) (n:Int) (xs rv:Value) (fs vs:List Value) (L0 L:ML) (ks:List Int) (w:World) (hN0:N≤w.heap.size) (hm:At w bm #[.int .i64 n,rv] 203) (hrv:cH encV 1 35 w 0 rv vs) (hLO:LO 3 0 w vs L) (hr:dQ n L=true) (hLb:L.length≤1000000) (hrd:mW L0 L ks) (h3:At w b3 #[.int .i64 0, .slice none 0 0] 203) (hbt:At w bt #[.map (some bk)] 210) (hst:cH encV 1 26 w N xs fs) (hks:dy eM Value.bool w bk (fz ks)) (lom:N≤bm) (lok:N≤bk) (hne:b3≠bm):
    lc Tryz.prog 186 #[.pointer (some ⟨bm,0,none⟩)] w λv w'=>Below N w w'∧At w' b3 #[.int .i64 0, .slice none 0 0] 203∧At w' bt #[.map (some bk)] 210∧cH encV 1 26 w' N xs fs∧∃rv' vs' L' ks' b,v= .bool b∧At w' bm #[.int .i64 n,rv'] 203∧cH encV 1 35 w' 0 rv' vs'∧LO 3 0 w' vs' L'∧dy eM Value.bool w' bk (fz ks')∧TK L0 L' L ks' n b:=by
 refine dK (n:=11) (N:=N) Tryz.func186 rfl rfl rfl λhB=> ?_
 refine Zr<|Zb rfl<|ct<|Zr<|Zv (cz rfl da rfl hm)<|ZC (vs:=[.agg #[_,_]]) Ry (wA n rv vs L _ hrv hLO hr hLb) rfl λr W5 h i=> ?_
 obtain⟨hm,h3,hbt,hst,hks⟩:=h.k5 hm h3 hbt hst hks
 replace hB:=cW hB h hN0
 obtain⟨rv1_1,s,L1_1,e,rfl,hk1_1,hLO1_1,htp1_1⟩:=i
 refine Zw (.tuple #[.agg #[.int .i64 _,rv1_1], .bool e]) rfl<|Zv (cZ rfl)<|Zv (c7 rfl)<|Zy (cK gq rfl λk W8 f g a=> ?_)
 have l:N≤k:=f▸(go hN0 (Below.size hB))
 have m:=Zn f hm.lt
 have o:=Zn f h3.lt
 obtain⟨hm,h3,hbt,hst,hks⟩:=g.k5 hm h3 hbt hst hks
 replace hB:=cW hB g hN0
 obtain⟨hk1_1,hLO1_1⟩:=g.k2 hk1_1 hLO1_1
 refine Zy (cA rfl rfl da rfl a rfl (by exact iI (cH.one hk1_1)) λt c p=> ?_)
 replace hm:=At.grownNe hm m c
 replace h3:=At.grownNe h3 o c
 replace hbt:=At.grownAt hbt a c Dd
 replace hst:=cH.grownAt hst a c Dd
 replace hks:=dy.grownAt hks a c
 replace hB:=dg hB c hN0 (λj hj=>by cases hj;exact l)
 replace hk1_1:=cH.grownAt hk1_1 a c Dd
 replace hLO1_1:=LO.grownAt hLO1_1 a c Dd
 replace a:=p
 refine Zw (.bool e) rfl<|ct<|Zr<|Zv (cz rfl da rfl a)<|Zy (cA rfl rfl da rfl hm rfl (by exact iI (cH.one hk1_1)) λu d q=> ?_)
 replace h3:=At.grownNe h3 hne d
 replace hbt:=At.grownAt hbt hm d Dd
 replace hst:=cH.grownAt hst hm d Dd
 replace hks:=dy.grownAt hks hm d
 replace hB:=dg hB d hN0 (λj hj=>by cases hj;exact lom)
 replace hk1_1:=cH.grownAt hk1_1 hm d Dd
 replace hLO1_1:=LO.grownAt hLO1_1 hm d Dd
 replace hm:=q
 refine ct<|Zr<|Zw (.bool e) rfl<|Zw (.bool e) rfl<|ct<|Zt<|df (v:= .bool e) rfl ?_
 exact⟨hB,h3,hbt,hst,_,_,_,_,_,rfl,hm,hk1_1,hLO1_1,hks,Pp hrd hr htp1_1⟩
theorem UR (i:Nat) (N bm bt bk b3:Nat) (n:Int) (xs rv:Value) (fs vs:List Value) (L0 L:ML) (ks:List Int) (w:World) (hN0:N≤w.heap.size) (hm:At w bm #[.int .i64 n,rv] 203) (hrv:cH encV 1 35 w 0 rv vs) (hLO:LO 3 0 w vs L) (hr:dQ n L=true) (hLb:L.length≤1000000) (hrd:mW L0 L ks) (h3:At w b3 #[.int .i64 0, .slice none 0 0] 203) (hbt:At w bt #[.map (some bk)] 210) (hst:cH encV 1 26 w N xs fs) (hks:dy eM Value.bool w bk (fz ks)) (lom:N≤bm) (lok:N≤bk) (hne:b3≠bm) (hi:i<3):
    lc Tryz.prog (Z0 182 184 186 i) (ZM bm bt i) w λv w'=>Below N w w'∧At w' b3 #[.int .i64 0, .slice none 0 0] 203∧At w' bt #[.map (some bk)] 210∧cH encV 1 26 w' N xs fs∧∃rv' vs' L' ks' b,v= .bool b∧At w' bm #[.int .i64 n,rv'] 203∧cH encV 1 35 w' 0 rv' vs'∧LO 3 0 w' vs' L'∧dy eM Value.bool w' bk (fz ks')∧TK L0 L' L ks' n b:=by
  match i,hi with
  |0,_=>exact uN N bm bt bk b3 n xs rv fs vs L0 L ks w hN0 hm hrv hLO hr hLb hrd h3 hbt hst hks lom lok hne
  |1,_=>exact vN N bm bt bk b3 n xs rv fs vs L0 L ks w hN0 hm hrv hLO hr hLb hrd h3 hbt hst hks lom lok hne
  |2,_=>exact vf N bm bt bk b3 n xs rv fs vs L0 L ks w hN0 hm hrv hLO hr hLb hrd h3 hbt hst hks lom lok hne
theorem qR (n:Int) (rv:Value) (vs:List Value) (L:ML) (w:World) (hrv:cH encV 1 35 w 0 rv vs) (hLO:LO 3 0 w vs L) (hr:dQ n L=true) (hLb:L.length≤1000000):
    Fn Tryz.prog 147 #[.agg #[.int .i64 n,rv]] w λv w'=>∃tv T rv' vs' L',v= .tuple #[tv, .agg #[.int .i64 n,rv'], .int .i64 0]∧cH dT 1 3 w' w.heap.size tv T∧cH encV 1 35 w' 0 rv' vs'∧LO 3 0 w' vs' L'∧mW L L' T∧dQ n L'=true∧L'.length≤L.length∧T.length≤n.toNat:=by
 refine cM (n:=44) Tryz.func147 rfl rfl rfl λhB=> ?_
 have hll:=hLO.ll
 have hvl:=hll.len
 refine Zr<|Zy (dw (c:= #[_,_]) rfl rfl λg W3 N O d=> ?_)
 have P:=ZO N hB
 replace hB:=Ze hB O
 refine Zw (.slice none 0 0) rfl<|Zy (cK gq rfl λy W6 D Q e=> ?_)
 have R:=ZO D hB
 have E:=Zn D d.lt
 obtain⟨hB,d⟩:=Q.k2 hB d
 refine ZZ rfl<|Fy<|Zq<|Zr<|Zv (cz rfl da rfl d)<|ZC (vs:=[.agg #[_,_]]) uX (kA n _ _ L _ ((Below.ow hB hrv)).sl (LO.mono (LO.below hB hLO) (my _)).ll hLb (λi=>go (fL hr i) Dd)) rfl λaz aA S U=> ?_
 obtain⟨hB,d,e⟩:=S.k3 hB d e
 obtain rfl:=U
 refine Zv (eR rfl)<|ct<|ZQ rfl (λF=> ?_) λF=> ?_
 exact absurd (kZ F) (by rw[hr];decide)
 refine cx<|Zr<|Zy (g7 (enc:=eM) (encV:=Value.bool) λz aB V X l=> ?_)
 have Y:=ZO V hB
 obtain⟨hB,d,e⟩:=X.k3 hB d e
 replace l:dy eM Value.bool _ _ (fz []):=l
 refine Zy (cK Sa rfl λj aC Z aa f=> ?_)
 have ab:=ZO Z hB
 obtain⟨hB,d,e,l⟩:=aa.k4 hB d e l
 refine Zy (db (v:= .map (some z)) rfl rfl zr rfl f K1 λaD A ac=> ?_)
 replace hB:=Zg hB A ab
 replace d:=At.grownAt d f A Dd
 replace e:=At.grownAt e f A Dd
 replace l:=dy.grownAt l f A
 replace f:=ac
 replace f:At _ _ #[_] _:=f
 refine ct<|Zr<|Zw (.slice none 0 0) rfl<|ct<|Zr<|Zv (eS (vs:= #[.pointer (some ⟨g,0,none⟩), .pointer (some ⟨j,0,none⟩)]) AO)<|Zv (eS (vs:= #[.pointer (some ⟨g,0,none⟩)]) AO)<|Zv (eS (vs:= #[.pointer (some ⟨g,0,none⟩)]) AO)<|Zy (VJ (u0:= .func (.func 182) #[] #[.pointer (some ⟨g,0,none⟩), .pointer (some ⟨j,0,none⟩)]) (u1:= .func (.func 184) #[] #[.pointer (some ⟨g,0,none⟩)]) (u2:= .func (.func 186) #[] #[.pointer (some ⟨g,0,none⟩)]) rfl rfl rfl zd Qz rfl rfl rfl λm aE ad ae af=> ?_)
 have ag:=ZO ad hB
 obtain⟨hB,d,e,l,f⟩:=ae.k5 hB d e l f
 have h:=PX af ag
 replace h:cH encV 1 _ _ _ _ (WX g j 182 184 186):=h
 refine Zw (.slice (some ⟨m,0,none⟩) 3 3) rfl<|ct<|Zq<|Ec<|Zq<|cy ?_
 refine cY (σ:=(Value)×(List Value)×(ML)×(List Int)) [9,9,20,28] (λ(rv1,o,L1,ks)=>[]) (λsg W=>match sg with|(rv1,o,L1,ks)=>(Below w.heap.size w W)∧(At W y _ 203)∧(At W j _ 210)∧(cH encV 1 26 W w.heap.size (.slice (some ⟨m,0,none⟩) 3 3) _)∧(At W g #[.int .i64 n,rv1] 203)∧(cH encV 1 35 W 0 rv1 o)∧(LO 3 0 W o (L1))∧(dy eM Value.bool W z (fz ks))∧(mW L L1 ks)∧(dQ n L1=true)∧(L1.length≤L.length)∧(True)) (λ(rv1,o,L1,ks)=>tu L1) ((rv,vs,L,[])) trivial ⟨hB,e,f,h,d,(cH.mono (Below.ow hB hrv) (am _)),(LO.below hB hLO),l,(adA L),hr,(am _),trivial⟩ ?_
 rintro⟨rv1,o,L1,ks⟩ aF aG ⟨hB,e,f,h,d,hrw,hlo,hmk,hrd,hr1,hl1,_⟩ aH ah
 refine cy<|Zq<|Zr<|Zw (.slice (some ⟨m,0,none⟩) 3 3) rfl<|Zv (de (v:= .slice (some ⟨m,0,none⟩) 3 3) rfl h.sl zd)<|ZZ rfl<|cy ?_
 refine cY (σ:=(Nat)×(Value)×(List Value)×(ML)×(List Int)) [9,9,22,28] (λ(i,rv2,s,L2,ks2)=>[(22, .int .i64 (i:Int))]) (λsg W=>match sg with|(i,rv2,s,L2,ks2)=>(Below w.heap.size w W)∧(At W y _ 203)∧(At W j _ 210)∧(cH encV 1 26 W w.heap.size (.slice (some ⟨m,0,none⟩) 3 3) _)∧(At W g #[.int .i64 n,rv2] 203)∧(cH encV 1 35 W 0 rv2 s)∧(LO 3 0 W s (L2))∧(dy eM Value.bool W z (fz ks2))∧(i≤3)∧(mW L L2 ks2)∧(dQ n L2=true)∧(L2.length≤L.length)∧(tu L2≤tu L1)∧(True)) (λ(i,rv2,s,L2,ks2)=>3-i) ((0,rv1,o,L1,ks)) ⟨rfl,trivial⟩ ⟨hB,e,f,h,d,hrw,hlo,hmk,(my _),hrd,hr1,hl1,(am _),trivial⟩ ?_
 rintro⟨i,rv2,s,L2,ks2⟩ aI t ⟨hB,e,f,h,d,hrw2,hlo2,hmk,hi,hrd2,hr2,hl2,G,_⟩ aJ ai
 have hcl:(WX g j 182 184 186).length=3:=rfl
 refine Zr<|Zv (dq rfl rfl)<|ct<|Zq<|ZQ rfl (λaj=> ?_) λaj=> ?_
 refine cx<|Zq<|cy<|Zr<|Zv (dm (v:= .slice (some ⟨m,0,none⟩) 3 3) rfl h.sl rfl zd Om Om)<|Zv (cD (v:=((WX g j 182 184 186).getD i undef)) rfl RE (dp.cell h.sl fX undef Om Om 0 rfl))<|Zw ((WX g j 182 184 186).getD i undef) rfl<|ct<|Zr<|Zw ((WX g j 182 184 186).getD i undef) rfl ?_
 refine mQ (dd:=some 27) rfl rfl rfl (ip (q:=Z0 182 184 186 i) (first:= #[]) (cap:=ZM g j i) (vs:=ZM g j i) (RX Om) (clB QA RA Qv) fD) (UR i _ _ _ _ _ n _ _ _ _ L L2 ks2 _ (Below.size hB) d hrw2 hlo2 hr2 Om hrd2 e f h hmk P Y E.symm Om) (λaK aL ak=> ?_)
 obtain⟨hBt9_1,h39_1,ht9_1,al,rv9_1,H,L9_1,ks9_1,aM,rfl,ao,hk9_1,hLO9_1,hq9_1,hS9_1⟩:=ak
 replace hB:=Below.trans hB hBt9_1
 replace d:=ao
 replace e:=h39_1
 replace f:=ht9_1
 replace h:=al
 replace hmk:=hq9_1
 refine ct<|ZQ rfl (λI=> ?_) λI=> ?_
 refine cT ?_
 refine ah _ _ ((rv9_1,H,L9_1,ks9_1)) ?_ ?_ ?_ ?_
 · repeat (first|exact dD.mask _ _ _|refine acx ?_ rfl _|refine aco ?_ _ rfl|refine acg rfl ?_)
 · exact trivial
 · exact⟨hB,e,f,h,(by exact d),hk9_1,hLO9_1,(by exact hmk),(hS9_1.rd),(hS9_1.r),(go hS9_1.len hl2),trivial⟩
 · exact abe (hS9_1.szt I) G
 refine cx<|ZT rfl rfl rfl ?_
 exact ai _ _ ((i+1,rv9_1,H,L9_1,ks9_1)) Za ⟨rfl,trivial⟩ ⟨hB,e,f,h,(by exact d),hk9_1,hLO9_1,(by exact hmk),Om,hS9_1.rd,hS9_1.r,(go hS9_1.len hl2),(go hS9_1.sz G),trivial⟩ Zo
 refine cT<|cT<|Zq ?_
 have aN:=Below.ow hB hrv
 have aO:=LO.below hB hLO
 have J:=hB
 replace hB:=Below.refl t.heap.size t
 have hn0:=(fv.1 hr).1
 have hn4:=(fv.1 hr).2.1
 refine Zr<|Zf rfl iv<|Zl rfl cR (On hB d) rfl<|ZZ rfl<|cy ?_
 refine cY (σ:=(Nat)×(Value)) [6,6,10,10,31,41] (λ(cc,v0)=>[(31, .int .i64 (cc:Int)),(6,v0)]) (λsg W=>match sg with|(cc,v0)=>(Below t.heap.size t W)∧(cH dT 1 3 W t.heap.size v0 (lY ks2 cc))∧((cc:Int)≤n)∧(True)) (λ(cc,v0)=>n.toNat-cc) ((0, .slice none 0 0)) ⟨rfl,rfl,trivial⟩ ⟨hB,cH.nil,Om,trivial⟩ ?_
 rintro⟨cc,v0⟩ aP aQ ⟨hB,ho,hcc,_⟩ aR K
 refine Zr<|Zv (dq rfl rfl)<|ct<|Zq<|ZQ rfl (λap=> ?_) λap=> ?_
 refine cx<|Zq<|cy<|Zr<|Zi rfl<|ZZ rfl<|Zr<|ZL (.map (some z)) rfl zr (On hB f) rfl<|Zi rfl<|Zv (fR (enc:=eM) (encV:=Value.bool) (v0:=false) (k:=_) rfl rfl mP g6 (λa=>⟨a,rfl⟩) fU rz rfl (acl hB hmk))<|ct<|ZQ rfl (λB=> ?_) λB=> ?_
 refine cI<|Zw v0 rfl<|Zi rfl<|Zy (eC (u:= .int .i64 _) rfl cV eL rfl Dd Dd λaq aS aT ar au=> ?_)
 obtain⟨hB,ho⟩:=ar.k2 hB ho
 refine Zy (dR (v:=v0) (v2:= .slice (some ⟨aq,0,none⟩) 1 1) rfl rfl cV eL Dd ho (eK au rfl) rfl (mV hB) (by have:=mH ks2 cc;omega) (by have:=mH ks2 cc;omega) λM aU av C=> ?_)
 replace C:=cH.snoc (enc:=dT) (x:=_) rfl rfl rfl rfl C
 replace hB:=ZG hB av ho
 refine Zw M rfl<|ct<|ZT rfl rfl rfl ?_
 exact K _ _ ((cc+1,M)) Za ⟨rfl,rfl,trivial⟩ ⟨hB,(by (rw[nr,if_pos (vD B)];exact C)),Om,trivial⟩ (by show n.toNat-(cc+1)<n.toNat-cc;omega)
 refine cx<|ZT rfl rfl rfl ?_
 exact K _ _ ((cc+1,v0)) Za ⟨rfl,rfl,trivial⟩ ⟨hB,(by (rw[nr,if_neg (rh B)];exact ho)),Om,trivial⟩ (by show n.toNat-(cc+1)<n.toNat-cc;omega)
 refine cT ?_
 replace e:=On hB e
 replace d:=On hB d
 replace hrw2:=Below.ow hB hrw2
 replace hlo2:=LO.below hB hlo2
 have hzs:=go (am _) (Below.size J)
 replace ho:=cH.mono ho hzs
 replace hB:=Below.trans J (Below.mono hB hzs)
 obtain rfl:cc=n.toNat:=by omega
 refine Zd (λa b=>a.grownBy b (some y)) λaw ax=> ?_
 obtain⟨e,d,hrw2,hlo2,hB,ho⟩:=ax.k6 e d hrw2 hlo2 hB ho
 have hS:=World.grownBy.refl aw (some y)
 refine Tw 0 v0 rfl rfl hS<|Tk 1 rfl (λ_ hq=>cz rfl da rfl (At.grownNe d E hq)) hS<|Tw 2 v0 rfl rfl hS<|To 3 rfl (cA rfl rfl da rfl e rfl (by exact iI (cH.one hrw2)) λaV p ay=>⟨.inl (cB hS p),?_⟩)
 replace hS:=cB hS p
 replace hrw2:=cH.grownAt hrw2 e p Dd
 replace hlo2:=LO.grownAt hlo2 e p Dd
 replace hB:=Zg hB p R
 replace ho:=cH.grownAt ho e p Dd
 replace e:=ay
 refine Ti 4 rfl rfl hS<|Td<|Zt<|QW (v:=v0) rfl rfl da e rfl (v2:= .int .i64 0) rfl ⟨hB,?_⟩
 exact⟨_,_,_,_,_,rfl,ho,cH.mono hrw2 (my _),hlo2,mW.ris hr hrd2,hr2,hl2,mH _ _⟩
end
end Go.Proofs.YtedeonkjellcpaaGreatDoor
