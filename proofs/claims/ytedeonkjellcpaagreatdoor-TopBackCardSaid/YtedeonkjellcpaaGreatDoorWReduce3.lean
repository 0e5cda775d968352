/- The walks of package cover. The walks of package reduce. The walk of a column left out. The walk of the making smaller, step after step. -/
import Derived.Test.YtedeonkjellcpaaGreatDoorMin
namespace Go.Proofs.YtedeonkjellcpaaGreatDoor
set_option linter.unusedVariables false
set_option linter.unusedSimpArgs false
section
open Go Go.RowKit
theorem dO:dS Tryz.prog 203 1=some 1:=by kernel_rfl
theorem eB:eE Tryz.prog 201=true:=by kernel_rfl
theorem dF:fj Tryz.prog 201=some (35,1,24):=by kernel_rfl
theorem iv:dS Tryz.prog 203 0=some 0:=by kernel_rfl
theorem m3:eE Tryz.prog 83=true:=by kernel_rfl
theorem PB:cX Tryz.prog 178=true:=by kernel_rfl
theorem yG:eE Tryz.prog 218=true:=by kernel_rfl
theorem FU:mU Tryz.prog 218=some (9,4):=by kernel_rfl
theorem JK:qc Tryz.prog 9 (λv=>∃a:List UInt8,v=eM a):=by
  refine pd Tryz.underlying9 ?_ ?_ ?_ ?_
  · rintro w _ _ ⟨a,rfl⟩ ⟨c,rfl⟩
    refine⟨_,run_equalIn_string w 9999 9 _ _ Tryz.underlying9,by rw[beq_iff_eq,ByteArray.toList_eq];simp[eM]⟩
  · rintro _ _ ⟨a,rfl⟩ ⟨c,rfl⟩
    exact .inr ⟨_,rfl,by rw[E0];simp[eM]⟩
  · rintro w em _ ⟨a,rfl⟩
    have h2:∀k,(Instr.checkKey em (k+1) 9 (eM a)).run Tryz.prog w= .ok () w:=λk=>by
      simp[eM,Instr.checkKey,run_underlying Tryz.underlying9]
    exact h2 9999
  · rintro _ ⟨a,rfl⟩
    exact(E0 a a).2 rfl
theorem Sz:cX Tryz.prog 179=true:=by kernel_rfl
theorem jG:(dT Tryz.prog 35).map (λz=>z.cells.size)=some 1:=by kernel_rfl
theorem gq:dT Tryz.prog 203=some (.agg #[.int .i64 0, .slice none 0 0]):=by kernel_rfl
theorem y7:(Tryz.prog.info? 201).map (·.size)=some 1:=by kernel_rfl
theorem pK {f:Nat→Value} {w:World} {d:Option Nat} {ty:TypeId} {ps:String} {af:Array Edge} {g:Option (Nat×Bool)}:
    (execOp (dg f) ⟨d, .build 203 #[],ty,ps,af,g⟩).run Tryz.prog w= .ok (.value (.agg #[.int .i64 0, .slice none 0 0])) w:=by
  obtain⟨i0,hi0,hz0⟩:=Do.1 (show (Tryz.prog.info? 203).bind (·.zero)=_ from gq)
  obtain⟨j3,hj3,hs3⟩:=go.1 fH
  obtain⟨j201,hj201,hs201⟩:=go.1 y7
  simp[execOp,Instr.build,zeroValue,typeInfo,sizeOf,hi0,hz0,run_underlying Tryz.underlying203,Instr.fill,dX,hj3,hs3,hj201,hs201]
theorem cY:j8 Tryz.prog 203=some 2:=by kernel_rfl
theorem UV:dT Tryz.prog 57=some (.slice none 0 0):=by kernel_rfl
theorem kd {f:Nat→Value} {w:World} {d:Option Nat} {ty:TypeId} {ps:String} {af:Array Edge} {g:Option (Nat×Bool)} {x0:Operand} {c0_0:Value} (h0:dg f x0=c0_0) (k0:c0_0.cells= #[c0_0]):
    (execOp (dg f) ⟨d, .build 203 #[(0,x0)],ty,ps,af,g⟩).run Tryz.prog w= .ok (.value (.agg #[c0_0, .slice none 0 0])) w:=by
  obtain⟨i0,hi0,hz0⟩:=Do.1 (show (Tryz.prog.info? 203).bind (·.zero)=_ from gq)
  obtain⟨j3,hj3,hs3⟩:=go.1 fH
  obtain⟨j201,hj201,hs201⟩:=go.1 y7
  simp[execOp,h0,k0,Instr.build,zeroValue,typeInfo,sizeOf,hi0,hz0,run_underlying Tryz.underlying203,Instr.fill,dX,hj3,hs3,hj201,hs201]
theorem Q9:dT Tryz.prog 218=some (.map none):=by kernel_rfl
theorem PV:cX Tryz.prog 177=true:=by kernel_rfl
theorem kl (n:Int) (rv:Value) (vs:List Value) (L:List (List Int)) (w:World) (hrv:dh encV 1 w rv vs) (hll:LL w vs L) (hLb:L.length≤1000000) (hRb:∀i,(L.getD i []).length≤1000000):
    Fn Tryz.prog 181 #[.agg #[.int .i64 n,rv]] w λv w'=>v= .bool (dN n L):=by
 refine cH (n:=41) Tryz.func181 rfl rfl rfl λhB=> ?_
 have hvl:=hll.len
 refine Zr<|Zy (dt (c:= #[_,_]) rfl rfl λg W3 p h a=> ?_)
 replace hB:=Ze hB h
 refine Zb rfl<|ct<|Zq<|Zr<|Zf rfl dO<|ZL rv rfl eB a rfl<|Zv (cT (v:=rv) rfl (Below.slT hB hrv) dF)<|ZZ rfl<|cx ?_
 refine cS (σ:=(Nat)) [2,2,4,5,7,7,11,32] (λi=>[(11, .int .i64 (i:Int))]) (λi W=>(Below w.heap.size w W)∧(At W g _ 203)∧(i≤L.length)∧(∀q,q<i→oU n (L.getD q [])=true)∧(True)) (λi=>L.length-i) (0) ⟨rfl,trivial⟩ ⟨hB,a,(my _),ef,trivial⟩ ?_
 rintro i r s ⟨hB,a,hi,hq,_⟩ t j
 refine Zr<|Zv (dk rfl rfl)<|ct<|Zq<|ZQ rfl (λl=> ?_) λl=> ?_
 refine cu<|Zq<|cx<|Zr<|Zv (df (v:=rv) rfl (Below.slT hB hrv) rfl dF Om (by omega))<|Zv (cB (v:=(vs.getD i undef)) rfl dV (dh.cell (Below.slT hB hrv) fS undef Om (by omega) 0 rfl)) ?_
 have b:dh dJ 1 w ((vs.getD i undef)) (L.getD i []):=hll.get i (by omega)
 refine Zw (vs.getD i undef) rfl<|ct<|Zr<|ZZ rfl ?_
 have hRi:=hRb i
 refine Zr<|Zw (vs.getD i undef) rfl<|Zv (cT (v:=(vs.getD i undef)) rfl (Below.slT hB b) cM)<|ZZ rfl<|cx ?_
 refine cS (σ:=(Nat)) [2,2,5,5,7,7,17,31] (λk=>[(17, .int .i64 (k:Int)),(5, .int .i64 (yZ (L.getD i []) k))]) (λk W=>(Below w.heap.size w W)∧(At W g _ 203)∧(k≤(L.getD i []).length)∧(∀q,q<k→0≤(L.getD i []).getD q 0∧(L.getD i []).getD q 0<n∧(0<q→(L.getD i []).getD (q-1) 0<(L.getD i []).getD q 0))∧(True)) (λk=>(L.getD i []).length-k) (0) ⟨rfl,rfl,trivial⟩ ⟨hB,a,(my _),ef,trivial⟩ ?_
 rintro k u x ⟨hB,a,hk,hq2,_⟩ y m
 refine Zr<|Zv (dk rfl rfl)<|ct<|Zq<|ZQ rfl (λo=> ?_) λo=> ?_
 refine cu<|Zq<|cx<|Zr<|Zv (df (v:=(vs.getD i undef)) rfl (Below.slT hB b) rfl cM Om (by omega))<|Zv (cB (v:= .int .i64 _) rfl cK (dh.cell (Below.slT hB b) dI 0 Om (by omega) 0 rfl))<|ZZ rfl<|Zq<|Zr<|Zi rfl<|Zi rfl<|Zv (Bd rfl rfl) ?_
 refine ZX rfl (λd=> ?_) λd=> ?_
 refine Zs<|Zs<|Zs<|Zs<|Zb rfl<|ct<|cF rfl<|Zr<|Zb rfl<|ct<|Zt<|cV (v:= .bool false) rfl ⟨hB,?_⟩
 exact TO (i:=i) (k:=k) Om Om (λq hq=>(hq2 q hq).1) (.inl d)
 refine Zi rfl<|Zf rfl iv<|Zl rfl cK a rfl<|Zv (mT rfl rfl)<|Zb rfl<|ct<|ZQ rfl (λe=> ?_) λe=> ?_
 refine Zr<|Zb rfl<|ct<|Zt<|cV (v:= .bool false) rfl ⟨hB,?_⟩
 exact TO (i:=i) (k:=k) Om Om (λq hq=>(hq2 q hq).1) (.inr e)
 refine cu<|cN<|Zi rfl<|ZZ rfl<|ZT rfl rfl rfl ?_
 exact m _ _ (k+1) Za ⟨rfl,rfl,trivial⟩ ⟨hB,a,Om,(PY hq2 d e),trivial⟩ Zo
 refine cR<|ZT rfl rfl rfl ?_
 exact j _ _ (i+1) Za ⟨rfl,trivial⟩ ⟨hB,a,Om,(dG hq (jv.2 (λq hq=>hq2 q Om))),trivial⟩ Zo
 refine cR<|Zr<|Zf rfl iv<|Zl rfl cK a rfl<|Zv (mT rfl rfl)<|ZX rfl (λf=> ?_) λf=> ?_
 refine Zf rfl iv<|Zl rfl cK a rfl<|Zv (Bd rfl rfl)<|Zb rfl<|Zb rfl<|ct<|Zt<|cV (v:= .bool _) rfl ⟨hB,?_⟩
 obtain rfl:i=L.length:=by omega
 exact Zj f hq
 refine Zs<|Zs<|Zs<|Zb rfl<|Zb rfl<|ct<|Zt<|cV (v:= .bool false) rfl ⟨hB,?_⟩
 obtain rfl:i=L.length:=by omega
 exact Y2 f
theorem Af (xa xb:Value) (a b:List Int) (w:World) (ha:dh dJ 1 w xa a) (hb:dh dJ 1 w xb b) (hal:a.length≤1000000) (hbl:b.length≤1000000):
    Fn Tryz.prog 179 #[xa,xb] w λv w'=>v= .bool (fM a b):=by
 refine cH (n:=40) Tryz.func179 rfl rfl rfl λhB=> ?_
 refine Zr<|Zb rfl<|ct<|Zq<|Zr<|Zw xa rfl<|Zv (cT (v:=xa) rfl (Below.slT hB ha) cM)<|Zw xb rfl<|Zv (cT (v:=xb) rfl (Below.slT hB hb) cM)<|Zv (ep rfl rfl)<|ct<|ZQ rfl (λd=> ?_) λd=> ?_
 refine Zr<|Zw xa rfl<|Zv (cT (v:=xa) rfl (Below.slT hB ha) cM)<|Zw xb rfl<|Zv (cT (v:=xb) rfl (Below.slT hB hb) cM)<|Zv (dk rfl rfl)<|Zb rfl<|ct<|Zt<|cV (v:= .bool _) rfl ⟨hB,?_⟩
 exact Xg d
 refine cu<|Zq<|Zr<|Zw xa rfl<|Zv (cT (v:=xa) rfl (Below.slT hB ha) cM)<|ZZ rfl<|cx ?_
 refine cS (σ:=(Nat)) [4,5,18,39] (λk=>[(18, .int .i64 (k:Int))]) (λk W=>(Below w.heap.size w W)∧(k≤a.length)∧(∀q,q<k→a.getD q 0=b.getD q 0)∧(True)) (λk=>a.length-k) (0) ⟨rfl,trivial⟩ ⟨hB,(my _),ef,trivial⟩ ?_
 rintro k l m ⟨hB,hk,hq,_⟩ o e
 refine Zr<|Zv (dk rfl rfl)<|ct<|Zq<|ZQ rfl (λf=> ?_) λf=> ?_
 refine cu<|Zq<|cx<|Zr<|Zi rfl<|ZZ rfl<|Zd dz λg h=> ?_
 replace hB:=Ze hB h
 have hS:=dz.refl g
 refine Tw 0 xa rfl rfl hS<|Ti 1 rfl rfl hS<|Tk 2 rfl (λ_ hq=>df (v:=xa) rfl (hq.slT (Below.slT hB ha)) rfl cM Om (by omega)) hS<|Tk 3 rfl (λ_ hq=>cB (v:= .int .i64 _) rfl cK (dh.cell (hq.slT (Below.slT hB ha)) dI 0 Om (by omega) 0 rfl)) hS<|Tw 4 xb rfl rfl hS<|Ti 5 rfl rfl hS<|Tk 6 rfl (λ_ hq=>df (v:=xb) rfl (hq.slT (Below.slT hB hb)) rfl cM Om (by omega)) hS<|Tk 7 rfl (λ_ hq=>cB (v:= .int .i64 _) rfl cK (dh.cell (hq.slT (Below.slT hB hb)) dI 0 Om (by omega) 0 rfl)) hS<|Tk 8 rfl (λ_ _=>ep rfl rfl) hS<|Td<|ZQ rfl (λc=> ?_) λc=> ?_
 refine Zd dz λi j=> ?_
 replace hB:=Ze hB j
 have hS:=dz.refl i
 refine Tw 0 xa rfl rfl hS<|Ti 1 rfl rfl hS<|Tk 2 rfl (λ_ hq=>df (v:=xa) rfl (hq.slT (Below.slT hB ha)) rfl cM Om (by omega)) hS<|Tk 3 rfl (λ_ hq=>cB (v:= .int .i64 _) rfl cK (dh.cell (hq.slT (Below.slT hB ha)) dI 0 Om (by omega) 0 rfl)) hS<|Tw 4 xb rfl rfl hS<|Ti 5 rfl rfl hS<|Tk 6 rfl (λ_ hq=>df (v:=xb) rfl (hq.slT (Below.slT hB hb)) rfl cM Om (by omega)) hS<|Tk 7 rfl (λ_ hq=>cB (v:= .int .i64 _) rfl cK (dh.cell (hq.slT (Below.slT hB hb)) dI 0 Om (by omega) 0 rfl)) hS<|Tk 8 rfl (λ_ _=>dk rfl rfl) hS<|Ty 9 rfl rfl hS<|Td<|Zt<|cV (v:= .bool _) rfl ⟨hB,?_⟩
 exact WM (k:=k) Om Om hq c
 refine cu<|ZT rfl rfl rfl ?_
 exact e _ _ (k+1) Za ⟨rfl,trivial⟩ ⟨hB,Om,(dG hq (aaa c)),trivial⟩ Zo
 refine cR<|Zr<|Zb rfl<|ct<|Zt<|cV (v:= .bool false) rfl ⟨hB,?_⟩
 exact X0 (k:=k) Om Om hq
theorem Cv (xa:Value) (a:List Int) (w:World) (ha:dh dJ 1 w xa a) (hal:a.length≤4000) (hsm:∀x,x∈a→0≤x∧x<65536):
    Fn Tryz.prog 178 #[xa] w λv w'=>v=eM (kQ a):=by
 refine cH (n:=23) Tryz.func178 rfl rfl rfl λhB=> ?_
 refine Zr<|Zw (.string _) rfl<|ct<|Zr<|Zw (.slice none 0 0) rfl<|ct<|Zq<|Zr<|Zw xa rfl<|Zv (cT (v:=xa) rfl (Below.slT hB ha) cM)<|ZZ rfl<|cx ?_
 refine cS (σ:=(Nat)×(Value)) [3,3,5,5,8,20] (λ(k,v0)=>[(8, .int .i64 (k:Int)),(3,v0)]) (λsg W=>match sg with|(k,v0)=>(Below w.heap.size w W)∧(cD Ac 1 5 W w.heap.size v0 (rc (a.take k)))∧(k≤a.length)∧(True)) (λ(k,v0)=>a.length-k) ((0, .slice none 0 0)) ⟨rfl,rfl,trivial⟩ ⟨hB,cD.nil,(my _),trivial⟩ ?_
 rintro⟨k,v0⟩ p W9 ⟨hB,ho,hk,_⟩ q d
 refine Zr<|Zv (dk rfl rfl)<|ct<|Zq<|ZQ rfl (λe=> ?_) λe=> ?_
 refine cu<|Zq<|cx<|Zr<|Zv (df (v:=xa) rfl (Below.slT hB ha) rfl cM Om (by omega))<|Zv (cB (v:= .int .i64 _) rfl cK (dh.cell (Below.slT hB ha) dI 0 Om (by omega) 0 rfl))<|ZZ rfl ?_
 have f:=(hsm (a.getD k 0) (dy (by omega))).1
 have hwl:(rc (a.take k)).length≤8000:=by rw[J6,aal];omega
 refine cN<|Zw v0 rfl<|Zi rfl<|Zv (Ur rfl rfl f)<|Zv (N1 rfl Tryz.underlying3 Tryz.underlying5)<|Zi rfl<|Zv (N1 rfl Tryz.underlying3 Tryz.underlying5)<|Zy (Gg (u0:= .int .u8 _) (u1:= .int .u8 _) rfl rfl mh HQ rfl rfl Dd Dd λg r h i j=> ?_)
 have l:=ZO h hB
 have olt_ho:=abU ho
 obtain⟨hB,ho⟩:=i.k2 hB ho
 have m:=yH (enc:=Ac) (sz:=1) (a0:=_) (a1:=_) j rfl rfl rfl rfl l
 refine Zy (i6 (v:=v0) (v2:= .slice (some ⟨g,0,none⟩) 2 2) rfl rfl mh HQ Dd ho m.sl (B3) (n4 hB) iq iq λc s o b t=> ?_)
 replace b:=cD.app (enc:=Ac) rfl rfl rfl rfl b
 replace hB:=ZG hB o ho
 refine Zw c rfl<|ct<|ZT rfl rfl rfl ?_
 exact d _ _ ((k+1,c)) Za ⟨rfl,rfl,trivial⟩ ⟨hB,(by rw[←HR a k Om];exact b),Om,trivial⟩ (by show a.length-(k+1)<a.length-k;omega)
 refine cR ?_
 obtain rfl:k=a.length:=by omega
 rw[aan]at ho
 refine Zr<|Zw v0 rfl<|Zv (yO (v:=v0) rfl ho.sl Tryz.underlying177 Tryz.underlying5 Tryz.underlying9)<|Zw (eM _) rfl<|ct<|Zt<|cV (v:=eM _) rfl ⟨hB,?_⟩
 rfl
theorem Xv (N o:Nat) (p n:Int) (l:List Rw) (ks:List (List Int)) (bl bp bmet bm bq b4 bs:Nat) (xl xp rv xq s1 s2:Value) (vs:List Value) (lq:List Int) (w:World) (hN0:N≤w.heap.size) (ho:o<8) (hp:0≤p∧p.toNat<2^n.toNat) (hl4:l.length≤4000) (hlr:ix l) (hrr:∀k,k<l.length→dC (l.getD k ⟨⟨0,0⟩,0⟩).c.m (l.getD k ⟨⟨0,0⟩,0⟩).c.v n=true) (hnd:ks.Nodup) (hkr:∀x,x∈ks→qb l x) (hkl:ks.length≤2000) (hl:dh gv 3 w xl l) (hbl:At w bl #[xl] 83) (hbp:At w bp #[xp] 57) (hpo:cD fT 4 40 w N xp (vz l n l.length)) (hbm:At w bmet #[.map (some bq)] 218) (hq:du eM Value.bool w bq (fp ((ks).map kQ))) (d:At w b4 #[.int .i64 0, .slice none 0 0] 203) (hbs:At w bs #[.int .i64 n,s1,s2] 59) (hxq:cD dJ 1 3 w N xq lq) (hmm:At w bm #[.int .i64 (l.length:Int),rv] 203) (hrv:cD encV 1 35 w N rv vs) (hLO:LO 3 N w vs (iA ks)) (lom:N≤bm) (loq:N≤bq) (hne:b4≠bm):
    mS Tryz.prog 177 #[.int .i64 (o:Int), .int .i64 p, .pointer (some ⟨bl,0,none⟩), .pointer (some ⟨bp,0,none⟩), .pointer (some ⟨bmet,0,none⟩), .pointer (some ⟨bm,0,none⟩)] w λv w'=>Below N w w'∧At w' bl #[xl] 83∧At w' bp #[xp] 57∧cD fT 4 40 w' N xp (vz l n l.length)∧At w' bmet #[.map (some bq)] 218∧du eM Value.bool w' bq (fp ((ja ks (sA l o p.toNat)).map kQ))∧At w' b4 #[.int .i64 0, .slice none 0 0] 203∧At w' bs #[.int .i64 n,s1,s2] 59∧cD dJ 1 3 w' N xq lq∧∃rv' vs',At w' bm #[.int .i64 (l.length:Int),rv'] 203∧cD encV 1 35 w' N rv' vs'∧LO 3 N w' vs' (iA (ja ks (sA l o p.toNat))):=by
 refine d5 (n:=77) (N:=N) Tryz.func177 rfl rfl rfl λhB=> ?_
 have hpl:=FF (l:=l) (n:=n) (am _)
 have hkl2:=BP ks
 have hvl:=hLO.len
 have P:=hB
 replace hB:=Below.refl w.heap.size w
 refine Zr<|Zw (.slice none 0 0) rfl<|ct<|Zq<|Zr<|ZL xl rfl m3 (On hB hbl) rfl<|Zv (cT (v:=xl) rfl (Below.slT hB hl) dM)<|ZZ rfl<|cx ?_
 refine cS (σ:=(Nat)×(Value)) [8,10,15,38] (λ(k,v0)=>[(15, .int .i64 (k:Int)),(8,v0)]) (λsg W=>match sg with|(k,v0)=>(Below w.heap.size w W)∧(cD dJ 1 3 W w.heap.size v0 (jN l o p.toNat k))∧(k≤l.length)∧(True)) (λ(k,v0)=>l.length-k) ((0, .slice none 0 0)) ⟨rfl,rfl,trivial⟩ ⟨hB,cD.nil,(my _),trivial⟩ ?_
 rintro⟨k,v0⟩ g9 W8 ⟨hB,ho,hk,_⟩ aM S
 refine Zr<|Zv (dk rfl rfl)<|ct<|Zq<|ZQ rfl (λai=> ?_) λai=> ?_
 refine cu<|Zq<|cx<|Zr<|Zi rfl<|Zv (df (v:=xl) rfl (Below.slT hB hl) rfl dM Om (by omega))<|Zv (gH rfl dP (dh.cell (Below.slT hB hl) eh ⟨⟨0,0⟩,0⟩ Om (by omega) 0 rfl) (dh.cell (Below.slT hB hl) eh ⟨⟨0,0⟩,0⟩ Om (by omega) 1 rfl) (dh.cell (Below.slT hB hl) eh ⟨⟨0,0⟩,0⟩ Om (by omega) 2 rfl))<|Zy (cI jD rfl λaN aO aj ak Q=> ?_)
 have al:=ZO aj hB
 obtain⟨hB,ho⟩:=ak.k2 hB ho
 refine Zi rfl<|Zy (cz rfl rfl dP rfl Q rfl rfl λaP ag ao=> ?_)
 replace hB:=Zg hB ag al
 replace ho:=cD.grownAt ho Q ag Dd
 replace Q:=ao
 refine ct ?_
 obtain⟨aQ,aR,ap⟩:=hlr.get (k:=k) (by omega)
 refine Zr<|Zf rfl fy<|Zl rfl dK Q rfl<|Zi rfl<|Zv (qd rfl rfl Om (by simp only[IntKind.bits];omega))<|Zv (mZ (n:=1) rfl rfl rfl (by show (l.getD k ⟨⟨0,0⟩,0⟩).o/2^((o:Nat):Int).toNat<256;exact aaw (aaY _ _) ap) Dd)<|Zv (dW rfl rfl)<|ZX rfl (λR=> ?_) λR=> ?_
 refine ZL xp rfl ft (On hB hbp) rfl<|Zi rfl<|Zv (df (v:=xp) rfl ((Below.ow hB hpo)).sl rfl eN Om (by omega))<|Zv (fv rfl cA (dh.cell ((Below.ow hB hpo)).sl dE 0 Om (by omega) 0 rfl) (dh.cell ((Below.ow hB hpo)).sl dE 0 Om (by omega) 1 rfl) (dh.cell ((Below.ow hB hpo)).sl dE 0 Om (by omega) 2 rfl) (dh.cell ((Below.ow hB hpo)).sl dE 0 Om (by omega) 3 rfl))<|Zi rfl<|ZC (vs:=[.agg #[_,_,_,_], .int .i64 _]) GD (vR _ _ _) rfl λaS aT aq ar=> ?_
 obtain⟨hB,ho⟩:=aq.k2 hB ho
 obtain rfl:=ar
 refine Zb rfl<|ct<|ZQ rfl (λT=> ?_) λT=> ?_
 have hrl:=vN l o p.toNat k
 refine cN<|Zw v0 rfl<|Zi rfl<|Zy (eK (u:= .int .i64 _) rfl cM eQ rfl Dd Dd λau aU aV av aw=> ?_)
 obtain⟨hB,ho⟩:=av.k2 hB ho
 refine Zy (dZ (v:=v0) (v2:= .slice (some ⟨au,0,none⟩) 1 1) rfl rfl cM eQ Dd ho (eT aw rfl) rfl (n4 hB) (by omega) (by omega) λah aW ax U=> ?_)
 replace U:=cD.snoc (enc:=dJ) (x:=_) rfl rfl rfl rfl U
 replace hB:=ZG hB ax ho
 refine Zw ah rfl<|ct<|ZT rfl rfl rfl ?_
 exact S _ _ ((k+1,ah)) Za ⟨rfl,rfl,trivial⟩ ⟨hB,(by (rw[←Yf (k:=k) (o:=o) Om (hrr k Om) hp R T];exact U)),Om,trivial⟩ (by show l.length-(k+1)<l.length-k;omega)
 refine cu<|ZT rfl rfl rfl ?_
 exact S _ _ ((k+1,v0)) Za ⟨rfl,rfl,trivial⟩ ⟨hB,(by (rw[←V3 (k:=k) (o:=o) Om (hrr k Om) hp R T];exact ho)),Om,trivial⟩ (by show l.length-(k+1)<l.length-k;omega)
 refine Zs<|Zs<|Zs<|Zs<|Zs<|Zs<|Zb rfl<|ct<|dA rfl<|cu<|cN<|Zv (eP rfl rfl Om Om)<|Zi rfl ?_
 refine ct ?_
 exact S _ _ ((k+1,v0)) Za ⟨rfl,rfl,trivial⟩ ⟨hB,(by (rw[←VK (k:=k) (o:=o) R];exact ho)),Om,trivial⟩ (by show l.length-(k+1)<l.length-k;omega)
 refine cR ?_
 obtain rfl:k=l.length:=by omega
 have hro:qb l (sA l o p.toNat):=⟨o,p.toNat,rfl⟩
 have hrl:=vN l o p.toNat l.length
 refine Zr<|Zw v0 rfl<|ZC PB (Cv _ (jN l o p.toNat l.length) _ ho.sl Om (hro.small hl4)) rfl λaX aY ay az=> ?_
 obtain⟨hB,ho⟩:=ay.k2 hB ho
 obtain rfl:=az
 refine Zw (.string _) rfl<|ct<|Zq<|Zr<|ZL (.map (some bq)) rfl yG (On hB hbm) rfl<|Zw (.string _) rfl<|Zv (fV (enc:=eM) (encV:=Value.bool) (v0:=false) (k:=(kQ (sA l o p.toNat))) rfl rfl FU JK (λa=>⟨a,rfl⟩) DW qj rfl (abt hB hq))<|ct<|ZQ rfl (λV=> ?_) λV=> ?_
 refine lh ?_
 replace hbl:=On hB hbl
 replace hbp:=On hB hbp
 replace hpo:=Below.ow hB hpo
 replace hbm:=On hB hbm
 replace hq:=abt hB hq
 replace d:=On hB d
 replace hbs:=On hB hbs
 replace hxq:=Below.ow hB hxq
 replace hmm:=On hB hmm
 replace hrv:=Below.ow hB hrv
 replace hLO:=LO.below hB hLO
 have hzs:=an hN0 (Below.size P)
 replace hB:=Below.trans P (Below.mono hB hzs)
 repeat (first|refine eJ ?_|refine eg ?_)
 refine vt ?_
 have hin:sA l o p.toNat∈ks:=(ui hl4 hkr hro).1 (uf V)
 rw[J5 hin]
 exact⟨hB,hbl,hbp,hpo,hbm,hq,d,hbs,hxq,rv,vs,hmm,hrv,hLO⟩
 refine cu ?_
 replace hbl:=On hB hbl
 replace hbp:=On hB hbp
 replace hpo:=Below.ow hB hpo
 replace hbm:=On hB hbm
 replace hq:=abt hB hq
 replace d:=On hB d
 replace hbs:=On hB hbs
 replace hxq:=Below.ow hB hxq
 replace hmm:=On hB hmm
 replace hrv:=Below.ow hB hrv
 replace hLO:=LO.below hB hLO
 have hzs:=an hN0 (Below.size P)
 replace ho:=cD.mono ho hzs
 replace hB:=Below.trans P (Below.mono hB hzs)
 have hnr:sA l o p.toNat∉ks:=λh=>qR V ((ui hl4 hkr hro).2 h)
 refine Zr<|ZL (.map (some bq)) rfl yG hbm rfl<|Zw (.string _) rfl ?_
 refine gK (dd:=none) rfl rfl rfl (fJ (enc:=eM) (encV:=Value.bool) (k:=(kQ (sA l o p.toNat))) (v:=true) rfl rfl rfl FU JK (λa=>⟨a,rfl⟩) DW hq (λaZ B aA=> ?_))
 replace hbl:=At.grownMap hbl hq B
 replace hbp:=At.grownMap hbp hq B
 replace hpo:=cD.grownMap hpo hq B
 replace hbm:=At.grownMap hbm hq B
 replace d:=At.grownMap d hq B
 replace hbs:=At.grownMap hbs hq B
 replace hxq:=cD.grownMap hxq hq B
 replace hmm:=At.grownMap hmm hq B
 replace hrv:=cD.grownMap hrv hq B
 replace hLO:=LO.grownMap hLO hq B
 replace hB:=db hB B hN0 (λj hj=>by cases hj;exact loq)
 replace ho:=cD.grownMap ho hq B
 replace hq:=aA
 rw[jP,NB hl4 hkr hro]at hq
 refine ct<|Zr<|Zf rfl dO<|ZL rv rfl eB hmm rfl<|Zv (cT (v:=rv) rfl hrv.sl dF)<|ZZ rfl<|Zq<|cx ?_
 refine cS (σ:=(Nat)) [12,12,49,62] (λi=>[(12, .int .i64 (i:Int))]) (λi W=>(At W bl _ 83)∧(At W bp _ 57)∧(cD fT 4 40 W N xp _)∧(At W bmet _ 218)∧(du eM Value.bool W bq _)∧(At W b4 _ 203)∧(At W bs _ 59)∧(cD dJ 1 3 W N xq _)∧(At W bm _ 203)∧(cD encV 1 35 W N rv _)∧(LO 3 N W vs (iA ks))∧(Below N w W)∧(cD dJ 1 3 W N v0 _)∧(i≤(iA ks).length)∧(∀q,i≤q→q<(iA ks).length→fM (sA l o p.toNat) ((iA ks).getD q [])=true)∧(True)) (λi=>i) ((iA ks).length) ⟨congrArg (λq:Nat=>Value.int .i64 (q:Int)) hvl,trivial⟩ ⟨hbl,hbp,hpo,hbm,hq,d,hbs,hxq,hmm,hrv,hLO,hB,ho,(am _),(λq h1 h2=>by omega),trivial⟩ ?_
 rintro i a0 aB ⟨hbl,hbp,hpo,hbm,hq,d,hbs,hxq,hmm,hrv,hLO,hB,ho,hi,hq2,_⟩ a1 aC
 refine Zq ?_
 have hsl:=Pk hkr (i-1)
 refine Zr<|Zi rfl<|Zv (il rfl rfl)<|ZX rfl (λaD=> ?_) λaD=> ?_
 refine Zw v0 rfl<|Zf rfl dO<|ZL rv rfl eB hmm rfl<|Zi rfl<|Zv (ld rfl rfl Om Om)<|Zv (df (v:=rv) rfl hrv.sl rfl dF Om (by omega))<|Zv (cB (v:=(vs.getD ((i:Int)-1).toNat undef)) rfl dV (dh.cell hrv.sl fS undef Om (by omega) 0 rfl)) ?_
 have E:dh dJ 1 aB ((vs.getD ((i:Int)-1).toNat undef)) ((iA ks).getD (i-1) []):=(by rw[show ((i:Int)-1).toNat=i-1 by omega];exact(LO.ll hLO).get (i-1) (by omega))
 refine ZC Sz (Af _ _ _ _ _ ho.sl E (by omega) (by omega)) rfl λa2 a3 X aE=> ?_
 obtain⟨hbl,hbp,hpo,hbm,hq,d,hbs,hxq,hmm,hrv,hLO⟩:=X.k11 hbl hbp hpo hbm hq d hbs hxq hmm hrv hLO
 replace hB:=cW hB X hN0
 obtain⟨ho,E⟩:=X.k2 ho E
 obtain rfl:=aE
 refine Zb rfl<|ct<|ZQ rfl (λY=> ?_) λY=> ?_
 refine cu<|cx<|cN<|Zi rfl<|Zv (ld rfl rfl Om Om)<|ZZ rfl ?_
 exact aC _ _ (i-1) Za ⟨congrArg (Value.int .i64) (by omega:(i:Int)-1=((i-1:Nat):Int)),trivial⟩ ⟨hbl,hbp,hpo,hbm,hq,d,hbs,hxq,hmm,hrv,hLO,hB,ho,Om,(λq h1 h2=>if e:q=i-1 then by rw[e];exact Y else hq2 q Om h2),trivial⟩ Zo
 refine cR ?_
 have hput:=MM (i:=i) hnd hnr hi hq2 (λh0=>by exact Y)
 have hC:vs.length≤iZ rv:=(Sl.eqv hrv.sl).2.1
 have hone:=LO.one hLO
 refine fe dz fQ (λZ aa=> ?_)
 obtain⟨hbl,hbp,hpo,hbm,hq,d,hbs,hxq,hmm,hrv,hLO⟩:=aa.k11 hbl hbp hpo hbm hq d hbs hxq hmm hrv hLO
 replace hB:=cW hB aa hN0
 obtain⟨ho,E⟩:=aa.k2 ho E
 have hS:=dz.refl Z
 refine Tf 0 rfl rfl dO hS<|Tk 1 rfl (λ_ hq=>cB (v:=rv) rfl eB (At.cell (hq.at hmm) rfl)) hS<|Ti 2 rfl rfl hS<|Ti 3 rfl rfl hS<|Tk 4 rfl (λ_ hq=>nq (v:=rv) rfl ((hq.ow hrv)).sl dF rfl rfl Om Om Om) hS ?_
 have f:dh encV 1 Z (fP 1 rv 0 i i) ((vs.drop 0).take (i-0)):=ab2 fS hrv.sl (by omega) (by omega) (by omega) (by omega)
 refine Tw 5 v0 rfl rfl hS<|Tf 7 rfl rfl dO hS<|Tk 8 rfl (λ_ hq=>cB (v:=rv) rfl eB (At.cell (hq.at hmm) rfl)) hS<|Ti 9 rfl rfl hS<|Tk 10 rfl (λ_ hq=>nu (v:=rv) rfl ((hq.ow hrv)).sl dF rfl Om Om) hS ?_
 have g:dh encV 1 Z (fP 1 rv i vs.length (iZ rv)) ((vs.drop i).take (vs.length-i)):=ab2 fS hrv.sl (by omega) (by omega) (by omega) (by omega)
 refine To 6 rfl (eK (u:=v0) rfl dF jG (by rw[dh.cells ho.sl];rfl) Dd Dd λt a4 G H I=>⟨.inl (hS.trans H),?_⟩)
 have ab:N≤t:=G▸(an hN0 (Below.size hB))
 have J:=an (dz.size hS) (aae G.symm)
 have aF:=aaQ (b:=t) hrv (aae G.symm)
 have aG:=acf (b:=t) f (aae G.symm)
 have aH:=acf (b:=t) g (aae G.symm)
 obtain⟨hbl,hbp,hpo,hbm,hq,d,hbs,hxq,hmm,hrv,hLO⟩:=H.k11 hbl hbp hpo hbm hq d hbs hxq hmm hrv hLO
 replace hB:=cW hB H hN0
 obtain⟨ho,E,f,g⟩:=H.k4 ho E f g
 replace hS:=hS.trans H
 rw[dh.cells ho.sl]at I
 have z:=jU (enc:=encV) (a:=v0) I rfl rfl ab
 refine To 11 rfl (dZ (v:= .slice (some ⟨t,0,none⟩) 1 1) (v2:=fP 1 rv i vs.length (iZ rv)) rfl rfl dF jG Dd z g ((FM hone)) (n4 hB) iq iq λac a5 r F=>⟨.inl (db hS r (am _) (λj hj=>by have e:t=j:=Z9 hj;rw[←e];exact J)),?_⟩)
 replace hS:dz _ _:=db hS r (am _) (λj hj=>by have e:t=j:=Z9 hj;rw[←e];exact J)
 replace F:=cD.app (enc:=encV) rfl rfl rfl rfl F
 replace hbl:=At.grownOw hbl z r Dd
 replace hbp:=At.grownOw hbp z r Dd
 replace hpo:=cD.grownOw hpo z r Dd
 replace hbm:=At.grownOw hbm z r Dd
 replace hq:=du.grownOw hq z r
 replace d:=At.grownOw d z r Dd
 replace hbs:=At.grownOw hbs z r Dd
 replace hxq:=cD.grownOw hxq z r Dd
 replace hmm:=At.grownOw hmm z r Dd
 replace hLO:=LO.grownOw hLO z r Dd
 replace hB:=db hB r hN0 (λj hj=>(cD.lt z j hj))
 replace ho:=cD.grownOw ho z r Dd
 replace f:=ab4 f aG r
 replace g:=ab4 g aH r
 refine To 12 rfl (jZ (N:=N) (v:=fP 1 rv 0 i i) (v2:=ac) rfl rfl dF jG f (rP iq) F.sl gj (an hN0 (Below.size hB)) iq iq λad a6 K y=>⟨.inl (hS.trans K),?_⟩)
 replace y:=cD.app (enc:=encV) rfl rfl rfl rfl y
 obtain⟨hbl,hbp,hpo,hbm,hq,d,hbs,hxq,hmm,hLO⟩:=K.k10 hbl hbp hpo hbm hq d hbs hxq hmm hLO
 replace hB:=cW hB K hN0
 obtain⟨ho,f,g⟩:=K.k3 ho f g
 replace hS:=hS.trans K
 refine Tf 13 rfl rfl dO hS<|To 14 rfl (dm (v:=ad) rfl rfl eB (dh.one y.sl) hmm gj λa7 C aI=>⟨.inr jW,?_⟩)
 replace hbl:=At.grownAt hbl hmm C Dd
 replace hbp:=At.grownAt hbp hmm C Dd
 replace hpo:=cD.grownAt hpo hmm C Dd
 replace hbm:=At.grownAt hbm hmm C Dd
 replace hq:=du.grownAt hq hmm C
 replace d:=At.grownNe d hne C
 replace hbs:=At.grownAt hbs hmm C Dd
 replace hxq:=cD.grownAt hxq hmm C Dd
 replace hLO:=LO.grownAt hLO hmm C Dd
 replace hB:=db hB C hN0 (λj hj=>by cases hj;exact lom)
 replace ho:=cD.grownAt ho hmm C Dd
 replace y:=cD.grownAt y hmm C Dd
 replace hmm:=aI
 replace hmm:At _ _ #[_,_] _:=hmm
 refine Td ?_
 repeat (first|refine gW ?_|refine f7 ?_)
 refine gk ?_
 repeat (first|refine eJ ?_|refine eg ?_)
 refine vt ?_
 rw[←hput]
 rw[List.drop_zero,abK,Fw]at y
 exact⟨hB,hbl,hbp,hpo,hbm,hq,d,hbs,hxq,_,_,hmm,y,LO.put (i:=i) hLO ho hi⟩
 refine Zs<|Zs<|Zs<|Zs<|Zs<|Zs<|Zs<|Zs<|Zb rfl<|ct<|dA rfl<|cR ?_
 have hput:=MM (i:=i) hnd hnr hi hq2 (λh0=>by omega)
 have hC:vs.length≤iZ rv:=(Sl.eqv hrv.sl).2.1
 have hone:=LO.one hLO
 refine fe dz fQ (λae af=> ?_)
 obtain⟨hbl,hbp,hpo,hbm,hq,d,hbs,hxq,hmm,hrv,hLO⟩:=af.k11 hbl hbp hpo hbm hq d hbs hxq hmm hrv hLO
 replace hB:=cW hB af hN0
 replace ho:=af.ow ho
 have hS:=dz.refl ae
 refine Tf 0 rfl rfl dO hS<|Tk 1 rfl (λ_ hq=>cB (v:=rv) rfl eB (At.cell (hq.at hmm) rfl)) hS<|Ti 2 rfl rfl hS<|Ti 3 rfl rfl hS<|Tk 4 rfl (λ_ hq=>nq (v:=rv) rfl ((hq.ow hrv)).sl dF rfl rfl Om Om Om) hS ?_
 have f:dh encV 1 ae (fP 1 rv 0 i i) ((vs.drop 0).take (i-0)):=ab2 fS hrv.sl (by omega) (by omega) (by omega) (by omega)
 refine Tw 5 v0 rfl rfl hS<|Tf 7 rfl rfl dO hS<|Tk 8 rfl (λ_ hq=>cB (v:=rv) rfl eB (At.cell (hq.at hmm) rfl)) hS<|Ti 9 rfl rfl hS<|Tk 10 rfl (λ_ hq=>nu (v:=rv) rfl ((hq.ow hrv)).sl dF rfl Om Om) hS ?_
 have g:dh encV 1 ae (fP 1 rv i vs.length (iZ rv)) ((vs.drop i).take (vs.length-i)):=ab2 fS hrv.sl (by omega) (by omega) (by omega) (by omega)
 refine To 6 rfl (eK (u:=v0) rfl dF jG (by rw[dh.cells ho.sl];rfl) Dd Dd λt a8 L M I=>⟨.inl (hS.trans M),?_⟩)
 have ab:N≤t:=L▸(an hN0 (Below.size hB))
 have J:=an (dz.size hS) (aae L.symm)
 have aF:=aaQ (b:=t) hrv (aae L.symm)
 have aJ:=acf (b:=t) f (aae L.symm)
 have aK:=acf (b:=t) g (aae L.symm)
 obtain⟨hbl,hbp,hpo,hbm,hq,d,hbs,hxq,hmm,hrv,hLO⟩:=M.k11 hbl hbp hpo hbm hq d hbs hxq hmm hrv hLO
 replace hB:=cW hB M hN0
 obtain⟨ho,f,g⟩:=M.k3 ho f g
 replace hS:=hS.trans M
 rw[dh.cells ho.sl]at I
 have A:=jU (enc:=encV) (a:=v0) I rfl rfl ab
 refine To 11 rfl (dZ (v:= .slice (some ⟨t,0,none⟩) 1 1) (v2:=fP 1 rv i vs.length (iZ rv)) rfl rfl dF jG Dd A g ((FM hone)) (n4 hB) iq iq λac a9 s F=>⟨.inl (db hS s (am _) (λj hj=>by have e:t=j:=Z9 hj;rw[←e];exact J)),?_⟩)
 replace hS:dz _ _:=db hS s (am _) (λj hj=>by have e:t=j:=Z9 hj;rw[←e];exact J)
 replace F:=cD.app (enc:=encV) rfl rfl rfl rfl F
 replace hbl:=At.grownOw hbl A s Dd
 replace hbp:=At.grownOw hbp A s Dd
 replace hpo:=cD.grownOw hpo A s Dd
 replace hbm:=At.grownOw hbm A s Dd
 replace hq:=du.grownOw hq A s
 replace d:=At.grownOw d A s Dd
 replace hbs:=At.grownOw hbs A s Dd
 replace hxq:=cD.grownOw hxq A s Dd
 replace hmm:=At.grownOw hmm A s Dd
 replace hLO:=LO.grownOw hLO A s Dd
 replace hB:=db hB s hN0 (λj hj=>(cD.lt A j hj))
 replace ho:=cD.grownOw ho A s Dd
 replace f:=ab4 f aJ s
 replace g:=ab4 g aK s
 refine To 12 rfl (jZ (N:=N) (v:=fP 1 rv 0 i i) (v2:=ac) rfl rfl dF jG f (rP iq) F.sl gj (an hN0 (Below.size hB)) iq iq λad ba O y=>⟨.inl (hS.trans O),?_⟩)
 replace y:=cD.app (enc:=encV) rfl rfl rfl rfl y
 obtain⟨hbl,hbp,hpo,hbm,hq,d,hbs,hxq,hmm,hLO⟩:=O.k10 hbl hbp hpo hbm hq d hbs hxq hmm hLO
 replace hB:=cW hB O hN0
 obtain⟨ho,f,g⟩:=O.k3 ho f g
 replace hS:=hS.trans O
 refine Tf 13 rfl rfl dO hS<|To 14 rfl (dm (v:=ad) rfl rfl eB (dh.one y.sl) hmm gj λbb D aL=>⟨.inr jW,?_⟩)
 replace hbl:=At.grownAt hbl hmm D Dd
 replace hbp:=At.grownAt hbp hmm D Dd
 replace hpo:=cD.grownAt hpo hmm D Dd
 replace hbm:=At.grownAt hbm hmm D Dd
 replace hq:=du.grownAt hq hmm D
 replace d:=At.grownNe d hne D
 replace hbs:=At.grownAt hbs hmm D Dd
 replace hxq:=cD.grownAt hxq hmm D Dd
 replace hLO:=LO.grownAt hLO hmm D Dd
 replace hB:=db hB D hN0 (λj hj=>by cases hj;exact lom)
 replace ho:=cD.grownAt ho hmm D Dd
 replace y:=cD.grownAt y hmm D Dd
 replace hmm:=aL
 replace hmm:At _ _ #[_,_] _:=hmm
 refine Td ?_
 repeat (first|refine gW ?_|refine f7 ?_)
 refine gk ?_
 repeat (first|refine eJ ?_|refine eg ?_)
 refine vt ?_
 rw[←hput]
 rw[List.drop_zero,abK,Fw]at y
 exact⟨hB,hbl,hbp,hpo,hbm,hq,d,hbs,hxq,_,_,hmm,y,LO.put (i:=i) hLO ho hi⟩
theorem Co (S:Sp) (onV mayV:Value) (xa:Value) (l:List Rw) (w:World) (hon:dh fT 4 w onV S.on) (hmay:dh fT 4 w mayV S.may) (hl:dh gv 3 w xa l) (hlb:l.length≤1000000) (hlr:ix l):
    Fn Tryz.prog 146 #[.agg #[.int .i64 S.n,onV,mayV],xa] w λv w'=>if Ch S l=0 then ∃rv vs,v= .tuple #[.agg #[.int .i64 (l.length:Int),rv], .int .i64 0]∧cD encV 1 35 w' w.heap.size rv vs∧LO 3 w.heap.size w' vs (mI S l)else v= .tuple #[.agg #[.int .i64 0, .slice none 0 0], .int .i64 (Ch S l)]:=by
 refine cH (n:=76) Tryz.func146 rfl rfl rfl λhB=> ?_
 refine Zr<|Zy (dt (c:= #[_,_,_]) rfl rfl λP W3 bk ah d=> ?_)
 replace hB:=Ze hB ah
 refine Zy (dt (v:=xa) (c:= #[xa]) rfl (dh.cells (Below.slT hB hl)) λB W6 bl ai f=> ?_)
 obtain⟨hB,d⟩:=ai.k2 hB d
 refine Zy (cI gq rfl λQ W9 aj ak a=> ?_)
 have R:=ZO aj hB
 obtain⟨hB,d,f⟩:=ak.k3 hB d f
 refine ZZ rfl<|Zq<|Zr<|Zv (cy rfl el rfl d)<|ZC (vs:=[.agg #[_,_,_]]) oB (iJ S _ _ _ (Below.slT hB hon) (Below.slT hB hmay)) rfl λbm bn al ao=> ?_
 obtain⟨hB,d,f,a⟩:=al.k4 hB d f a
 obtain rfl:=ao
 refine Zv (eR rfl)<|ct<|ZQ rfl (λV=> ?_) λV=> ?_
 refine Zr<|Zv (pK)<|Zy (cz rfl rfl cY rfl a rfl rfl λbo ap aq=> ?_)
 replace hB:=Zg hB ap R
 replace a:=aq
 refine ZZ rfl<|Zt<|eI rfl cY a rfl (v1:= .int .i64 1) rfl ⟨hB,?_⟩
 rw[XZ (by rw[kT V];decide),if_neg (by decide)]
 refine cu ?_
 have hr:dq S=true:=ms V
 obtain⟨h0,h8,h1,h5,h6,_⟩:=dD.1 hr
 refine Zr<|Zy (cI UV rfl λC bp ar au g=> ?_)
 have av:=ZO ar hB
 obtain⟨hB,d,f,a⟩:=au.k4 hB d f a
 refine ct<|Zq<|Zr<|ZL xa rfl m3 f rfl<|Zv (cT (v:=xa) rfl (Below.slT hB hl) dM)<|ZZ rfl<|cx ?_
 refine cS (σ:=(Nat)×(Value)) [5,5,8,10,24,44] (λ(k,vp)=>[(24, .int .i64 (k:Int))]) (λsg W=>match sg with|(k,vp)=>(Below w.heap.size w W)∧(At W P _ 59)∧(At W B _ 83)∧(At W Q _ 203)∧(At W C #[vp] 57)∧(cD fT 4 40 W w.heap.size vp (vz l S.n k))∧(k≤l.length)∧(∀q,q<k→dC (l.getD q ⟨⟨0,0⟩,0⟩).c.m (l.getD q ⟨⟨0,0⟩,0⟩).c.v S.n=true)∧(True)) (λ(k,vp)=>l.length-k) ((0, .slice none 0 0)) ⟨rfl,trivial⟩ ⟨hB,d,f,a,g,cD.nil,(my _),ef,trivial⟩ ?_
 rintro⟨k,vp⟩ bq br ⟨hB,d,f,a,g,hpo,hk,hq,_⟩ bs aw
 refine Zr<|Zv (dk rfl rfl)<|ct<|Zq<|ZQ rfl (λax=> ?_) λax=> ?_
 refine cu<|Zq<|cx<|Zr<|Zv (df (v:=xa) rfl (Below.slT hB hl) rfl dM Om (by omega))<|Zv (gH rfl dP (dh.cell (Below.slT hB hl) eh ⟨⟨0,0⟩,0⟩ Om (by omega) 0 rfl) (dh.cell (Below.slT hB hl) eh ⟨⟨0,0⟩,0⟩ Om (by omega) 1 rfl) (dh.cell (Below.slT hB hl) eh ⟨⟨0,0⟩,0⟩ Om (by omega) 2 rfl))<|Zy (cI jD rfl λbt bu ay az D=> ?_)
 have aA:=ZO ay hB
 obtain⟨hB,d,f,a,g,hpo⟩:=az.k6 hB d f a g hpo
 refine Zy (cz rfl rfl dP rfl D rfl rfl λbv J aB=> ?_)
 replace hB:=Zg hB J aA
 replace d:=At.grownAt d D J Dd
 replace f:=At.grownAt f D J Dd
 replace a:=At.grownAt a D J Dd
 replace g:=At.grownAt g D J Dd
 replace hpo:=cD.grownAt hpo D J Dd
 replace D:=aB
 refine ct ?_
 obtain⟨aC,aD,bw⟩:=hlr.get (k:=k) (by omega)
 refine Zr<|Zf rfl gE<|Zv (fD rfl cZ (At.cell D rfl) (At.cell D rfl))<|Zf rfl iF<|Zl rfl cK d rfl<|ZC (vs:=[.agg #[_,_], .int .i64 _]) vO (ju _ _ _ _ aC aD) rfl λbx bz aE aF=> ?_
 obtain⟨hB,d,f,a,g,hpo⟩:=aE.k6 hB d f a g hpo
 obtain⟨sa,er,rfl,hhP7_4⟩:=vC aF
 refine Zw (.tuple #[.agg #[_,_,_,_], .int .i64 _]) rfl<|Zv (c7 rfl)<|Zv (da rfl)<|Zy (cI ee rfl λZ aG aa aH E=> ?_)
 have aI:=ZO aa hB
 have aJ:=aaQ (b:=Z) hpo (aae aa.symm)
 obtain⟨hB,d,f,a,g,hpo⟩:=aH.k6 hB d f a g hpo
 replace E:At aG Z #[wv 0 0,wv 0 1,wv 0 2,wv 0 3] 40:=E
 refine Zy (cz rfl rfl cA rfl E rfl rfl λbA K aK=> ?_)
 replace hB:=Zg hB K aI
 replace d:=At.grownAt d E K Dd
 replace f:=At.grownAt f E K Dd
 replace a:=At.grownAt a E K Dd
 replace g:=At.grownAt g E K Dd
 replace hpo:=aat hpo aJ K
 replace E:=aK
 refine ZZ rfl<|Zq<|Zr<|Zi rfl<|Zv (ep rfl rfl)<|ct<|ZQ rfl (λX=> ?_) λX=> ?_
 refine Zr<|Zv (pK)<|Zi rfl<|Zy (cz rfl rfl cY rfl a rfl rfl λbB aL aM=> ?_)
 replace hB:=Zg hB aL R
 replace a:=aM
 refine ZZ rfl<|Zt<|eI rfl cY a rfl (v1:= .int .i64 _) rfl ⟨hB,?_⟩
 obtain⟨hrr,her⟩:=hhP7_4.resolve_left (λh=>X h.2.2)
 rw[Xp (k:=k) (by omega) (λq=>by have:=hrr.symm.trans q;cases this),if_neg (by decide),her]
 refine cu ?_
 obtain⟨hrr,hsa,_⟩:=hhP7_4.resolve_right (λh=>X (λe=>by rw[h.2]at e;cases e))
 subst hsa
 have hpl:=FF (l:=l) (n:=S.n) (k:=k) (by omega)
 refine cN<|ZL vp rfl ft g rfl<|Zv (cy rfl cA rfl E)<|Zy (eK (u:= .agg #[_,_,_,_]) rfl eN pY rfl Dd Dd λaN bC bD aO aP=> ?_)
 obtain⟨hB,d,f,a,g,hpo⟩:=aO.k6 hB d f a g hpo
 refine Zy (dZ (v:=vp) (v2:= .slice (some ⟨aN,0,none⟩) 1 1) rfl rfl eN pY Dd hpo (eT aP rfl) rfl (n4 hB) (by omega) (by omega) λab bE N L=> ?_)
 replace L:=cD.snoc (enc:=fT) (x:=(oH (l.getD k ⟨⟨0,0⟩,0⟩).c.m (l.getD k ⟨⟨0,0⟩,0⟩).c.v S.n.toNat)) rfl rfl rfl rfl L
 replace hB:=ZG hB N hpo
 replace d:=At.grownOw d hpo N Dd
 replace f:=At.grownOw f hpo N Dd
 replace a:=At.grownOw a hpo N Dd
 replace g:=At.grownOw g hpo N Dd
 refine Zy (dm (v:=ab) rfl rfl ft (dh.one L.sl) g gj λbF O aQ=> ?_)
 replace hB:=Zg hB O av
 replace d:=At.grownAt d g O Dd
 replace f:=At.grownAt f g O Dd
 replace a:=At.grownAt a g O Dd
 replace L:=cD.grownAt L g O Dd
 replace g:=aQ
 replace g:At _ _ #[_] _:=g
 refine ct<|ZT rfl rfl rfl ?_
 exact aw _ _ ((k+1,ab)) Za ⟨rfl,trivial⟩ ⟨hB,d,f,a,g,(by rw[←K3 Om];exact L),Om,(dG hq hrr),trivial⟩ (by show l.length-(k+1)<l.length-k;omega)
 refine cR<|Zq ?_
 obtain rfl:k=l.length:=by omega
 refine Zr<|ZL xa rfl m3 f rfl<|Zv (cT (v:=xa) rfl (Below.slT hB hl) dM)<|Zv (il rfl rfl)<|ct<|ZQ rfl (λaR=> ?_) λaR=> ?_
 refine Zr<|Zv (pK)<|Zy (cz rfl rfl cY rfl a rfl rfl λbG aS aT=> ?_)
 replace hB:=Zg hB aS R
 replace a:=aT
 refine ZZ rfl<|Zt<|eI rfl cY a rfl (v1:= .int .i64 3) rfl ⟨hB,?_⟩
 rw[Xt hr hq (by omega),if_neg (by decide)]
 refine cu<|Zr<|ZL xa rfl m3 f rfl<|Zv (cT (v:=xa) rfl (Below.slT hB hl) dM)<|Zv (kd (h0:=rfl) (k0:=rfl) (c0_0:= .int .i64 _))<|Zy (cI gq rfl λF bH ac aU j=> ?_)
 have ad:=ZO ac hB
 have ae:=Zn ac a.lt
 obtain⟨hB,d,f,a,g,hpo⟩:=aU.k6 hB d f a g hpo
 refine Zy (cz rfl rfl cY rfl j rfl rfl λbI M aV=> ?_)
 replace hB:=Zg hB M ad
 replace d:=At.grownAt d j M Dd
 replace f:=At.grownAt f j M Dd
 replace a:=At.grownNe a ae M
 replace g:=At.grownAt g j M Dd
 replace hpo:=cD.grownAt hpo j M Dd
 replace j:=aV
 refine ct<|Zr<|Zy (gQ (enc:=eM) (encV:=Value.bool) λT bJ aW aX t=> ?_)
 have aY:=ZO aW hB
 obtain⟨hB,d,f,a,g,hpo,j⟩:=aX.k7 hB d f a g hpo j
 replace t:du eM Value.bool _ _ (fp (([]:List (List Int)).map kQ)):=t
 refine Zy (cI Q9 rfl λG bK aZ a0 r=> ?_)
 have a1:=ZO aZ hB
 obtain⟨hB,d,f,a,g,hpo,j,t⟩:=a0.k8 hB d f a g hpo j t
 refine Zy (dm (v:= .map (some T)) rfl rfl yG rfl r LK λbL H a2=> ?_)
 replace hB:=Zg hB H a1
 replace d:=At.grownAt d r H Dd
 replace f:=At.grownAt f r H Dd
 replace a:=At.grownAt a r H Dd
 replace g:=At.grownAt g r H Dd
 replace hpo:=cD.grownAt hpo r H Dd
 replace j:=At.grownAt j r H Dd
 replace t:=du.grownAt t r H
 replace r:=a2
 replace r:At _ _ #[_] _:=r
 refine ct<|Zr<|Zv (fI (vs:= #[.pointer (some ⟨B,0,none⟩), .pointer (some ⟨C,0,none⟩), .pointer (some ⟨G,0,none⟩), .pointer (some ⟨F,0,none⟩)]) Ga)<|Zw (.func (.func 177) #[] #[.pointer (some ⟨B,0,none⟩), .pointer (some ⟨C,0,none⟩), .pointer (some ⟨G,0,none⟩), .pointer (some ⟨F,0,none⟩)]) rfl<|ct<|Zq<|Zr<|Zf rfl iG<|ZL onV rfl ft d rfl<|Zv (cT (v:=onV) rfl (Below.slT hB hon) eN)<|ZZ rfl<|cx ?_
 refine cS (σ:=(Nat)×(Value)×(List Value)) [14,15,17,17,57,74] (λ(o,rv,vs)=>[(57, .int .i64 (o:Int))]) (λsg W=>match sg with|(o,rv,vs)=>(Below w.heap.size w W)∧(At W P _ 59)∧(At W B _ 83)∧(At W Q _ 203)∧(At W C _ 57)∧(cD fT 4 40 W w.heap.size vp _)∧(At W G _ 218)∧(du eM Value.bool W T (fp ((kS S l o).map kQ)))∧(At W F #[.int .i64 (l.length:Int),rv] 203)∧(cD encV 1 35 W w.heap.size rv vs)∧(LO 3 w.heap.size W vs (iA (kS S l o)))∧(o≤S.on.length)∧(True)) (λ(o,rv,vs)=>S.on.length-o) ((0, .slice none 0 0,[])) ⟨rfl,trivial⟩ ⟨hB,d,f,a,g,hpo,r,t,j,cD.nil,LO.nil,(my _),trivial⟩ ?_
 rintro⟨o,rv,vs⟩ bM bN ⟨hB,d,f,a,g,hpo,r,t,j,hrv,hLO,ho,_⟩ bO a3
 refine Zr<|Zv (dk rfl rfl)<|ct<|Zq<|ZQ rfl (λa4=> ?_) λa4=> ?_
 refine cu<|Zq<|cx<|Zr<|Zi rfl<|Zv (df (v:=onV) rfl (Below.slT hB hon) rfl eN Om (by omega))<|Zv (fv rfl cA (dh.cell (Below.slT hB hon) dE 0 Om (by omega) 0 rfl) (dh.cell (Below.slT hB hon) dE 0 Om (by omega) 1 rfl) (dh.cell (Below.slT hB hon) dE 0 Om (by omega) 2 rfl) (dh.cell (Below.slT hB hon) dE 0 Om (by omega) 3 rfl))<|Zy (cI ee rfl λaf a5 ag a6 y=> ?_)
 have a7:=ZO ag hB
 have a8:=aaQ (b:=af) hpo (aae ag.symm)
 obtain⟨hB,d,f,a,g,hpo,r,t,j,hrv,hLO⟩:=a6.k11 hB d f a g hpo r t j hrv hLO
 replace y:At a5 af #[wv 0 0,wv 0 1,wv 0 2,wv 0 3] 40:=y
 refine Zi rfl<|Zy (cz rfl rfl cA rfl y rfl rfl λbP z a9=> ?_)
 replace hB:=Zg hB z a7
 replace d:=At.grownAt d y z Dd
 replace f:=At.grownAt f y z Dd
 replace a:=At.grownAt a y z Dd
 replace g:=At.grownAt g y z Dd
 replace hpo:=aat hpo a8 z
 replace r:=At.grownAt r y z Dd
 replace t:=du.grownAt t y z
 replace j:=At.grownAt j y z Dd
 replace hrv:=cD.grownAt hrv y z Dd
 replace hLO:=LO.grownAt hLO y z Dd
 replace y:=a9
 refine ct<|Zr<|Zv (cy rfl cA rfl y)<|ZC (vs:=[.agg #[_,_,_,_]]) um (nE (S.on.getD o 0) _) rfl λU bQ ba A=> ?_
 have bb:=(Below.size hB)
 obtain⟨hB,d,f,a,g,hpo,r,t,j,hrv,hLO,y⟩:=ba.k12 hB d f a g hpo r t j hrv hLO y
 replace A:=cD.mono A bb
 refine Zv (cT (v:=U) rfl A.sl cM)<|ZZ rfl<|cx ?_
 refine cS (σ:=(Nat)×(Value)×(List Value)) [17,17,65,73] (λ(k,rv2,I)=>[(65, .int .i64 (k:Int))]) (λsg W=>match sg with|(k,rv2,I)=>(Below w.heap.size w W)∧(At W P _ 59)∧(At W B _ 83)∧(At W Q _ 203)∧(At W C _ 57)∧(cD fT 4 40 W w.heap.size vp _)∧(At W G _ 218)∧(cD dJ 1 3 W w.heap.size U _)∧(du eM Value.bool W T (fp ((u7 l o (d7 (S.on.getD o 0)) (kS S l o) k).map kQ)))∧(At W F #[.int .i64 (l.length:Int),rv2] 203)∧(cD encV 1 35 W w.heap.size rv2 I)∧(LO 3 w.heap.size W I (iA (u7 l o (d7 (S.on.getD o 0)) (kS S l o) k)))∧(k≤(d7 (S.on.getD o 0)).length)∧(True)) (λ(k,rv2,I)=>(d7 (S.on.getD o 0)).length-k) ((0,rv,vs)) ⟨rfl,trivial⟩ ⟨hB,d,f,a,g,hpo,r,A,t,j,hrv,hLO,(my _),trivial⟩ ?_
 rintro⟨k,rv2,I⟩ bR bS ⟨hB,d,f,a,g,hpo,r,A,t,j,hrv2,hLO2,hk,_⟩ bT bc
 refine Zr<|Zv (dk rfl rfl)<|ct<|Zq<|ZQ rfl (λbd=> ?_) λbd=> ?_
 refine cu<|Zq<|cx<|Zr<|Zv (df (v:=U) rfl A.sl rfl cM Om (by omega))<|Zv (cB (v:= .int .i64 _) rfl cK (dh.cell A.sl dI 0 Om (by omega) 0 rfl))<|ZZ rfl ?_
 have hls:=lZ (S.on.getD o 0)
 obtain⟨p,bf,hpb,hpe⟩:=lV (s:=S.on.getD o 0) (i:=k) (by omega)
 have bg:0≤(d7 (S.on.getD o 0)).getD k 0∧((d7 (S.on.getD o 0)).getD k 0).toNat<2^S.n.toNat:=by rw[hpe];exact⟨by omega,by rw[so];exact TY hr (by omega) hpb bf⟩
 refine cN<|Zw (.func (.func 177) #[] #[.pointer (some ⟨B,0,none⟩), .pointer (some ⟨C,0,none⟩), .pointer (some ⟨G,0,none⟩), .pointer (some ⟨F,0,none⟩)]) rfl<|Zi rfl<|Zi rfl ?_
 refine mA (dd:=some 72) rfl rfl rfl (ij (q:=177) (first:= #[]) (cap:= #[.pointer (some ⟨B,0,none⟩), .pointer (some ⟨C,0,none⟩), .pointer (some ⟨G,0,none⟩), .pointer (some ⟨F,0,none⟩)]) (vs:= #[.int .i64 _, .int .i64 _, .pointer (some ⟨B,0,none⟩), .pointer (some ⟨C,0,none⟩), .pointer (some ⟨G,0,none⟩), .pointer (some ⟨F,0,none⟩)]) rfl PV Gb) (Xv w.heap.size o ((d7 (S.on.getD o 0)).getD k 0) S.n l (u7 l o (d7 (S.on.getD o 0)) (kS S l o) k) B C G F T Q P xa _ rv2 U _ _ I (d7 (S.on.getD o 0)) _ (Below.size hB) Om bg Om hlr hq (tn (wq S l o) k) (λx hx=>P2 hx) (Pq Om Om) (Below.slT hB hl) f g hpo r t a d A j hrv2 hLO2 ad aY ae) (λbU bV bh=> ?_)
 obtain⟨hBt,f,g,hpo,r,t,a,d,A,rv3,bi,j,hrv3,hLO3⟩:=bh
 replace hB:=Below.trans hB hBt
 refine ct<|ZT rfl rfl rfl ?_
 exact bc _ _ ((k+1,rv3,bi)) Za ⟨rfl,trivial⟩ ⟨hB,d,f,a,g,hpo,r,A,(by exact t),j,hrv3,hLO3,Om,trivial⟩ (by show (d7 (S.on.getD o 0)).length-(k+1)<(d7 (S.on.getD o 0)).length-k;omega)
 refine cR ?_
 obtain rfl:k=(d7 (S.on.getD o 0)).length:=by omega
 refine ZT rfl rfl rfl ?_
 exact a3 _ _ ((o+1,rv2,I)) Za ⟨rfl,trivial⟩ ⟨hB,d,f,a,g,hpo,r,(by exact t),j,hrv2,hLO2,Om,trivial⟩ (by show S.on.length-(o+1)<S.on.length-o;omega)
 refine cR ?_
 obtain rfl:o=S.on.length:=by omega
 refine Zr<|Zv (cy rfl cY rfl j)<|Zy (cz rfl rfl cY rfl a rfl (by simp only[aa7,abL,cD.one hrv,aaZ];rfl) λbW Y bj=> ?_)
 replace hB:=Zg hB Y R
 replace hrv:=cD.grownAt hrv a Y Dd
 replace hLO:=LO.grownAt hLO a Y Dd
 replace a:=bj
 refine ZZ rfl<|Zt<|eI rfl cY a rfl (v1:= .int .i64 0) rfl ⟨hB,?_⟩
 rw[if_pos (Tm hr hq (by omega))]
 exact⟨_,_,rfl,hrv,hLO⟩
end
section
open Go Go.RowKit
theorem I5:cX Tryz.prog 232=true:=by kernel_rfl
theorem PQ:cX Tryz.prog 231=true:=by kernel_rfl
theorem uv:cX Tryz.prog 181=true:=by kernel_rfl
theorem wz:dT Tryz.prog 3=some (.int .i64 0):=by kernel_rfl
theorem Du:cX Tryz.prog 230=true:=by kernel_rfl
theorem JW:cX Tryz.prog 234=true:=by kernel_rfl
theorem JY:cX Tryz.prog 233=true:=by kernel_rfl
theorem uy (xr:Value) (r:List Int) (c:Int) (w:World) (hr:dh dJ 1 w xr r) (hrb:r.length≤9223372036854775807):
    Fn Tryz.prog 232 #[xr, .int .i64 c] w λv w'=>v= .bool (decide (c∈r)):=by
 refine cH (n:=17) Tryz.func232 rfl rfl rfl λhB=> ?_
 refine Zr<|Zb rfl<|ct<|Zq<|Zr<|Zw xr rfl<|Zv (cT (v:=xr) rfl (Below.slT hB hr) cM)<|ZZ rfl<|cx ?_
 refine cS (σ:=(Nat)) [4,4,6,6,9,16] (λk=>[(9, .int .i64 (k:Int))]) (λk W=>(Below w.heap.size w W)∧(k≤r.length)∧(∀q,q<k→¬r.getD q 0=c)∧(True)) (λk=>r.length-k) (0) ⟨rfl,trivial⟩ ⟨hB,(my _),ef,trivial⟩ ?_
 rintro k g8 W7 ⟨hB,hk,hq,_⟩ J9 b
 refine Zr<|Zv (dk rfl rfl)<|ct<|Zq<|ZQ rfl (λd=> ?_) λd=> ?_
 refine cu<|Zq<|cx<|Zr<|Zv (df (v:=xr) rfl (Below.slT hB hr) rfl cM Om Om)<|Zv (cB (v:= .int .i64 _) rfl cK (dh.cell (Below.slT hB hr) dI 0 Om Om 0 rfl))<|ZZ rfl<|Zr<|Zi rfl<|Zi rfl<|Zv (dW rfl rfl)<|ct ?_
 refine ZQ rfl (λa=> ?_) λa=> ?_
 refine Zr<|Zb rfl<|ct<|Zt<|cV (v:= .bool true) rfl ⟨hB,?_⟩
 exact TN (k:=k) (by omega) a
 refine cu<|ZT rfl rfl rfl ?_
 exact b _ _ (k+1) Za ⟨rfl,trivial⟩ ⟨hB,Om,(dG hq a),trivial⟩ Zo
 refine cR<|Zr<|Zb rfl<|ct<|Zt<|cV (v:= .bool false) rfl ⟨hB,?_⟩
 exact TB (by omega) hq
theorem qh (xa xb:Value) (a b:List Int) (w:World) (ha:dh dJ 1 w xa a) (hb:dh dJ 1 w xb b) (hal:a.length≤9223372036854775807) (hbl:b.length≤9223372036854775807):
    Fn Tryz.prog 233 #[xa,xb] w λv w'=>v= .bool (Dk a b):=by
 refine cH (n:=18) Tryz.func233 rfl rfl rfl λhB=> ?_
 refine Zr<|Zb rfl<|ct<|Zq<|Zr<|Zw xa rfl<|Zv (cT (v:=xa) rfl (Below.slT hB ha) cM)<|ZZ rfl<|cx ?_
 refine cS (σ:=(Nat)) [4,4,6,6,9,17] (λk=>[(9, .int .i64 (k:Int))]) (λk W=>(Below w.heap.size w W)∧(k≤a.length)∧(∀q,q<k→(!decide (a.getD q 0∈b))=false)∧(True)) (λk=>a.length-k) (0) ⟨rfl,trivial⟩ ⟨hB,(my _),ef,trivial⟩ ?_
 rintro k g8 W7 ⟨hB,hk,hq,_⟩ J9 d
 refine Zr<|Zv (dk rfl rfl)<|ct<|Zq<|ZQ rfl (λe=> ?_) λe=> ?_
 refine cu<|Zq<|cx<|Zr<|Zv (df (v:=xa) rfl (Below.slT hB ha) rfl cM Om Om)<|Zv (cB (v:= .int .i64 _) rfl cK (dh.cell (Below.slT hB ha) dI 0 Om Om 0 rfl))<|ZZ rfl<|Zr<|Zw xb rfl<|Zi rfl<|ZC I5 (uy _ _ _ _ (Below.slT hB hb) m5) rfl λh i f g=> ?_
 replace hB:=Ze hB f
 obtain rfl:=g
 refine Zv (eR rfl)<|ct<|ZQ rfl (λc=> ?_) λc=> ?_
 refine Zr<|Zb rfl<|ct<|Zt<|cV (v:= .bool false) rfl ⟨hB,?_⟩
 exact XQ (k:=k) (by omega) c
 refine cu<|ZT rfl rfl rfl ?_
 exact d _ _ (k+1) Za ⟨rfl,trivial⟩ ⟨hB,Om,(dG hq c),trivial⟩ Zo
 refine cR<|Zr<|Zb rfl<|ct<|Zt<|cV (v:= .bool true) rfl ⟨hB,?_⟩
 exact Ym (by omega) hq
theorem w5 (k:Int) (xr:Value) (r:List Int) (c:Int) (bx:Nat) (w:World) (hx:At w bx #[.int .i64 c] 3) (hr:dh dJ 1 w xr r) (hrb:r.length≤1000000):
    Fn Tryz.prog 231 #[.int .i64 k,xr, .pointer (some ⟨bx,0,none⟩)] w λv w'=>v= .bool (!decide (c∈r)):=by
 refine cH (n:=10) Tryz.func231 rfl rfl rfl λhB=> ?_
 refine Zr<|Zb rfl<|ct<|Zr<|Zw xr rfl<|Zl rfl cK (On hB hx) rfl<|ZC I5 (uy _ _ _ _ (Below.slT hB hr) (by omega)) rfl λd W5 a b=> ?_
 replace hB:=Ze hB a
 obtain rfl:=b
 refine Zv (eR rfl)<|Zb rfl<|ct<|Zt<|cV (v:= .bool _) rfl ⟨hB,?_⟩
 rfl
theorem qe (k:Int) (xr:Value) (i:Int) (bx:Nat) (w:World) (hx:At w bx #[.int .i64 i] 3):
    Fn Tryz.prog 234 #[.int .i64 k,xr, .pointer (some ⟨bx,0,none⟩)] w λv w'=>v= .bool (decide (¬k=i)):=by
 refine cH (n:=9) Tryz.func234 rfl rfl rfl λhB=> ?_
 refine Zr<|Zb rfl<|ct<|Zr<|Zi rfl<|Zl rfl cK (On hB hx) rfl<|Zv (ep rfl rfl)<|Zb rfl<|ct<|Zt<|cV (v:= .bool _) rfl ⟨hB,?_⟩
 rfl
theorem oP (n:Int) (rv:Value) (vs:List Value) (L:ML) (q bx:Nat) (p:Nat→Bool) (w:World) (hrv:cD encV 1 35 w 0 rv vs) (hLO:LO 3 0 w vs L) (hLb:L.length≤1000000) (hq:cX Tryz.prog q=true) (hdo:∀(k:Nat) (xr:Value) (W:World),k<L.length→Below w.heap.size w W→dh dJ 1 W xr (L.getD k [])→Fn Tryz.prog q #[.int .i64 (k:Int),xr, .pointer (some ⟨bx,0,none⟩)] W λv w'=>v= .bool (p k)):
    Fn Tryz.prog 230 #[.agg #[.int .i64 n,rv], .func (.func q) #[] #[.pointer (some ⟨bx,0,none⟩)]] w λv w'=>∃rv',v= .agg #[.int .i64 n,rv']∧cD encV 1 35 w' w.heap.size rv' (tO undef p vs L.length):=by
 refine cH (n:=31) Tryz.func230 rfl rfl rfl λhB=> ?_
 have hll:=hLO.ll
 have hvl:=hll.len
 refine Zr<|Zy (dt (c:= #[_,_]) rfl rfl λE W3 U F a=> ?_)
 replace hB:=Ze hB F
 refine Zy (cI gq rfl λG W6 H I d=> ?_)
 have J:=ZO H hB
 obtain⟨hB,a⟩:=I.k2 hB a
 refine ct<|Zr<|Zf rfl iv<|Zl rfl cK a rfl<|Zv (kd (h0:=rfl) (k0:=rfl) (c0_0:= .int .i64 _))<|Zy (cI gq rfl λK V l M f=> ?_)
 have t:=ZO l hB
 have y:=Zn l a.lt
 have z:=Zn l d.lt
 obtain⟨hB,a,d⟩:=M.k3 hB a d
 refine Zy (cz rfl rfl cY rfl f rfl rfl λX m N=> ?_)
 replace hB:=Zg hB m t
 replace a:=At.grownNe a y m
 replace d:=At.grownNe d z m
 replace f:=N
 refine ct<|Zq<|Zr<|Zf rfl dO<|ZL rv rfl eB a rfl<|Zv (cT (v:=rv) rfl ((Below.ow hB hrv)).sl dF)<|ZZ rfl<|cx ?_
 refine cS (σ:=(Nat)×(Value)) [6,7,14,29] (λ(k,v0)=>[(14, .int .i64 (k:Int))]) (λsg W=>match sg with|(k,v0)=>(Below w.heap.size w W)∧(At W E _ 203)∧(At W G _ 203)∧(At W K #[.int .i64 n,v0] 203)∧(cD encV 1 35 W w.heap.size v0 (tO undef p vs k))∧(k≤L.length)∧(True)) (λ(k,v0)=>L.length-k) ((0, .slice none 0 0)) ⟨rfl,trivial⟩ ⟨hB,a,d,f,cD.nil,(my _),trivial⟩ ?_
 rintro⟨k,v0⟩ Y Z ⟨hB,a,d,f,ho,hk,_⟩ aa A
 refine Zr<|Zv (dk rfl rfl)<|ct<|Zq<|ZQ rfl (λO=> ?_) λO=> ?_
 refine cu<|Zq<|cx<|Zr<|Zi rfl<|Zv (df (v:=rv) rfl ((Below.ow hB hrv)).sl rfl dF Om Om)<|Zv (cB (v:=(vs.getD k undef)) rfl dV (dh.cell ((Below.ow hB hrv)).sl fS undef Om Om 0 rfl)) ?_
 have h:dh dJ 1 w ((vs.getD k undef)) (L.getD k []):=hll.get k (by omega)
 refine Zi rfl<|Zw (vs.getD k undef) rfl<|ct ?_
 have hkl:=BU undef p vs k
 refine Zr<|Zw (.func (.func q) #[] #[.pointer (some ⟨bx,0,none⟩)]) rfl<|Zi rfl<|Zw (vs.getD k undef) rfl ?_
 refine ol (dd:=some 22) rfl rfl rfl (ij (q:=q) (first:= #[]) (cap:= #[.pointer (some ⟨bx,0,none⟩)]) (vs:= #[.int .i64 _,(vs.getD k undef), .pointer (some ⟨bx,0,none⟩)]) rfl hq Gb) (hdo k _ _ Om hB (Below.slT hB h)) (λab ac P Q=> ?_)
 obtain⟨hB,a,d,f,ho⟩:=P.k5 hB a d f ho
 obtain rfl:=Q
 refine ct<|ZQ rfl (λo=> ?_) λo=> ?_
 refine cN<|Zf rfl dO<|ZL v0 rfl eB f rfl<|Zw (vs.getD k undef) rfl<|Zy (eK (u:=(vs.getD k undef)) rfl dF jG (by rw[dh.cells (Below.slT hB h)];rfl) Dd Dd λr ad s R B=> ?_)
 have ae:=ZO s hB
 have af:=aaQ (b:=r) (Below.ow hB hrv) (aae s.symm)
 have ag:=aaQ (b:=r) ho (aae s.symm)
 obtain⟨hB,a,d,f,ho⟩:=R.k5 hB a d f ho
 rw[dh.cells (Below.slT hB h)]at B
 refine Zy (dZ (v:=v0) (v2:= .slice (some ⟨r,0,none⟩) 1 1) rfl rfl dF jG Dd ho (eT B rfl) (by simp only[aa7,abL,dh.one (Below.slT hB h),aaZ]) (n4 hB) (by omega) (by omega) λC ah i g=> ?_)
 replace g:=cD.snoc (enc:=encV) (x:=(vs.getD k undef)) rfl rfl rfl rfl g
 replace hB:=ZG hB i ho
 replace a:=At.grownOw a ho i Dd
 replace d:=At.grownOw d ho i Dd
 replace f:=At.grownOw f ho i Dd
 refine Zf rfl dO<|Zy (dm (v:=C) rfl rfl eB (dh.one g.sl) f gj λai j S=> ?_)
 replace hB:=Zg hB j t
 replace a:=At.grownNe a y j
 replace d:=At.grownNe d z j
 replace g:=cD.grownAt g f j Dd
 replace f:=S
 replace f:At _ _ #[_,_] _:=f
 refine ct<|ZT rfl rfl rfl ?_
 exact A _ _ ((k+1,C)) Za ⟨rfl,trivial⟩ ⟨hB,a,d,(by exact f),(by (rw[←Th o];exact g)),Om,trivial⟩ (by show L.length-(k+1)<L.length-k;omega)
 refine cu<|ZT rfl rfl rfl ?_
 exact A _ _ ((k+1,v0)) Za ⟨rfl,trivial⟩ ⟨hB,a,d,(by exact f),(by (rw[←TK o];exact ho)),Om,trivial⟩ (by show L.length-(k+1)<L.length-k;omega)
 refine cR<|Zr<|Zv (cy rfl cY rfl f)<|Zy (cz rfl rfl cY rfl d rfl (by exact iB (cD.one ho)) λaj D T=> ?_)
 replace hB:=Zg hB D J
 replace ho:=cD.grownAt ho d D Dd
 replace d:=T
 refine ct<|Zt<|jr rfl cY d rfl ⟨hB,?_⟩
 exact⟨_,rfl,(by have e:k=L.length:=Om;rw[e]at ho;exact ho)⟩
theorem Ar (n:Int) (rv:Value) (vs:List Value) (L:ML) (w:World) (hrv:cD encV 1 35 w 0 rv vs) (hLO:LO 3 0 w vs L) (hr:dN n L=true) (hLb:L.length≤1000000):
    Fn Tryz.prog 183 #[.agg #[.int .i64 n,rv]] w λv w'=>∃rv' vs' L' c b,v= .tuple #[.agg #[.int .i64 n,rv'], .int .i64 c, .bool b]∧cD encV 1 35 w' 0 rv' vs'∧LO 3 0 w' vs' L'∧XO L L' c b:=by
 refine cH (n:=31) Tryz.func183 rfl rfl rfl λhB=> ?_
 have hll:=hLO.ll
 have hvl:=hll.len
 refine Zr<|Zy (dt (c:= #[_,_]) rfl rfl λu W3 S x e=> ?_)
 replace hB:=Ze hB x
 refine Zy (cI gq rfl λg W6 q y d=> ?_)
 have r:=ZO q hB
 have z:=Zn q e.lt
 obtain⟨hB,e⟩:=y.k2 hB e
 refine Zi rfl<|Zb rfl<|ct<|Zq<|Zr<|Zv (cy rfl cY rfl e)<|ZC (vs:=[.agg #[_,_]]) uv (kl n _ _ L _ ((Below.ow hB hrv)).sl (LO.mono (LO.below hB hLO) (my _)).ll hLb (λi=>an (fK hr i) Dd)) rfl λT U A B=> ?_
 obtain⟨hB,e,d⟩:=A.k3 hB e d
 obtain rfl:=B
 refine Zv (eR rfl)<|ct<|ZQ rfl (λs=> ?_) λs=> ?_
 exact absurd (kT s) (by rw[hr];decide)
 refine cu<|Zq<|Zr<|Zf rfl dO<|ZL rv rfl eB e rfl<|Zv (cT (v:=rv) rfl ((Below.ow hB hrv)).sl dF)<|ZZ rfl<|cx ?_
 refine cS (σ:=(Nat)) [3,4,6,7,15,29] (λk0=>[(15, .int .i64 (k0:Int))]) (λk0 W=>(Below w.heap.size w W)∧(At W u _ 203)∧(At W g _ 203)∧(k0≤L.length)∧(True)) (λk0=>L.length-k0) (0) ⟨rfl,trivial⟩ ⟨hB,e,d,(my _),trivial⟩ ?_
 rintro k0 V X ⟨hB,e,d,hk,_⟩ Y C
 refine Zr<|Zv (dk rfl rfl)<|ct<|Zq<|ZQ rfl (λD=> ?_) λD=> ?_
 refine cu<|Zq<|cx<|Zr<|Zv (df (v:=rv) rfl ((Below.ow hB hrv)).sl rfl dF Om Om)<|Zv (cB (v:=(vs.getD k0 undef)) rfl dV (dh.cell ((Below.ow hB hrv)).sl fS undef Om Om 0 rfl)) ?_
 have l:dh dJ 1 w ((vs.getD k0 undef)) (L.getD k0 []):=hll.get k0 (by omega)
 refine Zw (vs.getD k0 undef) rfl<|ct<|Zr<|Zw (vs.getD k0 undef) rfl<|Zv (cT (v:=(vs.getD k0 undef)) rfl (Below.slT hB l) cM)<|Zv (dW rfl rfl)<|ct<|ZQ rfl (λt=> ?_) λt=> ?_
 refine Zr<|Zw (vs.getD k0 undef) rfl<|Zv (df (j:=0) (v:=(vs.getD k0 undef)) rfl (Below.slT hB l) rfl cM Om Om)<|Zv (cB (v:= .int .i64 _) rfl cK (dh.cell (j:=0) (Below.slT hB l) dI 0 Om Om 0 rfl))<|Zy (cI wz rfl λm Z E F f=> ?_)
 have G:=ZO E hB
 obtain⟨hB,e,d⟩:=F.k3 hB e d
 refine Zy (dm (v:= .int .i64 _) rfl rfl cK rfl f Dd λaa o H=> ?_)
 replace hB:=Zg hB o G
 replace e:=At.grownAt e f o Dd
 replace d:=At.grownAt d f o Dd
 replace f:=H
 replace f:At _ _ #[_] _:=f
 refine ct<|Zd (λa b=>a.grownBy b (some g)) λI J=> ?_
 obtain⟨hB,e,d,f⟩:=J.k4 hB e d f
 have K:=d
 have hS:=World.grownBy.refl I (some g)
 refine Tk 0 rfl (λ_ hq=>cy rfl cY rfl (At.grownNe e z hq)) hS<|Tk 1 rfl (λ_ _=>fI (vs:= #[.pointer (some ⟨m,0,none⟩)]) Ga) hS<|Tk 3 rfl (λ_ hq=>cB (v:= .int .i64 _) rfl cK (At.cell (At.grownAt f K hq Dd) rfl)) hS<|To 2 rfl (TC (vs:=[.agg #[_,_], .func (.func 231) #[] #[.pointer (some ⟨m,0,none⟩)]]) Du (oP n _ vs L 231 m (λk=> !decide (((L.getD k0 []).getD 0 0)∈L.getD k [])) _ (cD.mono (Below.ow hB hrv) (my _)) (LO.mono (LO.below hB hLO) (my _)) hLb PQ (λk2 xr W h2 hB2 M=>w5 _ _ _ _ _ _ (On hB2 f) M (by have:=fK hr k2;omega))) rfl λab ac p N=>⟨.inl (cC hS (dz.grown p (some g))),?_⟩)
 have O:=(Below.size hB)
 obtain⟨hB,d⟩:=p.k2 hB d
 replace hS:=cC hS (dz.grown p (some g))
 obtain⟨rv8_2,rfl,hk8_2⟩:=N
 replace hk8_2:=cD.mono hk8_2 O
 refine To 4 rfl (cz rfl rfl cY rfl d rfl (by exact iB (cD.one hk8_2)) λad h P=>⟨.inl (cC hS h),?_⟩)
 replace hS:=cC hS h
 replace hB:=Zg hB h r
 replace hk8_2:=cD.grownAt hk8_2 d h Dd
 replace d:=P
 refine Ti 5 rfl rfl hS<|Ty 6 rfl rfl hS<|Td<|Zt<|m8 rfl cY d rfl (v1:= .int .i64 _) rfl (v2:= .bool true) rfl ⟨hB,?_⟩
 exact⟨_,_,_,_,_,rfl,cD.mono hk8_2 (my _),LO.below hB (acr hLO (λk=> !decide (((L.getD k0 []).getD 0 0)∈L.getD k [])) _ (am _)),Y4 (k:=k0) (by omega) t rfl⟩
 refine cu<|ZT rfl rfl rfl ?_
 exact C _ _ (k0+1) Za ⟨rfl,trivial⟩ ⟨hB,e,d,Om,trivial⟩ Zo
 refine cR<|Zr<|Zv (cy rfl cY rfl e)<|Zy (cz rfl rfl cY rfl d rfl (by exact iB (cD.one hrv)) λae Q R=> ?_)
 replace hB:=Zg hB Q r
 replace d:=R
 refine Zi rfl<|Zb rfl<|ct<|Zt<|m8 rfl cY d rfl (v1:= .int .i64 0) rfl (v2:= .bool false) rfl ⟨hB,?_⟩
 exact⟨_,_,_,_,_,rfl,Below.ow hB hrv,LO.below hB hLO,YN L⟩
theorem Ao (n:Int) (rv:Value) (vs:List Value) (L:ML) (w:World) (hrv:cD encV 1 35 w 0 rv vs) (hLO:LO 3 0 w vs L) (hr:dN n L=true) (hLb:L.length≤1000000):
    Fn Tryz.prog 185 #[.agg #[.int .i64 n,rv]] w λv w'=>∃rv' vs' L' b,v= .tuple #[.agg #[.int .i64 n,rv'], .bool b]∧cD encV 1 35 w' 0 rv' vs'∧LO 3 0 w' vs' L'∧Wr L L' b:=by
 refine cH (n:=54) Tryz.func185 rfl rfl rfl λhB=> ?_
 have hll:=hLO.ll
 have hvl:=hll.len
 refine Zr<|Zy (dt (c:= #[_,_]) rfl rfl λp W3 aa y d=> ?_)
 replace hB:=Ze hB y
 refine Zy (cI gq rfl λq W6 z A a=> ?_)
 have g:=ZO z hB
 obtain⟨hB,d⟩:=A.k2 hB d
 refine Zb rfl<|ct<|Zq<|Zr<|Zv (cy rfl cY rfl d)<|ZC (vs:=[.agg #[_,_]]) uv (kl n _ _ L _ ((Below.ow hB hrv)).sl (LO.mono (LO.below hB hLO) (my _)).ll hLb (λi=>an (fK hr i) Dd)) rfl λab ac B C=> ?_
 obtain⟨hB,d,a⟩:=B.k3 hB d a
 obtain rfl:=C
 refine Zv (eR rfl)<|ct<|ZQ rfl (λr=> ?_) λr=> ?_
 exact absurd (kT r) (by rw[hr];decide)
 refine cu<|Zq<|Zr<|Zf rfl dO<|ZL rv rfl eB d rfl<|Zv (cT (v:=rv) rfl ((Below.ow hB hrv)).sl dF)<|ZZ rfl<|cx ?_
 refine cS (σ:=(Nat)) [3,7,15,52] (λi=>[(15, .int .i64 (i:Int))]) (λi W=>(Below w.heap.size w W)∧(At W p _ 203)∧(At W q _ 203)∧(i≤L.length)∧(True)) (λi=>L.length-i) (0) ⟨rfl,trivial⟩ ⟨hB,d,a,(my _),trivial⟩ ?_
 rintro i ad ae ⟨hB,d,a,hi,_⟩ af D
 refine Zr<|Zv (dk rfl rfl)<|ct<|Zq<|ZQ rfl (λE=> ?_) λE=> ?_
 refine cu<|Zq<|cx<|Zr<|Zi rfl<|Zv (df (v:=rv) rfl ((Below.ow hB hrv)).sl rfl dF Om Om)<|Zv (cB (v:=(vs.getD i undef)) rfl dV (dh.cell ((Below.ow hB hrv)).sl fS undef Om Om 0 rfl)) ?_
 have s:dh dJ 1 w ((vs.getD i undef)) (L.getD i []):=hll.get i (by omega)
 refine Zy (cI wz rfl λf ag F G e=> ?_)
 have H:=ZO F hB
 obtain⟨hB,d,a⟩:=G.k3 hB d a
 refine Zy (dm (v:= .int .i64 _) rfl rfl cK rfl e Dd λah h I=> ?_)
 replace hB:=Zg hB h H
 replace d:=At.grownAt d e h Dd
 replace a:=At.grownAt a e h Dd
 replace e:=I
 replace e:At _ _ #[_] _:=e
 refine Zw (vs.getD i undef) rfl<|ct<|Zr<|Zf rfl dO<|ZL rv rfl eB d rfl<|Zv (cT (v:=rv) rfl ((Below.ow hB hrv)).sl dF)<|ZZ rfl<|cx ?_
 refine cS (σ:=(Nat)) [3,3,6,7,23,51] (λk=>[(23, .int .i64 (k:Int))]) (λk W=>(Below w.heap.size w W)∧(At W p _ 203)∧(At W q _ 203)∧(At W f _ 3)∧(k≤L.length)∧(True)) (λk=>L.length-k) (0) ⟨rfl,trivial⟩ ⟨hB,d,a,e,(my _),trivial⟩ ?_
 rintro k ai aj ⟨hB,d,a,e,hk,_⟩ ak j
 refine Zr<|Zv (dk rfl rfl)<|ct<|Zq<|ZQ rfl (λJ=> ?_) λJ=> ?_
 refine cu<|Zq<|cx<|Zr<|Zi rfl<|Zv (df (v:=rv) rfl ((Below.ow hB hrv)).sl rfl dF Om Om)<|Zv (cB (v:=(vs.getD k undef)) rfl dV (dh.cell ((Below.ow hB hrv)).sl fS undef Om Om 0 rfl)) ?_
 have t:dh dJ 1 w ((vs.getD k undef)) (L.getD k []):=hll.get k (by omega)
 refine Zi rfl<|Zw (vs.getD k undef) rfl<|ct<|Zr<|Zi rfl<|Zl rfl cK e rfl<|Zv (ep rfl rfl)<|ZX rfl (λl=> ?_) λl=> ?_
 refine Zw (vs.getD k undef) rfl<|Zw (vs.getD i undef) rfl<|ZC JY (qh _ _ _ _ _ (Below.slT hB t) (Below.slT hB s) (by have:=fK hr k;omega) (by have:=fK hr i;omega)) rfl λal ao K M=> ?_
 obtain⟨hB,d,a,e⟩:=K.k4 hB d a e
 obtain rfl:=M
 refine Zb rfl<|ZX rfl (λm=> ?_) λm=> ?_
 refine Zw (vs.getD k undef) rfl<|Zv (cT (v:=(vs.getD k undef)) rfl (Below.slT hB t) cM)<|Zw (vs.getD i undef) rfl<|Zv (cT (v:=(vs.getD i undef)) rfl (Below.slT hB s) cM)<|Zv (dk rfl rfl)<|ZX rfl (λN=> ?_) λN=> ?_
 refine Zs<|Zs<|Zs<|Zb rfl<|Zb rfl<|ct<|cF rfl<|Zr<|Zv (cy rfl cY rfl d)<|Zv (fI (vs:= #[.pointer (some ⟨f,0,none⟩)]) Ga)<|ZC (vs:=[.agg #[_,_], .func (.func 234) #[] #[.pointer (some ⟨f,0,none⟩)]]) Du (oP n _ vs L 234 f (λk=>decide (¬(k:Int)=(i:Int))) _ (cD.mono (Below.ow hB hrv) (my _)) (LO.mono (LO.below hB hLO) (my _)) hLb JW (λk2 xr W h2 hB2 O=>qe _ _ _ _ _ (On hB2 e))) rfl λP ap Q o=> ?_
 have R:=(Below.size hB)
 obtain⟨hB,a⟩:=Q.k2 hB a
 obtain⟨rv10_2,rfl,hk10_2⟩:=o
 replace hk10_2:=cD.mono hk10_2 R
 refine Zy (cz rfl rfl cY rfl a rfl (by exact iB (cD.one hk10_2)) λaq u S=> ?_)
 replace hB:=Zg hB u g
 replace hk10_2:=cD.grownAt hk10_2 a u Dd
 replace a:=S
 refine Zb rfl<|ct<|Zt<|eI rfl cY a rfl (v1:= .bool true) rfl ⟨hB,?_⟩
 exact⟨_,_,_,_,rfl,cD.mono hk10_2 (my _),LO.below hB (acr hLO (λk=>decide (¬(k:Int)=(i:Int))) _ (am _)),Jn (i:=i) (k:=k) (by omega) (by omega) l m⟩
 refine Zi rfl<|Zl rfl cK e rfl<|Zv (dk rfl rfl)<|Zb rfl<|Zb rfl<|ct<|ZQ rfl (λT=> ?_) λT=> ?_
 refine Zr<|Zv (cy rfl cY rfl d)<|Zv (fI (vs:= #[.pointer (some ⟨f,0,none⟩)]) Ga)<|ZC (vs:=[.agg #[_,_], .func (.func 234) #[] #[.pointer (some ⟨f,0,none⟩)]]) Du (oP n _ vs L 234 f (λk=>decide (¬(k:Int)=(i:Int))) _ (cD.mono (Below.ow hB hrv) (my _)) (LO.mono (LO.below hB hLO) (my _)) hLb JW (λk2 xr W h2 hB2 O=>qe _ _ _ _ _ (On hB2 e))) rfl λP ar U o=> ?_
 have V:=(Below.size hB)
 obtain⟨hB,a⟩:=U.k2 hB a
 obtain⟨rv10_2,rfl,hk10_2⟩:=o
 replace hk10_2:=cD.mono hk10_2 V
 refine Zy (cz rfl rfl cY rfl a rfl (by exact iB (cD.one hk10_2)) λau x X=> ?_)
 replace hB:=Zg hB x g
 replace hk10_2:=cD.grownAt hk10_2 a x Dd
 replace a:=X
 refine Zb rfl<|ct<|Zt<|eI rfl cY a rfl (v1:= .bool true) rfl ⟨hB,?_⟩
 exact⟨_,_,_,_,rfl,cD.mono hk10_2 (my _),LO.below hB (acr hLO (λk=>decide (¬(k:Int)=(i:Int))) _ (am _)),Jn (i:=i) (k:=k) (by omega) (by omega) l m⟩
 refine cu<|ZT rfl rfl rfl ?_
 exact j _ _ (k+1) Za ⟨rfl,trivial⟩ ⟨hB,d,a,e,Om,trivial⟩ Zo
 refine Zs<|Zs<|Zs<|Zs<|Zs<|Zs<|Zs<|Zs<|Zs<|Zs<|Zb rfl<|ct<|dA rfl<|cu ?_
 refine ZT rfl rfl rfl ?_
 exact j _ _ (k+1) Za ⟨rfl,trivial⟩ ⟨hB,d,a,e,Om,trivial⟩ Zo
 refine Zs<|Zs<|Zs<|Zb rfl<|Zb rfl<|Zs<|Zs<|Zs<|Zs<|Zs<|Zs<|Zs<|Zs<|Zs ?_
 refine Zs<|Zb rfl<|ct<|dA rfl<|cu<|ZT rfl rfl rfl ?_
 exact j _ _ (k+1) Za ⟨rfl,trivial⟩ ⟨hB,d,a,e,Om,trivial⟩ Zo
 refine cR<|ZT rfl rfl rfl ?_
 exact D _ _ (i+1) Za ⟨rfl,trivial⟩ ⟨hB,d,a,Om,trivial⟩ Zo
 refine cR<|Zr<|Zv (cy rfl cY rfl d)<|Zy (cz rfl rfl cY rfl a rfl (by exact iB (cD.one hrv)) λav Y Z=> ?_)
 replace hB:=Zg hB Y g
 replace a:=Z
 refine Zb rfl<|ct<|Zt<|eI rfl cY a rfl (v1:= .bool false) rfl ⟨hB,?_⟩
 exact⟨_,_,_,_,rfl,Below.ow hB hrv,LO.below hB hLO,XW L⟩
end
section
open Go Go.RowKit
theorem mu:mU Tryz.prog 295=some (3,35):=by kernel_rfl
theorem gT:qc Tryz.prog 3 (λv=>∃a:Int,v=eH a):=by
  refine pd Tryz.underlying3 ?_ ?_ ?_ ?_
  · rintro w _ _ ⟨a,rfl⟩ ⟨c,rfl⟩
    refine⟨a==c,?_,by simp[eH]⟩
    simp[Op.equal,eH]
    exact run_equalIn_int w 9999 3 .i64 .i64 a c Tryz.underlying3
  · rintro _ _ ⟨a,rfl⟩ ⟨c,rfl⟩
    exact .inr ⟨a==c,by simp[Instr.sameNow,eH],by simp[eH]⟩
  · rintro w em _ ⟨a,rfl⟩
    have h2:∀k,(Instr.checkKey em (k+1) 3 (eH a)).run Tryz.prog w= .ok () w:=λk=>by
      simp[eH,Instr.checkKey,run_underlying Tryz.underlying3]
    exact h2 9999
  · rintro _ ⟨a,rfl⟩
    simp[eH,Instr.sameBits]
theorem tJ:dT Tryz.prog 35=some (.slice none 0 0):=by kernel_rfl
set_option maxHeartbeats 2000000 in
theorem vB (n:Int) (rv:Value) (vs:List Value) (L:ML) (w:World) (hrv:cD encV 1 35 w 0 rv vs) (hLO:LO 3 0 w vs L) (hr:dN n L=true) (hLb:L.length≤1000000):
    Fn Tryz.prog 187 #[.agg #[.int .i64 n,rv]] w λv w'=>∃rv' vs' L' b,v= .tuple #[.agg #[.int .i64 n,rv'], .bool b]∧cD encV 1 35 w' 0 rv' vs'∧LO 3 0 w' vs' L'∧Wr L L' b:=by
 refine cH (n:=135) Tryz.func187 rfl rfl rfl λhB=> ?_
 have hll:=hLO.ll
 have hvl:=hll.len
 refine Zr<|Zy (dt (c:= #[_,_]) rfl rfl λo W3 a0 aj d=> ?_)
 replace hB:=Ze hB aj
 refine Zy (cI gq rfl λp W6 ak al f=> ?_)
 have U:=ZO ak hB
 obtain⟨hB,d⟩:=al.k2 hB d
 refine Zb rfl<|ct<|Zq<|Zr<|Zv (cy rfl cY rfl d)<|ZC (vs:=[.agg #[_,_]]) uv (kl n _ _ L _ ((Below.ow hB hrv)).sl (LO.mono (LO.below hB hLO) (my _)).ll hLb (λi=>an (fK hr i) Dd)) rfl λa1 a2 ao ap=> ?_
 obtain⟨hB,d,f⟩:=ao.k3 hB d f
 obtain rfl:=ap
 refine Zv (eR rfl)<|ct<|ZQ rfl (λV=> ?_) λV=> ?_
 exact absurd (kT V) (by rw[hr];decide)
 refine cu<|Zr<|Zy (gQ (enc:=eH) (encV:=id) λm a3 aq ar au=> ?_)
 have av:=ZO aq hB
 obtain⟨hB,d,f⟩:=ar.k3 hB d f
 refine Zw (.map (some m)) rfl<|ct<|Zq<|Zr<|Zf rfl dO<|ZL rv rfl eB d rfl<|Zv (cT (v:=rv) rfl ((Below.ow hB hrv)).sl dF)<|ZZ rfl<|cx ?_
 refine cS (σ:=(Nat)×(List (Int×Value))) [5,6,8,8,26,46] (λ(i,l)=>[(26, .int .i64 (i:Int))]) (λsg W=>match sg with|(i,l)=>(Below w.heap.size w W)∧(At W o _ 203)∧(At W p _ 203)∧(du eH id W m l)∧(MO 3 w.heap.size W l (pc L i))∧(i≤L.length)∧(True)) (λ(i,l)=>L.length-i) ((0,[])) ⟨rfl,trivial⟩ ⟨hB,d,f,au,MO.nil,(my _),trivial⟩ ?_
 rintro⟨i,l⟩ a4 a5 ⟨hB,d,f,hmw,hmo,hi,_⟩ a6 aw
 refine Zr<|Zv (dk rfl rfl)<|ct<|Zq<|ZQ rfl (λax=> ?_) λax=> ?_
 refine cu<|Zq<|cx<|Zr<|Zi rfl<|Zv (df (v:=rv) rfl ((Below.ow hB hrv)).sl rfl dF Om Om)<|Zv (cB (v:=(vs.getD i undef)) rfl dV (dh.cell ((Below.ow hB hrv)).sl fS undef Om Om 0 rfl)) ?_
 have D:dh dJ 1 w ((vs.getD i undef)) (L.getD i []):=hll.get i (by omega)
 refine Zi rfl<|Zw (vs.getD i undef) rfl<|ct<|Zr<|Zw (vs.getD i undef) rfl<|Zv (cT (v:=(vs.getD i undef)) rfl (Below.slT hB D) cM)<|ZZ rfl<|cx ?_
 refine cS (σ:=(Nat)×(List (Int×Value))) [8,8,33,45] (λ(j,l2)=>[(33, .int .i64 (j:Int))]) (λsg W=>match sg with|(j,l2)=>(Below w.heap.size w W)∧(At W o _ 203)∧(At W p _ 203)∧(du eH id W m l2)∧(MO 3 w.heap.size W l2 (TQ (L.getD i []) i (pc L i) j))∧(j≤(L.getD i []).length)∧(True)) (λ(j,l2)=>(L.getD i []).length-j) ((0,l)) ⟨rfl,trivial⟩ ⟨hB,d,f,hmw,hmo,(my _),trivial⟩ ?_
 rintro⟨j,l2⟩ a7 a8 ⟨hB,d,f,hmw2,hmo2,hj,_⟩ a9 ay
 refine Zr<|Zv (dk rfl rfl)<|ct<|Zq<|ZQ rfl (λaz=> ?_) λaz=> ?_
 refine cu<|Zq<|cx<|Zr<|Zv (df (v:=(vs.getD i undef)) rfl (Below.slT hB D) rfl cM Om Om)<|Zv (cB (v:= .int .i64 _) rfl cK (dh.cell (Below.slT hB D) dI 0 Om Om 0 rfl))<|ZZ rfl ?_
 have hov:=MO.get hmo2 ((L.getD i []).getD j 0)
 have hwl1:=Dj (r:=L.getD i []) (i:=i) (g:=pc L i) (c:=((L.getD i []).getD j 0)) j
 have hwl2:=xX (c:=((L.getD i []).getD j 0)) (fK hr) i
 have hwl3:=fK hr i
 refine cN<|Zw (.map (some m)) rfl<|Zi rfl<|Zw (.map (some m)) rfl<|Zi rfl<|Zv (fV (enc:=eH) (encV:=id) (v0:= .slice none 0 0) (k:=((L.getD i []).getD j 0)) rfl rfl mu gT (λa=>⟨a,rfl⟩) fU tJ rfl hmw2)<|Zi rfl<|Zy (eK (u:= .int .i64 _) rfl cM eQ rfl Dd Dd λaA ba bb E aB=> ?_)
 obtain⟨hB,d,f,hmw2⟩:=E.k4 hB d f hmw2
 replace hmo2:=MO.ext E hmo2
 replace hov:=E.ow hov
 refine Zy (i6 (v:=(Lz l2 ((L.getD i []).getD j 0))) (v2:= .slice (some ⟨aA,0,none⟩) 1 1) rfl rfl cM eQ Dd hov (eT aB rfl) rfl (n4 hB) (by omega) (by omega) λX bc z F aC=> ?_)
 replace F:=cD.snoc (enc:=dJ) (x:=(i:Int)) rfl rfl rfl rfl F
 replace hB:=ZG hB z hov
 replace d:=At.grownOw d hov z Dd
 replace f:=At.grownOw f hov z Dd
 replace hmw2:=du.grownOw hmw2 hov z
 replace hmo2:=MO.app hmo2 z aC F
 refine gK (dd:=none) rfl rfl rfl (fJ (enc:=eH) (encV:=id) (k:=((L.getD i []).getD j 0)) (v:=X) rfl rfl rfl mu gT (λa=>⟨a,rfl⟩) fU hmw2 (λbd B aD=> ?_))
 replace hB:=Zg hB B av
 replace d:=At.grownMap d hmw2 B
 replace f:=At.grownMap f hmw2 B
 replace hmo2:=MO.grownMap hmo2 hmw2 B
 replace hmw2:=aD
 refine ct<|ZT rfl rfl rfl ?_
 exact ay _ _ ((j+1,iz l2 ((L.getD i []).getD j 0) X)) Za ⟨rfl,trivial⟩ ⟨hB,d,f,(by exact hmw2),hmo2,Om,trivial⟩ (by show (L.getD i []).length-(j+1)<(L.getD i []).length-j;omega)
 refine cR<|ZT rfl rfl rfl ?_
 obtain rfl:j=(L.getD i []).length:=by omega
 exact aw _ _ ((i+1,l2)) Za ⟨rfl,trivial⟩ ⟨hB,d,f,(by exact hmw2),hmo2,Om,trivial⟩ (by show L.length-(i+1)<L.length-i;omega)
 refine cR<|Zq ?_
 obtain rfl:i=L.length:=by omega
 have hn0:=(fm.1 hr).1
 have hn4:=(fm.1 hr).2.1
 refine Zr<|Zf rfl iv<|Zl rfl cK d rfl<|ZZ rfl<|cx ?_
 refine cS (σ:=(Nat)) [3,3,9,9,11,12,14,15,17,17,49,133] (λcc=>[(49, .int .i64 (cc:Int))]) (λcc W=>(Below w.heap.size w W)∧(At W o _ 203)∧(At W p _ 203)∧(du eH id W m _)∧(MO 3 w.heap.size W l (pc L L.length))∧((cc:Int)≤n)∧(True)) (λcc=>n.toNat-cc) (0) ⟨rfl,trivial⟩ ⟨hB,d,f,hmw,hmo,Om,trivial⟩ ?_
 rintro cc bf bg ⟨hB,d,f,hmw,hmo,hcc,_⟩ bh Y
 refine Zr<|Zv (dk rfl rfl)<|ct<|Zq<|ZQ rfl (λaE=> ?_) λaE=> ?_
 refine cu<|Zq<|cx<|Zr<|Zi rfl<|ZZ rfl<|Zq ?_
 have hw16:=MO.get hmo (cc:Int)
 refine Zr<|Zw (.map (some m)) rfl<|Zi rfl<|Zv (fV (enc:=eH) (encV:=id) (v0:= .slice none 0 0) (k:=(cc:Int)) rfl rfl mu gT (λa=>⟨a,rfl⟩) fU tJ rfl hmw)<|Zv (cT (v:=(Lz l (cc:Int))) rfl hw16.sl cM)<|Zv (dW rfl rfl)<|ct<|ZQ rfl (λZ=> ?_) λZ=> ?_
 refine cR<|ZT rfl rfl rfl ?_
 exact Y _ _ (cc+1) Za ⟨rfl,trivial⟩ ⟨hB,d,f,hmw,hmo,Om,trivial⟩ Zo
 refine cu ?_
 have hlim:0≤(pc L L.length (cc:Int)).getD (0:Int).toNat 0∧(pc L L.length (cc:Int)).getD (0:Int).toNat 0<L.length∧(cc:Int)∈L.getD ((pc L L.length (cc:Int)).getD (0:Int).toNat 0).toNat []:=IO (q:=0) (by omega)
 have hl0:=fK hr ((pc L L.length (cc:Int)).getD (0:Int).toNat 0).toNat
 refine Zd dz λaF G=> ?_
 obtain⟨hB,d,f,hmw⟩:=G.k4 hB d f hmw
 replace hmo:=MO.ext G hmo
 replace hw16:=G.ow hw16
 have hS:=dz.refl aF
 refine Tf 0 rfl rfl dO hS<|Tk 1 rfl (λ_ hq=>cB (v:=rv) rfl eB (At.cell (hq.at d) rfl)) hS<|Tw 2 (.map (some m)) rfl rfl hS<|Ti 3 rfl rfl hS<|Tk 4 rfl (λ_ hq=>fV (enc:=eH) (encV:=id) (v0:= .slice none 0 0) (k:=(cc:Int)) rfl rfl mu gT (λa=>⟨a,rfl⟩) fU tJ rfl (hq.mapT hmw)) hS<|Tk 5 rfl (λ_ hq=>df (j:=0) (v:=(Lz l (cc:Int))) rfl ((hq.ow hw16)).sl rfl cM Om Om) hS<|Tk 6 rfl (λ_ hq=>cB (v:= .int .i64 _) rfl cK (dh.cell (j:=0) ((hq.ow hw16)).sl dI 0 Om Om 0 rfl)) hS<|Tk 7 rfl (λ_ hq=>df (v:=rv) rfl ((hq.ow (Below.ow hB hrv))).sl rfl dF Om Om) hS<|Tk 8 rfl (λ_ hq=>cB (v:=(vs.getD ((pc L L.length (cc:Int)).getD (0:Int).toNat 0).toNat undef)) rfl dV (dh.cell ((hq.ow (Below.ow hB hrv))).sl fS undef Om Om 0 rfl)) hS ?_
 have C:dh dJ 1 w ((vs.getD ((pc L L.length (cc:Int)).getD (0:Int).toNat 0).toNat undef)) (L.getD ((pc L L.length (cc:Int)).getD (0:Int).toNat 0).toNat []):=hll.get _ (by omega)
 refine Tk 9 rfl (λ_ hq=>cT (v:=(vs.getD ((pc L L.length (cc:Int)).getD (0:Int).toNat 0).toNat undef)) rfl (hq.slT (Below.slT hB C)) cM) hS<|Ti 10 rfl rfl hS<|Td<|cx ?_
 refine cS (σ:=(Nat)) [3,3,11,12,14,15,17,17,67,132] (λq=>[(67, .int .i64 (q:Int))]) (λq W=>(Below w.heap.size w W)∧(At W o _ 203)∧(At W p _ 203)∧(du eH id W m _)∧(MO 3 w.heap.size W l (pc L L.length))∧(cD dJ 1 3 W w.heap.size (Lz l (cc:Int)) _)∧(q≤(L.getD ((pc L L.length (cc:Int)).getD (0:Int).toNat 0).toNat []).length)∧(True)) (λq=>(L.getD ((pc L L.length (cc:Int)).getD (0:Int).toNat 0).toNat []).length-q) (0) ⟨rfl,trivial⟩ ⟨hB,d,f,hmw,hmo,hw16,(my _),trivial⟩ ?_
 rintro q bi bj ⟨hB,d,f,hmw,hmo,hw16,hq,_⟩ bk H
 refine Zr<|Zv (dk rfl rfl)<|ct<|Zq<|ZQ rfl (λaG=> ?_) λaG=> ?_
 refine cu<|Zq<|cx<|Zr<|Zv (df (v:=(vs.getD ((pc L L.length (cc:Int)).getD (0:Int).toNat 0).toNat undef)) rfl (Below.slT hB C) rfl cM Om Om)<|Zv (cB (v:= .int .i64 _) rfl cK (dh.cell (Below.slT hB C) dI 0 Om Om 0 rfl))<|ZZ rfl ?_
 refine rN (σ:=(Unit)) [71,99] (λu_=>[]) (λW=>(Below w.heap.size w W)∧(At W o _ 203)∧(At W p _ 203)∧(True)) ⟨hB,d,f,trivial⟩ (λu_ W=>(¬((L.getD ((pc L L.length (cc:Int)).getD (0:Int).toNat 0).toNat []).getD q 0)=(cc:Int))∧(Dk (pc L L.length (cc:Int)) (pc L L.length ((L.getD ((pc L L.length (cc:Int)).getD (0:Int).toNat 0).toNat []).getD q 0))=true)∧(True)) (λbl aa=> ?_) ?_
 have hw20:=MO.get hmo ((L.getD ((pc L L.length (cc:Int)).getD (0:Int).toNat 0).toNat []).getD q 0)
 refine Zr<|Zi rfl<|Zi rfl<|Zv (dW rfl rfl)<|ZX rfl (λI=> ?_) λI=> ?_
 refine Zs<|Zs<|Zs<|Zs<|Zs<|Zs<|Zs<|Zs<|Zb rfl<|Zb rfl<|Zs<|Zs<|Zs<|Zs ?_
 refine Zs<|Zs<|Zs<|Zs<|Zs<|Zs<|Zs<|Zs<|Zs<|Zs<|Zb rfl<|ct<|cF rfl<|cR ?_
 refine ZT rfl rfl rfl ?_
 exact H _ _ (q+1) Za ⟨rfl,trivial⟩ ⟨hB,d,f,hmw,hmo,hw16,Om,trivial⟩ Zo
 refine Zw (.map (some m)) rfl<|Zi rfl<|Zv (fV (enc:=eH) (encV:=id) (v0:= .slice none 0 0) (k:=(cc:Int)) rfl rfl mu gT (λa=>⟨a,rfl⟩) fU tJ rfl hmw)<|Zw (.map (some m)) rfl<|Zi rfl<|Zv (fV (enc:=eH) (encV:=id) (v0:= .slice none 0 0) (k:=((L.getD ((pc L L.length (cc:Int)).getD (0:Int).toNat 0).toNat []).getD q 0)) rfl rfl mu gT (λa=>⟨a,rfl⟩) fU tJ rfl hmw)<|ZC JY (qh _ _ _ _ _ hw16.sl hw20.sl (by have:=xX (c:=(cc:Int)) (fK hr) L.length;omega) (by have:=xX (c:=((L.getD ((pc L L.length (cc:Int)).getD (0:Int).toNat 0).toNat []).getD q 0)) (fK hr) L.length;omega)) rfl λbm bn J aH=> ?_
 obtain⟨hB,d,f,hmw⟩:=J.k4 hB d f hmw
 replace hmo:=MO.ext J hmo
 obtain⟨hw16,hw20⟩:=J.k2 hw16 hw20
 obtain rfl:=aH
 refine Zv (eR rfl)<|Zb rfl<|ZX rfl (λK=> ?_) λK=> ?_
 refine Zs<|Zs<|Zs<|Zs<|Zs<|Zs<|Zs<|Zs<|Zs<|Zs<|Zs<|Zs<|Zs<|Zs ?_
 refine Zb rfl<|ct<|cF rfl<|cR<|ZT rfl rfl rfl ?_
 exact H _ _ (q+1) Za ⟨rfl,trivial⟩ ⟨hB,d,f,hmw,hmo,hw16,Om,trivial⟩ Zo
 refine Zw (.map (some m)) rfl<|Zi rfl<|Zv (fV (enc:=eH) (encV:=id) (v0:= .slice none 0 0) (k:=((L.getD ((pc L L.length (cc:Int)).getD (0:Int).toNat 0).toNat []).getD q 0)) rfl rfl mu gT (λa=>⟨a,rfl⟩) fU tJ rfl hmw)<|Zv (cT (v:=(Lz l ((L.getD ((pc L L.length (cc:Int)).getD (0:Int).toNat 0).toNat []).getD q 0))) rfl hw20.sl cM)<|Zw (.map (some m)) rfl<|Zi rfl<|Zv (fV (enc:=eH) (encV:=id) (v0:= .slice none 0 0) (k:=(cc:Int)) rfl rfl mu gT (λa=>⟨a,rfl⟩) fU tJ rfl hmw)<|Zv (cT (v:=(Lz l (cc:Int))) rfl hw16.sl cM)<|Zv (dW rfl rfl)<|ZX rfl (λaI=> ?_) λaI=> ?_
 refine Zi rfl<|Zi rfl<|Zv (il rfl rfl)<|Zb rfl<|Zb rfl<|ct<|ZQ rfl (λaJ=> ?_) λaJ=> ?_
 refine cR<|ZT rfl rfl rfl ?_
 exact H _ _ (q+1) Za ⟨rfl,trivial⟩ ⟨hB,d,f,hmw,hmo,hw16,Om,trivial⟩ Zo
 refine cu ?_
 refine aa _ _ (()) ?_ ?_ ?_ ?_
 · repeat (first|exact dB.mask _ _ _|exact dB.refl _ _|refine abG ?_ rfl _|refine aby ?_ _ rfl|refine abk rfl ?_)
 · exact trivial
 · exact⟨hB,d,f,trivial⟩
 · exact⟨I,(ms K),trivial⟩
 refine Zs<|Zs<|Zs<|Zb rfl<|Zb rfl<|ct<|dA rfl<|cu ?_
 refine aa _ _ (()) ?_ ?_ ?_ ?_
 · repeat (first|exact dB.mask _ _ _|exact dB.refl _ _|refine abG ?_ rfl _|refine aby ?_ _ rfl|refine abk rfl ?_)
 · exact trivial
 · exact⟨hB,d,f,trivial⟩
 · exact⟨I,(ms K),trivial⟩
 rintro u_ bo bp ⟨hB,d,f,_⟩ ⟨hdc,hwt,_⟩
 refine Zr<|Zf rfl iv<|Zl rfl cK d rfl<|Zv (kd (h0:=rfl) (k0:=rfl) (c0_0:= .int .i64 _))<|Zy (cI gq rfl λaK bq M aL h=> ?_)
 have ab:=ZO M hB
 have ac:=Zn M d.lt
 have ad:=Zn M f.lt
 obtain⟨hB,d,f⟩:=aL.k3 hB d f
 refine Zy (cz rfl rfl cY rfl h rfl rfl λbr N aM=> ?_)
 replace hB:=Zg hB N ab
 replace d:=At.grownNe d ac N
 replace f:=At.grownNe f ad N
 replace h:=aM
 refine ct<|Zq<|Zr<|Zf rfl dO<|ZL rv rfl eB d rfl<|Zv (cT (v:=rv) rfl ((Below.ow hB hrv)).sl dF)<|ZZ rfl<|cx ?_
 refine cS (σ:=(Nat)×(Value)×(List Value)) [14,15,17,17,106,130] (λ(k,v0,vn)=>[(106, .int .i64 (k:Int))]) (λsg W=>match sg with|(k,v0,vn)=>(Below w.heap.size w W)∧(At W o _ 203)∧(At W p _ 203)∧(At W aK #[.int .i64 n,v0] 203)∧(cD encV 1 35 W w.heap.size v0 (vn))∧(LO 3 w.heap.size W vn (pM (L.take k) (cc:Int)))∧(k≤L.length)∧(True)) (λ(k,v0,vn)=>L.length-k) ((0, .slice none 0 0,[])) ⟨rfl,trivial⟩ ⟨hB,d,f,h,cD.nil,LO.nil,(my _),trivial⟩ ?_
 rintro⟨k,v0,vn⟩ bs A ⟨hB,d,f,h,ho,hlo,hk,_⟩ bt aN
 refine Zr<|Zv (dk rfl rfl)<|ct<|Zq<|ZQ rfl (λaO=> ?_) λaO=> ?_
 refine cu<|Zq<|cx<|Zr<|Zv (df (v:=rv) rfl ((Below.ow hB hrv)).sl rfl dF Om Om)<|Zv (cB (v:=(vs.getD k undef)) rfl dV (dh.cell ((Below.ow hB hrv)).sl fS undef Om Om 0 rfl)) ?_
 have aP:dh dJ 1 w ((vs.getD k undef)) (L.getD k []):=hll.get k (by omega)
 refine Zw (vs.getD k undef) rfl<|ct ?_
 have bu:=Below.ow hB hrv
 have bv:=LO.below hB hLO
 have bw:=Below.slT hB C
 have O:=Below.slT hB aP
 have ae:=hB
 replace hB:=Below.refl A.heap.size A
 refine Zr<|Zw (.slice none 0 0) rfl<|ct<|Zq<|Zr<|Zw (vs.getD k undef) rfl<|Zv (cT (v:=(vs.getD k undef)) rfl (Below.slT hB O) cM)<|ZZ rfl<|cx ?_
 refine cS (σ:=(Nat)×(Value)) [15,15,17,17,112,123] (λ(j,v1)=>[(112, .int .i64 (j:Int)),(15,v1)]) (λsg W=>match sg with|(j,v1)=>(Below A.heap.size A W)∧(cD dJ 1 3 W A.heap.size v1 (Br ((L.getD k []).take j) (cc:Int)))∧(j≤(L.getD k []).length)∧(True)) (λ(j,v1)=>(L.getD k []).length-j) ((0, .slice none 0 0)) ⟨rfl,rfl,trivial⟩ ⟨hB,cD.nil,(my _),trivial⟩ ?_
 rintro⟨j,v1⟩ bx bz ⟨hB,hrst,hj,_⟩ bA af
 refine Zr<|Zv (dk rfl rfl)<|ct<|Zq<|ZQ rfl (λaQ=> ?_) λaQ=> ?_
 refine cu<|Zq<|cx ?_
 have hrl:=IH (L.getD k []) (cc:Int) j
 have hr4:=fK hr k
 refine Zr<|Zv (df (v:=(vs.getD k undef)) rfl (Below.slT hB O) rfl cM Om Om)<|Zv (cB (v:= .int .i64 _) rfl cK (dh.cell (Below.slT hB O) dI 0 Om Om 0 rfl))<|ZZ rfl<|Zr<|Zi rfl<|Zi rfl<|Zv (ep rfl rfl)<|ct<|ZQ rfl (λP=> ?_) λP=> ?_
 refine cN<|Zw v1 rfl<|Zi rfl<|Zy (eK (u:= .int .i64 _) rfl cM eQ rfl Dd Dd λaR bB bC aS aT=> ?_)
 obtain⟨hB,hrst⟩:=aS.k2 hB hrst
 refine Zy (dZ (v:=v1) (v2:= .slice (some ⟨aR,0,none⟩) 1 1) rfl rfl cM eQ Dd hrst (eT aT rfl) rfl (n4 hB) (by omega) (by omega) λag bD aU Q=> ?_)
 replace Q:=cD.snoc (enc:=dJ) (x:=_) rfl rfl rfl rfl Q
 replace hB:=ZG hB aU hrst
 refine Zw ag rfl<|ct<|ZT rfl rfl rfl ?_
 exact af _ _ ((j+1,ag)) Za ⟨rfl,rfl,trivial⟩ ⟨hB,(by (rw[←SY (k:=j) Om P];exact Q)),Om,trivial⟩ (by show (L.getD k []).length-(j+1)<(L.getD k []).length-j;omega)
 refine cu<|ZT rfl rfl rfl ?_
 exact af _ _ ((j+1,v1)) Za ⟨rfl,rfl,trivial⟩ ⟨hB,(by (rw[←TL (k:=j) Om (aaa P)];exact hrst)),Om,trivial⟩ (by show (L.getD k []).length-(j+1)<(L.getD k []).length-j;omega)
 refine cR ?_
 replace d:=On hB d
 replace f:=On hB f
 replace h:=On hB h
 replace ho:=Below.ow hB ho
 replace hlo:=LO.below hB hlo
 have hzs:=an (am _) (Below.size ae)
 replace hrst:=cD.mono hrst hzs
 replace hB:=Below.trans ae (Below.mono hB hzs)
 obtain rfl:j=(L.getD k []).length:=by omega
 rw[aan]at hrst
 have hcl:=Jy L (cc:Int) k
 have hvn:=hlo.len
 refine cN<|Zf rfl dO<|ZL v0 rfl eB h rfl<|Zw v1 rfl<|Zy (eK (u:=v1) rfl dF jG (by rw[dh.cells hrst.sl];rfl) Dd Dd λR bE S aV ah=> ?_)
 have bF:=ZO S hB
 have bG:=aaQ (b:=R) (Below.ow hB hrv) (aae S.symm)
 have bH:=aaQ (b:=R) ho (aae S.symm)
 obtain⟨d,f,h,ho,hlo,hB,hrst⟩:=aV.k7 d f h ho hlo hB hrst
 rw[dh.cells hrst.sl]at ah
 refine Zy (dZ (v:=v0) (v2:= .slice (some ⟨R,0,none⟩) 1 1) rfl rfl dF jG Dd ho (eT ah rfl) (by exact TJ (cD.one hrst)) (n4 hB) (by omega) (by omega) λai bI s t=> ?_)
 replace t:=cD.snoc (enc:=encV) (x:=v1) rfl rfl rfl rfl t
 replace d:=At.grownOw d ho s Dd
 replace f:=At.grownOw f ho s Dd
 replace h:=At.grownOw h ho s Dd
 replace hlo:=LO.grownOw hlo ho s Dd
 replace hB:=ZG hB s ho
 replace hrst:=cD.grownOw hrst ho s Dd
 refine Zf rfl dO<|Zy (dm (v:=ai) rfl rfl eB (dh.one t.sl) h gj λbJ y aW=> ?_)
 replace d:=At.grownNe d ac y
 replace f:=At.grownNe f ad y
 replace hlo:=LO.grownAt hlo h y Dd
 replace hB:=Zg hB y ab
 replace hrst:=cD.grownAt hrst h y Dd
 replace t:=cD.grownAt t h y Dd
 replace h:=aW
 replace h:At _ _ #[_,_] _:=h
 refine ct<|ZT rfl rfl rfl ?_
 exact aN _ _ ((k+1,ai,vn++[v1])) Za ⟨rfl,trivial⟩ ⟨hB,d,f,(by exact h),(by exact t),(by rw[←E2 Om];exact LO.snoc hlo hrst),Om,trivial⟩ (by show L.length-(k+1)<L.length-k;omega)
 refine cR<|Zr<|Zv (cy rfl cY rfl h)<|Zy (cz rfl rfl cY rfl f rfl (by exact iB (cD.one ho)) λbK T aX=> ?_)
 replace hB:=Zg hB T U
 replace ho:=cD.grownAt ho f T Dd
 replace hlo:=LO.grownAt hlo f T Dd
 replace f:=aX
 refine Zb rfl<|ct<|Zt<|eI rfl cY f rfl (v1:= .bool true) rfl ⟨hB,?_⟩
 exact⟨_,_,_,_,rfl,cD.mono ho (my _),LO.mono hlo (my _),(by rw[Id (by omega)];exact Q2 (i:=0) (λe=>Z (by rw[e];rfl)) hdc hwt)⟩
 refine cR<|ZT rfl rfl rfl ?_
 exact Y _ _ (cc+1) Za ⟨rfl,trivial⟩ ⟨hB,d,f,hmw,hmo,Om,trivial⟩ Zo
 refine cR<|Zr<|Zv (cy rfl cY rfl d)<|Zy (cz rfl rfl cY rfl f rfl (by exact iB (cD.one hrv)) λbL aY aZ=> ?_)
 replace hB:=Zg hB aY U
 replace f:=aZ
 refine Zb rfl<|ct<|Zt<|eI rfl cY f rfl (v1:= .bool false) rfl ⟨hB,?_⟩
 exact⟨_,_,_,_,rfl,Below.ow hB hrv,LO.below hB hLO,XW L⟩
end
section
open Go Go.RowKit
theorem SS:cX Tryz.prog 183=true:=by kernel_rfl
theorem yi:eE Tryz.prog 210=true:=by kernel_rfl
theorem mp:mU Tryz.prog 210=some (3,4):=by kernel_rfl
theorem RQ:cX Tryz.prog 185=true:=by kernel_rfl
theorem R8:cX Tryz.prog 187=true:=by kernel_rfl
theorem R3:dT Tryz.prog 210=some (.map none):=by kernel_rfl
theorem yQ:fj Tryz.prog 250=some (26,1,8):=by kernel_rfl
theorem Rm:(dT Tryz.prog 26).map (λz=>z.cells.size)=some 1:=by kernel_rfl
theorem Qa:eE Tryz.prog 26=true:=by kernel_rfl
theorem QU:cX Tryz.prog 182=true:=by kernel_rfl
theorem Qy:cX Tryz.prog 184=true:=by kernel_rfl
theorem RO:cX Tryz.prog 186=true:=by kernel_rfl
theorem tT (N bm bt bk b3:Nat) (n:Int) (xs rv:Value) (fs vs:List Value) (L0 L:ML) (ks:List Int) (w:World) (hN0:N≤w.heap.size) (hm:At w bm #[.int .i64 n,rv] 203) (hrv:cD encV 1 35 w 0 rv vs) (hLO:LO 3 0 w vs L) (hr:dN n L=true) (hLb:L.length≤1000000) (hrd:mR L0 L ks) (h3:At w b3 #[.int .i64 0, .slice none 0 0] 203) (hbt:At w bt #[.map (some bk)] 210) (hst:cD encV 1 26 w N xs fs) (hks:du eH Value.bool w bk (fp ks)) (lom:N≤bm) (lok:N≤bk) (hne:b3≠bm):
    mS Tryz.prog 182 #[.pointer (some ⟨bm,0,none⟩), .pointer (some ⟨bt,0,none⟩)] w λv w'=>Below N w w'∧At w' b3 #[.int .i64 0, .slice none 0 0] 203∧At w' bt #[.map (some bk)] 210∧cD encV 1 26 w' N xs fs∧∃rv' vs' L' ks' b,v= .bool b∧At w' bm #[.int .i64 n,rv'] 203∧cD encV 1 35 w' 0 rv' vs'∧LO 3 0 w' vs' L'∧du eH Value.bool w' bk (fp ks')∧Ts L0 L' L ks' n b:=by
 refine d5 (n:=17) (N:=N) Tryz.func182 rfl rfl rfl λhB=> ?_
 refine Zr<|Zb rfl<|ct<|Zr<|Zv (cy rfl cY rfl hm)<|ZC (vs:=[.agg #[_,_]]) SS (Ar n rv vs L _ hrv hLO hr hLb) rfl λy W5 m o=> ?_
 obtain⟨hm,h3,hbt,hst,hks⟩:=m.k5 hm h3 hbt hst hks
 replace hB:=cW hB m hN0
 obtain⟨rv1_1,z,L1_1,c1_1,c,rfl,hk1_1,hLO1_1,htp1_1⟩:=o
 refine Zw (.tuple #[.agg #[.int .i64 _,rv1_1], .int .i64 c1_1, .bool c]) rfl<|Zv (iO rfl)<|Zv (kf rfl)<|Zv (jS rfl)<|Zy (cI gq rfl λp W8 h i d=> ?_)
 have q:N≤p:=h▸(an hN0 (Below.size hB))
 have r:=Zn h hm.lt
 have s:=Zn h h3.lt
 obtain⟨hm,h3,hbt,hst,hks⟩:=i.k5 hm h3 hbt hst hks
 replace hB:=cW hB i hN0
 obtain⟨hk1_1,hLO1_1⟩:=i.k2 hk1_1 hLO1_1
 refine Zy (cz rfl rfl cY rfl d rfl (by exact iB (cD.one hk1_1)) λA e t=> ?_)
 replace hm:=At.grownNe hm r e
 replace h3:=At.grownNe h3 s e
 replace hbt:=At.grownAt hbt d e Dd
 replace hst:=cD.grownAt hst d e Dd
 replace hks:=du.grownAt hks d e
 replace hB:=db hB e hN0 (λj hj=>by cases hj;exact q)
 replace hk1_1:=cD.grownAt hk1_1 d e Dd
 replace hLO1_1:=LO.grownAt hLO1_1 d e Dd
 replace d:=t
 refine Zw (.int .i64 c1_1) rfl<|Zw (.bool c) rfl<|ct<|Zq<|Zr<|Zv (cy rfl cY rfl d)<|Zy (cz rfl rfl cY rfl hm rfl (by exact iB (cD.one hk1_1)) λB f u=> ?_)
 replace h3:=At.grownNe h3 hne f
 replace hbt:=At.grownAt hbt hm f Dd
 replace hst:=cD.grownAt hst hm f Dd
 replace hks:=du.grownAt hks hm f
 replace hB:=db hB f hN0 (λj hj=>by cases hj;exact lom)
 replace hk1_1:=cD.grownAt hk1_1 hm f Dd
 replace hLO1_1:=LO.grownAt hLO1_1 hm f Dd
 replace hm:=u
 refine ct<|Zr<|Zw (.bool c) rfl<|ct<|ZQ rfl (λl=> ?_) λl=> ?_
 refine cN<|ZL (.map (some bk)) rfl yi hbt rfl<|Zw (.int .i64 c1_1) rfl ?_
 refine gK (dd:=none) rfl rfl rfl (fJ (enc:=eH) (encV:=Value.bool) (k:=c1_1) (v:=true) rfl rfl rfl mp gT (λa=>⟨a,rfl⟩) fU hks (λC g x=> ?_))
 replace hm:=At.grownMap hm hks g
 replace h3:=At.grownMap h3 hks g
 replace hbt:=At.grownMap hbt hks g
 replace hst:=cD.grownMap hst hks g
 replace hB:=db hB g hN0 (λj hj=>by cases hj;exact lok)
 replace hk1_1:=cD.grownMap hk1_1 hks g
 replace hLO1_1:=LO.grownMap hLO1_1 hks g
 replace hks:=x
 rw[jP]at hks
 refine ct<|Zr<|Zw (.bool c) rfl<|Zw (.bool c) rfl<|ct<|Zt<|cV (v:= .bool c) rfl ?_
 subst l
 exact⟨hB,h3,hbt,hst,_,_,_,_,_,rfl,hm,hk1_1,hLO1_1,hks,Nc hrd hr htp1_1⟩
 refine cu<|Zr<|Zw (.bool c) rfl<|Zw (.bool c) rfl<|ct<|Zt<|cV (v:= .bool c) rfl ?_
 subst l
 exact⟨hB,h3,hbt,hst,_,_,_,_,_,rfl,hm,hk1_1,hLO1_1,hks,Lo hrd hr htp1_1⟩
theorem ul (N bm bt bk b3:Nat) (n:Int) (xs rv:Value) (fs vs:List Value) (L0 L:ML) (ks:List Int) (w:World) (hN0:N≤w.heap.size) (hm:At w bm #[.int .i64 n,rv] 203) (hrv:cD encV 1 35 w 0 rv vs) (hLO:LO 3 0 w vs L) (hr:dN n L=true) (hLb:L.length≤1000000) (hrd:mR L0 L ks) (h3:At w b3 #[.int .i64 0, .slice none 0 0] 203) (hbt:At w bt #[.map (some bk)] 210) (hst:cD encV 1 26 w N xs fs) (hks:du eH Value.bool w bk (fp ks)) (lom:N≤bm) (lok:N≤bk) (hne:b3≠bm):
    mS Tryz.prog 184 #[.pointer (some ⟨bm,0,none⟩)] w λv w'=>Below N w w'∧At w' b3 #[.int .i64 0, .slice none 0 0] 203∧At w' bt #[.map (some bk)] 210∧cD encV 1 26 w' N xs fs∧∃rv' vs' L' ks' b,v= .bool b∧At w' bm #[.int .i64 n,rv'] 203∧cD encV 1 35 w' 0 rv' vs'∧LO 3 0 w' vs' L'∧du eH Value.bool w' bk (fp ks')∧Ts L0 L' L ks' n b:=by
 refine d5 (n:=11) (N:=N) Tryz.func184 rfl rfl rfl λhB=> ?_
 refine Zr<|Zb rfl<|ct<|Zr<|Zv (cy rfl cY rfl hm)<|ZC (vs:=[.agg #[_,_]]) RQ (Ao n rv vs L _ hrv hLO hr hLb) rfl λr W5 h i=> ?_
 obtain⟨hm,h3,hbt,hst,hks⟩:=h.k5 hm h3 hbt hst hks
 replace hB:=cW hB h hN0
 obtain⟨rv1_1,s,L1_1,e,rfl,hk1_1,hLO1_1,htp1_1⟩:=i
 refine Zw (.tuple #[.agg #[.int .i64 _,rv1_1], .bool e]) rfl<|Zv (c7 rfl)<|Zv (da rfl)<|Zy (cI gq rfl λk W8 f g a=> ?_)
 have l:N≤k:=f▸(an hN0 (Below.size hB))
 have m:=Zn f hm.lt
 have o:=Zn f h3.lt
 obtain⟨hm,h3,hbt,hst,hks⟩:=g.k5 hm h3 hbt hst hks
 replace hB:=cW hB g hN0
 obtain⟨hk1_1,hLO1_1⟩:=g.k2 hk1_1 hLO1_1
 refine Zy (cz rfl rfl cY rfl a rfl (by exact iB (cD.one hk1_1)) λt c p=> ?_)
 replace hm:=At.grownNe hm m c
 replace h3:=At.grownNe h3 o c
 replace hbt:=At.grownAt hbt a c Dd
 replace hst:=cD.grownAt hst a c Dd
 replace hks:=du.grownAt hks a c
 replace hB:=db hB c hN0 (λj hj=>by cases hj;exact l)
 replace hk1_1:=cD.grownAt hk1_1 a c Dd
 replace hLO1_1:=LO.grownAt hLO1_1 a c Dd
 replace a:=p
 refine Zw (.bool e) rfl<|ct<|Zr<|Zv (cy rfl cY rfl a)<|Zy (cz rfl rfl cY rfl hm rfl (by exact iB (cD.one hk1_1)) λu d q=> ?_)
 replace h3:=At.grownNe h3 hne d
 replace hbt:=At.grownAt hbt hm d Dd
 replace hst:=cD.grownAt hst hm d Dd
 replace hks:=du.grownAt hks hm d
 replace hB:=db hB d hN0 (λj hj=>by cases hj;exact lom)
 replace hk1_1:=cD.grownAt hk1_1 hm d Dd
 replace hLO1_1:=LO.grownAt hLO1_1 hm d Dd
 replace hm:=q
 refine ct<|Zr<|Zw (.bool e) rfl<|Zw (.bool e) rfl<|ct<|Zt<|cV (v:= .bool e) rfl ?_
 exact⟨hB,h3,hbt,hst,_,_,_,_,_,rfl,hm,hk1_1,hLO1_1,hks,Mo hrd hr htp1_1⟩
theorem uU (N bm bt bk b3:Nat) (n:Int) (xs rv:Value) (fs vs:List Value) (L0 L:ML) (ks:List Int) (w:World) (hN0:N≤w.heap.size) (hm:At w bm #[.int .i64 n,rv] 203) (hrv:cD encV 1 35 w 0 rv vs) (hLO:LO 3 0 w vs L) (hr:dN n L=true) (hLb:L.length≤1000000) (hrd:mR L0 L ks) (h3:At w b3 #[.int .i64 0, .slice none 0 0] 203) (hbt:At w bt #[.map (some bk)] 210) (hst:cD encV 1 26 w N xs fs) (hks:du eH Value.bool w bk (fp ks)) (lom:N≤bm) (lok:N≤bk) (hne:b3≠bm):
    mS Tryz.prog 186 #[.pointer (some ⟨bm,0,none⟩)] w λv w'=>Below N w w'∧At w' b3 #[.int .i64 0, .slice none 0 0] 203∧At w' bt #[.map (some bk)] 210∧cD encV 1 26 w' N xs fs∧∃rv' vs' L' ks' b,v= .bool b∧At w' bm #[.int .i64 n,rv'] 203∧cD encV 1 35 w' 0 rv' vs'∧LO 3 0 w' vs' L'∧du eH Value.bool w' bk (fp ks')∧Ts L0 L' L ks' n b:=by
 refine d5 (n:=11) (N:=N) Tryz.func186 rfl rfl rfl λhB=> ?_
 refine Zr<|Zb rfl<|ct<|Zr<|Zv (cy rfl cY rfl hm)<|ZC (vs:=[.agg #[_,_]]) R8 (vB n rv vs L _ hrv hLO hr hLb) rfl λr W5 h i=> ?_
 obtain⟨hm,h3,hbt,hst,hks⟩:=h.k5 hm h3 hbt hst hks
 replace hB:=cW hB h hN0
 obtain⟨rv1_1,s,L1_1,e,rfl,hk1_1,hLO1_1,htp1_1⟩:=i
 refine Zw (.tuple #[.agg #[.int .i64 _,rv1_1], .bool e]) rfl<|Zv (c7 rfl)<|Zv (da rfl)<|Zy (cI gq rfl λk W8 f g a=> ?_)
 have l:N≤k:=f▸(an hN0 (Below.size hB))
 have m:=Zn f hm.lt
 have o:=Zn f h3.lt
 obtain⟨hm,h3,hbt,hst,hks⟩:=g.k5 hm h3 hbt hst hks
 replace hB:=cW hB g hN0
 obtain⟨hk1_1,hLO1_1⟩:=g.k2 hk1_1 hLO1_1
 refine Zy (cz rfl rfl cY rfl a rfl (by exact iB (cD.one hk1_1)) λt c p=> ?_)
 replace hm:=At.grownNe hm m c
 replace h3:=At.grownNe h3 o c
 replace hbt:=At.grownAt hbt a c Dd
 replace hst:=cD.grownAt hst a c Dd
 replace hks:=du.grownAt hks a c
 replace hB:=db hB c hN0 (λj hj=>by cases hj;exact l)
 replace hk1_1:=cD.grownAt hk1_1 a c Dd
 replace hLO1_1:=LO.grownAt hLO1_1 a c Dd
 replace a:=p
 refine Zw (.bool e) rfl<|ct<|Zr<|Zv (cy rfl cY rfl a)<|Zy (cz rfl rfl cY rfl hm rfl (by exact iB (cD.one hk1_1)) λu d q=> ?_)
 replace h3:=At.grownNe h3 hne d
 replace hbt:=At.grownAt hbt hm d Dd
 replace hst:=cD.grownAt hst hm d Dd
 replace hks:=du.grownAt hks hm d
 replace hB:=db hB d hN0 (λj hj=>by cases hj;exact lom)
 replace hk1_1:=cD.grownAt hk1_1 hm d Dd
 replace hLO1_1:=LO.grownAt hLO1_1 hm d Dd
 replace hm:=q
 refine ct<|Zr<|Zw (.bool e) rfl<|Zw (.bool e) rfl<|ct<|Zt<|cV (v:= .bool e) rfl ?_
 exact⟨hB,h3,hbt,hst,_,_,_,_,_,rfl,hm,hk1_1,hLO1_1,hks,Mo hrd hr htp1_1⟩
theorem Uo (i:Nat) (N bm bt bk b3:Nat) (n:Int) (xs rv:Value) (fs vs:List Value) (L0 L:ML) (ks:List Int) (w:World) (hN0:N≤w.heap.size) (hm:At w bm #[.int .i64 n,rv] 203) (hrv:cD encV 1 35 w 0 rv vs) (hLO:LO 3 0 w vs L) (hr:dN n L=true) (hLb:L.length≤1000000) (hrd:mR L0 L ks) (h3:At w b3 #[.int .i64 0, .slice none 0 0] 203) (hbt:At w bt #[.map (some bk)] 210) (hst:cD encV 1 26 w N xs fs) (hks:du eH Value.bool w bk (fp ks)) (lom:N≤bm) (lok:N≤bk) (hne:b3≠bm) (hi:i<3):
    mS Tryz.prog (YC 182 184 186 i) (Yx bm bt i) w λv w'=>Below N w w'∧At w' b3 #[.int .i64 0, .slice none 0 0] 203∧At w' bt #[.map (some bk)] 210∧cD encV 1 26 w' N xs fs∧∃rv' vs' L' ks' b,v= .bool b∧At w' bm #[.int .i64 n,rv'] 203∧cD encV 1 35 w' 0 rv' vs'∧LO 3 0 w' vs' L'∧du eH Value.bool w' bk (fp ks')∧Ts L0 L' L ks' n b:=by
  match i,hi with
  |0,_=>exact tT N bm bt bk b3 n xs rv fs vs L0 L ks w hN0 hm hrv hLO hr hLb hrd h3 hbt hst hks lom lok hne
  |1,_=>exact ul N bm bt bk b3 n xs rv fs vs L0 L ks w hN0 hm hrv hLO hr hLb hrd h3 hbt hst hks lom lok hne
  |2,_=>exact uU N bm bt bk b3 n xs rv fs vs L0 L ks w hN0 hm hrv hLO hr hLb hrd h3 hbt hst hks lom lok hne
theorem qa (n:Int) (rv:Value) (vs:List Value) (L:ML) (w:World) (hrv:cD encV 1 35 w 0 rv vs) (hLO:LO 3 0 w vs L) (hr:dN n L=true) (hLb:L.length≤1000000):
    Fn Tryz.prog 147 #[.agg #[.int .i64 n,rv]] w λv w'=>∃tv T rv' vs' L',v= .tuple #[tv, .agg #[.int .i64 n,rv'], .int .i64 0]∧cD dJ 1 3 w' w.heap.size tv T∧cD encV 1 35 w' 0 rv' vs'∧LO 3 0 w' vs' L'∧mR L L' T∧dN n L'=true∧L'.length≤L.length∧T.length≤n.toNat:=by
 refine cH (n:=44) Tryz.func147 rfl rfl rfl λhB=> ?_
 have hll:=hLO.ll
 have hvl:=hll.len
 refine Zr<|Zy (dt (c:= #[_,_]) rfl rfl λg W3 N O d=> ?_)
 have P:=ZO N hB
 replace hB:=Ze hB O
 refine Zw (.slice none 0 0) rfl<|Zy (cI gq rfl λy W6 D Q e=> ?_)
 have R:=ZO D hB
 have E:=Zn D d.lt
 obtain⟨hB,d⟩:=Q.k2 hB d
 refine ZZ rfl<|EM<|Zq<|Zr<|Zv (cy rfl cY rfl d)<|ZC (vs:=[.agg #[_,_]]) uv (kl n _ _ L _ ((Below.ow hB hrv)).sl (LO.mono (LO.below hB hLO) (my _)).ll hLb (λi=>an (fK hr i) Dd)) rfl λaz aA S U=> ?_
 obtain⟨hB,d,e⟩:=S.k3 hB d e
 obtain rfl:=U
 refine Zv (eR rfl)<|ct<|ZQ rfl (λF=> ?_) λF=> ?_
 exact absurd (kT F) (by rw[hr];decide)
 refine cu<|Zr<|Zy (gQ (enc:=eH) (encV:=Value.bool) λz aB V X l=> ?_)
 have Y:=ZO V hB
 obtain⟨hB,d,e⟩:=X.k3 hB d e
 replace l:du eH Value.bool _ _ (fp []):=l
 refine Zy (cI R3 rfl λj aC Z aa f=> ?_)
 have ab:=ZO Z hB
 obtain⟨hB,d,e,l⟩:=aa.k4 hB d e l
 refine Zy (dm (v:= .map (some z)) rfl rfl yi rfl f LK λaD A ac=> ?_)
 replace hB:=Zg hB A ab
 replace d:=At.grownAt d f A Dd
 replace e:=At.grownAt e f A Dd
 replace l:=du.grownAt l f A
 replace f:=ac
 replace f:At _ _ #[_] _:=f
 refine ct<|Zr<|Zw (.slice none 0 0) rfl<|ct<|Zr<|Zv (fI (vs:= #[.pointer (some ⟨g,0,none⟩), .pointer (some ⟨j,0,none⟩)]) Ga)<|Zv (fI (vs:= #[.pointer (some ⟨g,0,none⟩)]) Ga)<|Zv (fI (vs:= #[.pointer (some ⟨g,0,none⟩)]) Ga)<|Zy (UK (u0:= .func (.func 182) #[] #[.pointer (some ⟨g,0,none⟩), .pointer (some ⟨j,0,none⟩)]) (u1:= .func (.func 184) #[] #[.pointer (some ⟨g,0,none⟩)]) (u2:= .func (.func 186) #[] #[.pointer (some ⟨g,0,none⟩)]) rfl rfl rfl yQ Rm rfl rfl rfl λm aE ad ae af=> ?_)
 have ag:=ZO ad hB
 obtain⟨hB,d,e,l,f⟩:=ae.k5 hB d e l f
 have h:=Og af ag
 replace h:cD encV 1 _ _ _ _ (Wo g j 182 184 186):=h
 refine Zw (.slice (some ⟨m,0,none⟩) 3 3) rfl<|ct<|Zq<|Et<|Zq<|cx ?_
 refine cS (σ:=(Value)×(List Value)×(ML)×(List Int)) [9,9,20,28] (λ(rv1,o,L1,ks)=>[]) (λsg W=>match sg with|(rv1,o,L1,ks)=>(Below w.heap.size w W)∧(At W y _ 203)∧(At W j _ 210)∧(cD encV 1 26 W w.heap.size (.slice (some ⟨m,0,none⟩) 3 3) _)∧(At W g #[.int .i64 n,rv1] 203)∧(cD encV 1 35 W 0 rv1 o)∧(LO 3 0 W o (L1))∧(du eH Value.bool W z (fp ks))∧(mR L L1 ks)∧(dN n L1=true)∧(L1.length≤L.length)∧(True)) (λ(rv1,o,L1,ks)=>sJ L1) ((rv,vs,L,[])) trivial ⟨hB,e,f,h,d,(cD.mono (Below.ow hB hrv) (am _)),(LO.below hB hLO),l,(acH L),hr,(am _),trivial⟩ ?_
 rintro⟨rv1,o,L1,ks⟩ aF aG ⟨hB,e,f,h,d,hrw,hlo,hmk,hrd,hr1,hl1,_⟩ aH ah
 refine cx<|Zq<|Zr<|Zw (.slice (some ⟨m,0,none⟩) 3 3) rfl<|Zv (cT (v:= .slice (some ⟨m,0,none⟩) 3 3) rfl h.sl yQ)<|ZZ rfl<|cx ?_
 refine cS (σ:=(Nat)×(Value)×(List Value)×(ML)×(List Int)) [9,9,22,28] (λ(i,rv2,s,L2,ks2)=>[(22, .int .i64 (i:Int))]) (λsg W=>match sg with|(i,rv2,s,L2,ks2)=>(Below w.heap.size w W)∧(At W y _ 203)∧(At W j _ 210)∧(cD encV 1 26 W w.heap.size (.slice (some ⟨m,0,none⟩) 3 3) _)∧(At W g #[.int .i64 n,rv2] 203)∧(cD encV 1 35 W 0 rv2 s)∧(LO 3 0 W s (L2))∧(du eH Value.bool W z (fp ks2))∧(i≤3)∧(mR L L2 ks2)∧(dN n L2=true)∧(L2.length≤L.length)∧(sJ L2≤sJ L1)∧(True)) (λ(i,rv2,s,L2,ks2)=>3-i) ((0,rv1,o,L1,ks)) ⟨rfl,trivial⟩ ⟨hB,e,f,h,d,hrw,hlo,hmk,(my _),hrd,hr1,hl1,(am _),trivial⟩ ?_
 rintro⟨i,rv2,s,L2,ks2⟩ aI t ⟨hB,e,f,h,d,hrw2,hlo2,hmk,hi,hrd2,hr2,hl2,G,_⟩ aJ ai
 have hcl:(Wo g j 182 184 186).length=3:=rfl
 refine Zr<|Zv (dk rfl rfl)<|ct<|Zq<|ZQ rfl (λaj=> ?_) λaj=> ?_
 refine cu<|Zq<|cx<|Zr<|Zv (df (v:= .slice (some ⟨m,0,none⟩) 3 3) rfl h.sl rfl yQ Om Om)<|Zv (cB (v:=((Wo g j 182 184 186).getD i undef)) rfl Qa (dh.cell h.sl fS undef Om Om 0 rfl))<|Zw ((Wo g j 182 184 186).getD i undef) rfl<|ct<|Zr<|Zw ((Wo g j 182 184 186).getD i undef) rfl ?_
 refine mA (dd:=some 27) rfl rfl rfl (ij (q:=YC 182 184 186 i) (first:= #[]) (cap:=Yx g j i) (vs:=Yx g j i) (Rz Om) (Z1 QU Qy RO) gj) (Uo i _ _ _ _ _ n _ _ _ _ L L2 ks2 _ (Below.size hB) d hrw2 hlo2 hr2 Om hrd2 e f h hmk P Y E.symm Om) (λaK aL ak=> ?_)
 obtain⟨hBt9_1,h39_1,ht9_1,al,rv9_1,H,L9_1,ks9_1,aM,rfl,ao,hk9_1,hLO9_1,hq9_1,hS9_1⟩:=ak
 replace hB:=Below.trans hB hBt9_1
 replace d:=ao
 replace e:=h39_1
 replace f:=ht9_1
 replace h:=al
 replace hmk:=hq9_1
 refine ct<|ZQ rfl (λI=> ?_) λI=> ?_
 refine cR ?_
 refine ah _ _ ((rv9_1,H,L9_1,ks9_1)) ?_ ?_ ?_ ?_
 · repeat (first|exact dB.mask _ _ _|refine abG ?_ rfl _|refine aby ?_ _ rfl|refine abk rfl ?_)
 · exact trivial
 · exact⟨hB,e,f,h,(by exact d),hk9_1,hLO9_1,(by exact hmk),(hS9_1.rd),(hS9_1.r),(an hS9_1.len hl2),trivial⟩
 · exact aao (hS9_1.szt I) G
 refine cu<|ZT rfl rfl rfl ?_
 exact ai _ _ ((i+1,rv9_1,H,L9_1,ks9_1)) Za ⟨rfl,trivial⟩ ⟨hB,e,f,h,(by exact d),hk9_1,hLO9_1,(by exact hmk),Om,hS9_1.rd,hS9_1.r,(an hS9_1.len hl2),(an hS9_1.sz G),trivial⟩ Zo
 refine cR<|cR<|Zq ?_
 have aN:=Below.ow hB hrv
 have aO:=LO.below hB hLO
 have J:=hB
 replace hB:=Below.refl t.heap.size t
 have hn0:=(fm.1 hr).1
 have hn4:=(fm.1 hr).2.1
 refine Zr<|Zf rfl iv<|Zl rfl cK (On hB d) rfl<|ZZ rfl<|cx ?_
 refine cS (σ:=(Nat)×(Value)) [6,6,10,10,31,41] (λ(cc,v0)=>[(31, .int .i64 (cc:Int)),(6,v0)]) (λsg W=>match sg with|(cc,v0)=>(Below t.heap.size t W)∧(cD dJ 1 3 W t.heap.size v0 (lg ks2 cc))∧((cc:Int)≤n)∧(True)) (λ(cc,v0)=>n.toNat-cc) ((0, .slice none 0 0)) ⟨rfl,rfl,trivial⟩ ⟨hB,cD.nil,Om,trivial⟩ ?_
 rintro⟨cc,v0⟩ aP aQ ⟨hB,ho,hcc,_⟩ aR K
 refine Zr<|Zv (dk rfl rfl)<|ct<|Zq<|ZQ rfl (λap=> ?_) λap=> ?_
 refine cu<|Zq<|cx<|Zr<|Zi rfl<|ZZ rfl<|Zr<|ZL (.map (some z)) rfl yi (On hB f) rfl<|Zi rfl<|Zv (fV (enc:=eH) (encV:=Value.bool) (v0:=false) (k:=_) rfl rfl mp gT (λa=>⟨a,rfl⟩) fU qj rfl (abt hB hmk))<|ct<|ZQ rfl (λB=> ?_) λB=> ?_
 refine cN<|Zw v0 rfl<|Zi rfl<|Zy (eK (u:= .int .i64 _) rfl cM eQ rfl Dd Dd λaq aS aT ar au=> ?_)
 obtain⟨hB,ho⟩:=ar.k2 hB ho
 refine Zy (dZ (v:=v0) (v2:= .slice (some ⟨aq,0,none⟩) 1 1) rfl rfl cM eQ Dd ho (eT au rfl) rfl (n4 hB) (by have:=mF ks2 cc;omega) (by have:=mF ks2 cc;omega) λM aU av C=> ?_)
 replace C:=cD.snoc (enc:=dJ) (x:=_) rfl rfl rfl rfl C
 replace hB:=ZG hB av ho
 refine Zw M rfl<|ct<|ZT rfl rfl rfl ?_
 exact K _ _ ((cc+1,M)) Za ⟨rfl,rfl,trivial⟩ ⟨hB,(by (rw[nh,if_pos (uf B)];exact C)),Om,trivial⟩ (by show n.toNat-(cc+1)<n.toNat-cc;omega)
 refine cu<|ZT rfl rfl rfl ?_
 exact K _ _ ((cc+1,v0)) Za ⟨rfl,rfl,trivial⟩ ⟨hB,(by (rw[nh,if_neg (qR B)];exact ho)),Om,trivial⟩ (by show n.toNat-(cc+1)<n.toNat-cc;omega)
 refine cR ?_
 replace e:=On hB e
 replace d:=On hB d
 replace hrw2:=Below.ow hB hrw2
 replace hlo2:=LO.below hB hlo2
 have hzs:=an (am _) (Below.size J)
 replace ho:=cD.mono ho hzs
 replace hB:=Below.trans J (Below.mono hB hzs)
 obtain rfl:cc=n.toNat:=by omega
 refine Zd (λa b=>a.grownBy b (some y)) λaw ax=> ?_
 obtain⟨e,d,hrw2,hlo2,hB,ho⟩:=ax.k6 e d hrw2 hlo2 hB ho
 have hS:=World.grownBy.refl aw (some y)
 refine Tw 0 v0 rfl rfl hS<|Tk 1 rfl (λ_ hq=>cy rfl cY rfl (At.grownNe d E hq)) hS<|Tw 2 v0 rfl rfl hS<|To 3 rfl (cz rfl rfl cY rfl e rfl (by exact iB (cD.one hrw2)) λaV p ay=>⟨.inl (cC hS p),?_⟩)
 replace hS:=cC hS p
 replace hrw2:=cD.grownAt hrw2 e p Dd
 replace hlo2:=LO.grownAt hlo2 e p Dd
 replace hB:=Zg hB p R
 replace ho:=cD.grownAt ho e p Dd
 replace e:=ay
 refine Ti 4 rfl rfl hS<|Td<|Zt<|Sr (v:=v0) rfl rfl cY e rfl (v2:= .int .i64 0) rfl ⟨hB,?_⟩
 exact⟨_,_,_,_,_,rfl,ho,cD.mono hrw2 (my _),hlo2,mR.ris hr hrd2,hr2,hl2,mF _ _⟩
end
end Go.Proofs.YtedeonkjellcpaaGreatDoor
