/- Words and walks of the row. No condition. -/
import Derived.Test.YtedeonkjellcpaaGreatDoorWSearch2
namespace Go.Proofs.YtedeonkjellcpaaGreatDoor
open Go Go.RowKit
set_option autoImplicit true
set_option relaxedAutoImplicit true
set_option linter.unusedVariables false
set_option linter.unusedSimpArgs false
section
theorem Sr:cY Tryz.prog 188=true:=by kernel_rfl
theorem KS:d4 Tryz.prog 253=some (.agg #[.int .i64 0, .slice none 0 0, .slice none 0 0]):=by kernel_rfl
theorem I8:(Tryz.prog.info? 203).map (·.size)=some 2:=by kernel_rfl
theorem m9 (h0:dm f x0= .agg #[c0_0,c0_1]) (h1:dm f x1=c1_0) (k1:c1_0.cells= #[c1_0]):
    (execOp (dm f) ⟨d, .build 253 #[(0,x0),(1,x1)],ty,ps,af,g⟩).run Tryz.prog w= .ok (.value (.agg #[c0_0,c0_1,c1_0])) w:=by
  obtain⟨i0,hi0,hz0⟩:=we.1 (show (Tryz.prog.info? 253).bind (·.zero)=_ from KS)
  obtain⟨j35,hj35,hs35⟩:=an.1 tr
  obtain⟨j203,hj203,hs203⟩:=an.1 I8
  simp[execOp,h0,h1,k1,Instr.build,zeroValue,typeInfo,sizeOf,hi0,hz0,run_underlying Tryz.underlying253,Instr.fill,d7,hj35,hs35,hj203,hs203]
theorem mP:fj Tryz.prog 254=some (253,3,56):=by kernel_rfl
theorem Ae:(d4 Tryz.prog 253).map (λz=>z.cells.size)=some 3:=by kernel_rfl
theorem Gv:kn Tryz.prog 253=some 3:=by kernel_rfl
theorem AM:eb Tryz.prog 253 0=some 0:=by kernel_rfl
theorem KB:cY Tryz.prog 147=true:=by kernel_rfl
theorem HO:eb Tryz.prog 253 1=some 2:=by kernel_rfl
theorem RX:cY Tryz.prog 190=true:=by kernel_rfl
theorem TU:cY Tryz.prog 192=true:=by kernel_rfl
set_option maxHeartbeats 2000000 in
theorem x5 (n:Int) (rv:Value) (vs:List Value) (L:ML) (b:Int) (w:World) (hrv:cH encV 1 35 w 0 rv vs) (hLO:LO 3 0 w vs L) (hr:dR n L=true) (hLb:L.length≤1000000) (hfu:jE L L.length=true) (hb:0≤b∧b≤1000000):
    Fn Tryz.prog 148 #[.agg #[.int .i64 n,rv], .int .i64 b] w λv w'=>(∃tv X s,v= .tuple #[tv, .int .i64 s, .int .i64 0]∧cH dX 1 3 w' w.heap.size tv X∧Sj L n X∧X.length≤4000∧0≤s∧s≤b)∨(v= .tuple #[.slice none 0 0, .int .i64 b, .int .i64 6]∧b.toNat+1<2^cnt L):=by
 refine cK (n:=110) Tryz.func148 rfl rfl rfl λhB=> ?_
 have hll:=hLO.ll
 have hvl:=hll.len
 refine Zr<|Zy (du (c:= #[_,_]) rfl rfl λaf W3 a9 ag d=> ?_)
 replace hB:=Ze hB ag
 refine Zw (.slice none 0 0) rfl<|Zi rfl<|ZZ rfl<|Zr<|Zv (cz rfl df rfl d)<|ZC (vs:=[.agg #[_,_]]) Sr (yc n _ _ _ _ (cH.mono (Below.ow hB hrv) (me _)) (LO.mono (LO.below hB hLO) (me _)) hr hLb hfu) rfl λba W8 ah ai=> ?_
 have aj:=(Below.size hB)
 obtain⟨hB,d⟩:=ah.k2 hB d
 obtain⟨tv1_1,T1_1,rfl,hk1_1,hT1_1,hTl1_1⟩:=ai
 replace hk1_1:=cH.mono hk1_1 aj
 refine Zw (.tuple #[tv1_1, .int .i64 0]) rfl<|Zv (c7 rfl)<|Zv (da rfl)<|Zw tv1_1 rfl<|ZZ rfl<|Zq<|Zr<|Zi rfl<|Zv (eV rfl rfl)<|ct<|ZQ rfl (λR=> ?_) λR=> ?_
 exact absurd rfl R
 refine cx<|Zr<|Zi rfl<|Zv (WJ rfl rfl)<|ZZ rfl ?_
 have hmx:max 0 b=b:=by omega
 refine Zr<|Zv (cz rfl df rfl d)<|Zv (m9 (h0:=rfl) (h1:=rfl) (k1:=rfl) (c1_0:= .slice none 0 0))<|Zy (ez (u:= .agg #[_,_,_]) rfl mP Ae rfl Dd Dd λS bb ak al ao=> ?_)
 have ap:=ZO ak hB
 obtain⟨hB,d,hk1_1⟩:=al.k3 hB d hk1_1
 refine Zw (.slice (some ⟨S,0,none⟩) 1 1) rfl<|ct<|Zr<|ZZ rfl<|Zq<|cy ?_
 refine cW (σ:=(Value)×(List Jy)×(List O8)×(Value)×(List Int)×(Int)) [4,7,9,16,30,104] (λ(v9,xs,st,v7,best,steps)=>[(9,v9),(7,v7),(10, .int .i64 steps)]) (λsg W=>match sg with|(v9,xs,st,v7,best,steps)=>(Below w.heap.size w W)∧(At W af _ 203)∧(cH IU 3 253 W w.heap.size v9 xs)∧(cH dX 1 3 W w.heap.size v7 (best))∧(iG 35 3 W xs st)∧(pS n L b xs st best steps)∧(True)) (λ(v9,xs,st,v7,best,steps)=>EH st) ((.slice (some ⟨S,0,none⟩) 1 1,[⟨n,rv, .slice none 0 0⟩],[(L,[])],tv1_1,T1_1,0)) ⟨rfl,rfl,rfl,trivial⟩ ⟨hB,d,(jf (enc:=IU) (a:=⟨n,rv, .slice none 0 0⟩) ao rfl rfl ap),hk1_1,(iG.one (Below.ow hB hrv) (LO.below hB hLO) cH.nil),(aeh hr hLb hT1_1 hTl1_1 hb.1),trivial⟩ ?_
 rintro⟨v9,xs,st,v7,best,steps⟩ bc bd ⟨hB,d,hst,hbest,hch,hfw,_⟩ bf F
 refine Zq<|Zr<|Zw v9 rfl<|Zv (db (v:=v9) rfl hst.sl mP)<|Zv (gQ rfl rfl)<|ct<|ZQ rfl (λaq=> ?_) λaq=> ?_
 refine cx<|cy ?_
 have hpos:0<xs.length:=by omega
 obtain⟨k,hk1⟩:∃k,xs.length=k+1:=⟨xs.length-1,by omega⟩
 have hks:st.length=k+1:=by rw[←hfw.len];exact hk1
 have hxl:=hfw.sl.len
 have hxr:=hfw.sl.r k (by omega)
 have hxl2:=hfw.sl.l k (by omega)
 have hxt:=hfw.sl.t k (by omega)
 obtain⟨vx,hkx,hLx⟩:=hch.mx k (by omega)
 have hcx:=hch.ch k (by omega)
 refine Zr<|Zw v9 rfl<|Zw v9 rfl<|Zv (db (v:=v9) rfl hst.sl mP)<|Zv (M1 rfl rfl (show (xs.length:Int)-1=(k:Int)by omega) Om)<|Zv (dp (v:=v9) rfl hst.sl rfl mP Om Om)<|Zv (jb rfl Gv (dr.cell hst.sl uY DB Om Om 0 rfl) (dr.cell hst.sl uY DB Om Om 1 rfl) (dr.cell hst.sl uY DB Om Om 2 rfl))<|Zy (cM KS rfl λar bg U I o=> ?_)
 have au:=ZO U hB
 have av:=acm (b:=ar) hst (aaR U.symm)
 obtain⟨hB,d,hst,hbest⟩:=I.k4 hB d hst hbest
 replace hch:=iG.ext I hch
 obtain⟨hkx,hLx,hcx⟩:=I.k3 hkx hLx hcx
 refine Zy (cA rfl rfl Gv rfl o rfl (by exact VV (cH.one hkx) (cH.one hcx)) λbh D aw=> ?_)
 replace hB:=Zg hB D au
 replace d:=At.grownAt d o D Dd
 replace hst:=ab3 hst av D
 replace hbest:=cH.grownAt hbest o D Dd
 replace hch:=iG.grownAt hch o D Dd Dd
 replace hkx:=cH.grownAt hkx o D Dd
 replace hLx:=LO.grownAt hLx o D Dd
 replace hcx:=cH.grownAt hcx o D Dd
 replace o:=aw
 refine ct ?_
 have hC9:xs.length≤jn v9:=(Sl.eqv hst.sl).2.1
 refine Zr<|Zw v9 rfl<|Zw v9 rfl<|Zv (db (v:=v9) rfl hst.sl mP)<|Zv (M1 rfl rfl (show (xs.length:Int)-1=(k:Int)by omega) Om)<|Zv (BU (v:=v9) rfl hst.sl mP rfl Om Om) ?_
 replace hst:=cH.hi hst uY (k:=k) Om
 refine Zw (fY 3 v9 0 k (jn v9)) rfl<|ct<|Zq<|Zr<|Zf rfl AM<|Zv (io rfl df (At.cell o rfl) (At.cell o rfl))<|ZC (vs:=[.agg #[_,_]]) Kd (oY _ _ _ _ _ (cH.mono hkx (me _)) (LO.mono hLx (me _)) hxl2) rfl λbi bj J ax=> ?_
 obtain⟨hB,d,hst,hbest⟩:=J.k4 hB d hst hbest
 replace hch:=iG.ext J hch
 obtain⟨hkx,hLx,hcx,o⟩:=J.k4 hkx hLx hcx o
 obtain rfl:=ax
 refine Zv (eK rfl)<|ct<|ZQ rfl (λK=> ?_) λK=> ?_
 refine cT ?_
 exact F _ _ ((fY 3 v9 0 k (jn v9),xs.take k,st.take k,v7,best,steps)) Za ⟨rfl,rfl,rfl,trivial⟩ ⟨hB,d,hst,(by exact hbest),(iG.take hch k),(pS.none hfw hks K),trivial⟩ (by exact adQ hks)
 refine cx ?_
 have hfl:jE (st.getD k m7).1 (st.getD k m7).1.length=true:=by simpa using K
 refine Zr<|Zf rfl AM<|Zv (io rfl df (At.cell o rfl) (At.cell o rfl))<|ZC (vs:=[.agg #[_,_]]) KB (rf _ _ _ _ _ (cH.mono hkx (me _)) (LO.mono hLx (me _)) hxr hxl2) rfl λbk bm M ay=> ?_
 have bn:=adi hbest
 have bo:=adi hcx
 have az:=(Below.size hB)
 obtain⟨hB,d,hst,hbest⟩:=M.k4 hB d hst hbest
 replace hch:=iG.ext M hch
 obtain⟨hcx,o⟩:=M.k2 hcx o
 obtain⟨tv11_2,T11_2,rv11_2,aA,L11_2,rfl,ht11_2,hk11_2,hLO11_2,hrd11_2,E,hln11_2,hTl11_2⟩:=ay
 skip
 replace ht11_2:=cH.mono ht11_2 az
 refine Zw (.tuple #[tv11_2, .agg #[.int .i64 _,rv11_2], .int .i64 0]) rfl<|Zv (gj rfl)<|Zv (iy rfl)<|Zv (ik rfl)<|Zy (cM gv rfl λbp bq V N x=> ?_)
 have aB:=ZO V hB
 have aC:=Zn V d.lt
 obtain⟨hB,d,hst,hbest⟩:=N.k4 hB d hst hbest
 replace hch:=iG.ext N hch
 obtain⟨hcx,o,ht11_2,hk11_2,hLO11_2⟩:=N.k5 hcx o ht11_2 hk11_2 hLO11_2
 refine Zw tv11_2 rfl<|Zy (cA rfl rfl df rfl x rfl (by exact iO (cH.one hk11_2)) λY y aD=> ?_)
 replace hB:=Zg hB y aB
 replace d:=At.grownNe d aC y
 replace hst:=cH.grownAt hst x y Dd
 replace hbest:=cH.grownAt hbest x y Dd
 replace hch:=iG.grownAt hch x y Dd Dd
 replace hcx:=cH.grownAt hcx x y Dd
 replace o:=At.grownAt o x y Dd
 replace ht11_2:=cH.grownAt ht11_2 x y Dd
 replace hk11_2:=cH.grownAt hk11_2 x y Dd
 replace hLO11_2:=LO.grownAt hLO11_2 x y Dd
 replace x:=aD
 refine ZZ rfl ?_
 have br:=Below.ow hB hrv
 have bs:=LO.below hB hLO
 have z:=hB
 replace hB:=Below.refl Y.heap.size Y
 have hvl11:=hLO11_2.len
 have hT4:T11_2.length≤4000:=by have q:=(fz.1 hxr).2.1;omega
 refine Zr<|Zy (DD cV λaE bt aF aG aH=> ?_)
 have aI:=ZO aF hB
 replace hB:=Ze hB aG
 have Z:=u7 (enc:=dX) (sz:=1) aH aI
 refine Zf rfl HO<|ZL ((xs.getD k DB).tv) rfl fv (On hB o) rfl<|Zy (dP (v:= .slice (some ⟨aE,0,none⟩) 0 0) (v2:=(xs.getD k DB).tv) rfl rfl cV eP Dd Z ((Below.ow hB hcx)).sl (lE) (m3 hB) (by have hz:([]:List Int).length=0:=rfl;omega) (by have hz:([]:List Int).length=0:=rfl;omega) λaJ bu aK G=> ?_)
 replace G:=cH.app (enc:=dX) rfl rfl rfl rfl G
 replace hB:=ZG hB aK Z
 rw[aco]at G
 refine Zw tv11_2 rfl<|Zy (dP (v:=aJ) (v2:=tv11_2) rfl rfl cV eP Dd G ((Below.ow hB ht11_2)).sl (lE) (m3 hB) Om Om λp bv aL f=> ?_)
 replace f:=cH.app (enc:=dX) rfl rfl rfl rfl f
 replace hB:=ZG hB aL G
 refine Zw p rfl<|ct<|Zq<|Zr<|Zf rfl dU<|ZL rv11_2 rfl eM (On hB x) rfl<|Zv (db (v:=rv11_2) rfl ((Below.ow hB hk11_2)).sl dG)<|Zv (dO rfl rfl)<|ct<|ZQ rfl (λaM=> ?_) λaM=> ?_
 refine Zq<|Zr<|Zw p rfl<|Zv (db (v:=p) rfl f.sl cV)<|Zw v7 rfl<|Zv (db (v:=v7) rfl ((Below.ow hB hbest)).sl cV)<|Zv (dq rfl rfl)<|ct<|ZQ rfl (λaN=> ?_) λaN=> ?_
 refine cI<|Zw p rfl<|Zw p rfl<|ct<|cT ?_
 replace d:=On hB d
 replace hst:=Below.ow hB hst
 replace hch:=iG.below hB hch
 have hzs:=go (am _) (Below.size z)
 replace f:=cH.mono f hzs
 replace hB:=Below.trans z (Below.mono hB hzs)
 exact F _ _ ((fY 3 v9 0 k (jn v9),xs.take k,st.take k,p,((st.getD k m7).2++T11_2),steps)) Za ⟨rfl,rfl,rfl,trivial⟩ ⟨hB,d,hst,(by exact f),(iG.take hch k),(pS.leaf hfw hks hrd11_2 Om Om),trivial⟩ (by exact adQ hks)
 refine cx<|cT ?_
 replace d:=On hB d
 replace hst:=Below.ow hB hst
 replace hbest:=Below.ow hB hbest
 replace hch:=iG.below hB hch
 have hzs:=go (am _) (Below.size z)
 replace hB:=Below.trans z (Below.mono hB hzs)
 exact F _ _ ((fY 3 v9 0 k (jn v9),xs.take k,st.take k,v7,best,steps)) Za ⟨rfl,rfl,rfl,trivial⟩ ⟨hB,d,hst,(by exact hbest),(iG.take hch k),(pS.leaf0 hfw hks hrd11_2 Om),trivial⟩ (by exact adQ hks)
 refine cx<|Zq ?_
 have hbn:=I4 L11_2 L11_2.length
 have hol:((st.getD k m7).2++T11_2).length≤16008000:=by rw[An];omega
 refine Zr<|Zw p rfl<|Zv (db (v:=p) rfl f.sl cV)<|Zv (cz rfl df rfl (On hB x))<|ZC (vs:=[.agg #[_,_]]) RX (AG _ _ _ L11_2 _ (cH.mono (Below.ow hB hk11_2) (me _)) (LO.mono (LO.below hB hLO11_2) (me _)) E Om) rfl λbw bx aO aP=> ?_
 obtain⟨hB,f⟩:=aO.k2 hB f
 obtain rfl:=aP
 refine Zv (d5 rfl rfl Om Om)<|Zw v7 rfl<|Zv (db (v:=v7) rfl ((Below.ow hB hbest)).sl cV)<|Zv (ky rfl rfl)<|ct<|ZQ rfl (λaQ=> ?_) λaQ=> ?_
 refine cT ?_
 replace d:=On hB d
 replace hst:=Below.ow hB hst
 replace hbest:=Below.ow hB hbest
 replace hch:=iG.below hB hch
 have hzs:=go (am _) (Below.size z)
 replace hB:=Below.trans z (Below.mono hB hzs)
 exact F _ _ ((fY 3 v9 0 k (jn v9),xs.take k,st.take k,v7,best,steps)) Za ⟨rfl,rfl,rfl,trivial⟩ ⟨hB,d,hst,(by exact hbest),(iG.take hch k),(pS.prune hfw hks hrd11_2 Om),trivial⟩ (by exact adQ hks)
 refine cx<|Zq ?_
 have bz:=hfw.s0
 have hsb:=hfw.sb
 refine Zr<|Zi rfl<|Zi rfl<|Zv (dO rfl rfl)<|ct<|ZQ rfl (λaR=> ?_) λaR=> ?_
 refine Zr<|Zi rfl<|Zw (.slice none 0 0) rfl<|Zi rfl<|ZZ rfl ?_
 refine lV ?_
 have hzs:=go (am _) (Below.size z)
 replace hB:=Below.trans z (Below.mono hB hzs)
 repeat (first|refine dZ ?_|refine dI ?_)
 refine Km (v:= .slice none 0 0) rfl (v1:= .int .i64 _) rfl (v2:= .int .i64 6) rfl ⟨hB,?_⟩
 exact .inr ⟨by rw[hmx],by obtain⟨ci,hci⟩:=R5 hxr hfl hrd11_2 Om;exact pS.out hfw hks hrd11_2 E hci Om⟩
 refine cx<|Zr<|Zi rfl<|Zv (d5 rfl rfl Om Om)<|ZZ rfl<|Zr<|Zv (cz rfl df rfl (On hB x))<|ZC (vs:=[.agg #[_,_]]) KW (pt _ _ _ L11_2 _ (cH.mono (Below.ow hB hk11_2) (me _)) (LO.mono (LO.below hB hLO11_2) (me _)) E Om) rfl λbA bB aS aT=> ?_
 obtain⟨hB,f⟩:=aS.k2 hB f
 obtain⟨c20_1,rfl,aU⟩:=aT
 refine Zw (.int .i64 c20_1) rfl<|ct ?_
 have hcin:=aU ⟨0,by omega,K0 hxr hfl hrd11_2 _ (dF (by omega))⟩
 refine eR dA fx (λaa aV=> ?_)
 obtain⟨hB,f⟩:=aV.k2 hB f
 have hS:=dA.refl aa
 refine Tw 0 (fY 3 v9 0 k (jn v9)) rfl rfl hS<|Tk 1 rfl (λ_ hq=>cz rfl df rfl (hq.at (On hB x))) hS<|Tw 2 (.int .i64 c20_1) rfl rfl hS<|Tw 4 p rfl rfl hS<|Tk 6 rfl (λ_ hq=>cz rfl df rfl (hq.at (On hB x))) hS<|Tw 7 (.int .i64 c20_1) rfl rfl hS<|Tw 10 p rfl rfl hS<|Tw 12 (.int .i64 c20_1) rfl rfl hS ?_
 have hrwX:=(cH.mono (Below.ow hB hk11_2) (me _))
 have hlwX:=(LO.mono (LO.below hB hLO11_2) (me _))
 have hovX:=f
 refine Ug (m:=8) (A:=[3,5,8,9,11,13,14,15]) (L1:= #[true,true,true,true,true,true,true,true,true,true,true,true,true,true,true,true,false,false,false]) (T:=[90,90,92,92,95,96,98,98,100,102]) (λL g W=>i6 35 3 aa (xs.getD k DB).n c20_1 L11_2 (ut undef (λk=> !decide (c20_1∈L11_2.getD k [])) aA L11_2.length) p ((st.getD k m7).2++T11_2) (L.getD 3 false) (L.getD 5 false) (L.getD 8 false) (L.getD 9 false) (L.getD 11 false) (L.getD 13 false) (L.getD 14 false) (L.getD 15 false) (g 90) (g 92) (g 95) (g 96) (g 98) (g 100) (g 101) (g 102) W) jW (aef _) ?_ ?_
 rintro i hi L g W hlt hrd hI
 have hi2:i=3∨i=5∨i=8∨i=9∨i=11∨i=13∨i=14∨i=15:=by simpa using hi
 rcases hi2 with rfl|rfl|rfl|rfl|rfl|rfl|rfl|rfl
 refine⟨_,90,rfl,rfl,rfl,rfl,rfl,?_⟩
 refine Yd.call (yl TU (v0:= .agg #[_,_]) rfl (v1:= .int .i64 c20_1) rfl) (Bw _ _ _ L11_2 c20_1 _ (hI.s.ow hrwX) (LO.ext hI.s hlwX) E Om) (λv W' hE hP=> ?_)
 obtain⟨r,vs,rfl,h1,h2⟩:=hP
 have k:=hI.p3 (mj hrd) hE h1 h2
 exact⟨.inl k.s,adK k (rO hlt) (eg hlt Dd) (eg hlt Dd) (eg hlt Dd) (eg hlt Dd) (eg hlt Dd) (eg hlt Dd) (eg hlt Dd)⟩
 refine⟨_,92,rfl,rfl,rfl,rfl,rfl,?_⟩
 have n3:=lc (j:=3) hrd rfl
 obtain⟨r,vs,e,_⟩:=hI.o3 n3
 refine Yd.val (m9 (h0:=e) (h1:=rfl) (k1:=dr.cells hovX.sl) (c1_0:=p)) ?_
 have k:=hI.p5 n3 e
 exact⟨.inl k.s,adK k (eg hlt Dd) (rO hlt) (eg hlt Dd) (eg hlt Dd) (eg hlt Dd) (eg hlt Dd) (eg hlt Dd) (eg hlt Dd)⟩
 refine⟨_,95,rfl,rfl,rfl,rfl,rfl,?_⟩
 refine Yd.call (yl Jt (v0:= .agg #[_,_]) rfl (v1:= .int .i64 c20_1) rfl) (pz _ _ _ L11_2 c20_1 _ (hI.s.ow hrwX) (LO.ext hI.s hlwX) E Om) (λv W' hE hP=> ?_)
 obtain⟨r,rfl,h1⟩:=hP
 have k:=hI.p8 (lc (j:=3) hrd rfl) (mj hrd) hE h1
 exact⟨.inl k.s,adK k (eg hlt Dd) (eg hlt Dd) (rO hlt) (eg hlt Dd) (eg hlt Dd) (eg hlt Dd) (eg hlt Dd) (eg hlt Dd)⟩
 refine⟨_,96,rfl,rfl,rfl,rfl,rfl,?_⟩
 refine DD cV (λb W' hb hE hm=> ?_)
 have k:=hI.p9 (mj hrd) hb hE hm
 exact⟨.inl k.s,adK k (eg hlt Dd) (eg hlt Dd) (eg hlt Dd) (rO hlt) (eg hlt Dd) (eg hlt Dd) (eg hlt Dd) (eg hlt Dd)⟩
 refine⟨_,98,rfl,rfl,rfl,rfl,rfl,?_⟩
 have n9:=lc (j:=9) hrd rfl
 have h9:=hI.o9 n9 (mj hrd)
 have hsX:dr dX 1 W p ((st.getD k m7).2++T11_2):=(hI.s.ow hovX).sl
 have hzX:(([]:List Int).length+(((st.getD k m7).2++T11_2)).length)*8≤140737488355328:=by have hz:([]:List Int).length=0:=rfl;omega
 have hzY:(([]:List Int).length+(((st.getD k m7).2++T11_2)).length)≤9223372036854775807:=by have hz:([]:List Int).length=0:=rfl;omega
 refine jh (v:=g 96) (v2:=p) rfl rfl cV eP Dd h9 hsX lE (dA.size hI.s) hzX hzY (λv' W' hG hO hob=> ?_)
 replace hO:=cH.app (enc:=dX) (l:=[]) (l2:=((st.getD k m7).2++T11_2)) rfl rfl rfl rfl hO
 rw[aco]at hO
 have k:=hI.p11 (by decide) (mj hrd) (lc (j:=8) hrd rfl) n9 hG hO hob
 exact⟨.inl k.s,adK k (eg hlt Dd) (eg hlt Dd) (eg hlt Dd) (eg hlt Dd) (rO hlt) (eg hlt Dd) (eg hlt Dd) (eg hlt Dd)⟩
 refine⟨_,100,rfl,rfl,rfl,rfl,rfl,?_⟩
 refine ez (u:= .int .i64 c20_1) rfl cV eP rfl Dd Dd (λb W' hb hE hm=> ?_)
 have k:=hI.p13 (mj hrd) hE (jf (enc:=dX) (a:=c20_1) hm rfl rfl (aaR hb.symm))
 exact⟨.inl k.s,adK k (eg hlt Dd) (eg hlt Dd) (eg hlt Dd) (eg hlt Dd) (eg hlt Dd) (rO hlt) (eg hlt Dd) (eg hlt Dd)⟩
 refine⟨_,101,rfl,rfl,rfl,rfl,rfl,?_⟩
 have n11:=lc (j:=11) hrd rfl
 have n13:=lc (j:=13) hrd rfl
 have n14:=mj hrd
 have h11:=hI.o11 n11 n14
 refine dP (v:=g 98) (v2:=g 100) rfl rfl cV eP Dd h11 (hI.o13 n13 n14).1.sl lE (dA.size hI.s) (by have hz:[c20_1].length=1:=rfl;omega) (by have hz:[c20_1].length=1:=rfl;omega) (λv' W' hG hO=> ?_)
 replace hO:=cH.app (enc:=dX) (l:=((st.getD k m7).2++T11_2)) (l2:=[c20_1]) rfl rfl rfl rfl hO
 have k:=hI.p14 (by decide) n14 n11 n13 hG hO
 exact⟨.inl k.s,adK k (eg hlt Dd) (eg hlt Dd) (eg hlt Dd) (eg hlt Dd) (eg hlt Dd) (eg hlt Dd) (rO hlt) (eg hlt Dd)⟩
 refine⟨_,102,rfl,rfl,rfl,rfl,rfl,?_⟩
 have n14:=lc (j:=14) hrd rfl
 have n8:=lc (j:=8) hrd rfl
 obtain⟨r,e,_⟩:=hI.o8 n8
 refine Yd.val (m9 (h0:=e) (h1:=rfl) (k1:=dr.cells (hI.o14 n14).sl) (c1_0:=g 101)) ?_
 have k:=hI.p15 n14 e
 exact⟨.inl k.s,adK k (eg hlt Dd) (eg hlt Dd) (eg hlt Dd) (eg hlt Dd) (eg hlt Dd) (eg hlt Dd) (eg hlt Dd) (rO hlt)⟩
 rintro aW bC hIX
 have hleX:=(Below.size hB)
 obtain⟨rv21_3,bD,aX,hk21_3,hLO21_3,_⟩:=hIX.o3 rfl
 obtain⟨r5,e5,aY⟩:=hIX.o5 rfl
 obtain rfl:rv21_3=r5:=by rw[aX]at e5;simpa using e5
 obtain⟨rv21_8,aZ,hk21_8⟩:=hIX.o8 rfl
 have C:=cH.mono (hIX.o14 rfl) hleX
 obtain⟨r15,e15,ab⟩:=hIX.o15 rfl
 obtain rfl:rv21_8=r15:=by rw[aZ]at e15;simpa using e15
 obtain⟨H,a2⟩:∃u,aW 101=u:=⟨_,rfl⟩
 rw[a2]at ab C
 have hXs:=hIX.s
 refine FK (B3 [(92, .agg #[.int .i64 (xs.getD k DB).n,rv21_3,p]),(102, .agg #[.int .i64 (xs.getD k DB).n,rv21_8,H])] ⟨aY,ab,trivial⟩) ?_
 obtain⟨hB,f⟩:=hXs.k2 hB f
 replace hS:=hS.trans hXs
 refine To 16 rfl (Ir (u0:= .agg #[.int .i64 (xs.getD k DB).n,rv21_3,p]) (u1:= .agg #[.int .i64 (xs.getD k DB).n,rv21_8,H]) rfl rfl mP Ae rfl rfl Dd Dd λa3 bE a4 ac a5=>⟨.inl (hS.trans ac),?_⟩)
 have a6:=ZO a4 hB
 obtain⟨hB,f,hk21_3,hLO21_3,hk21_8,C⟩:=ac.k6 hB f hk21_3 hLO21_3 hk21_8 C
 have O:=zT (enc:=IU) (sz:=3) (a0:=⟨(xs.getD k DB).n,rv21_3,p⟩) (a1:=⟨(xs.getD k DB).n,rv21_8,H⟩) a5 rfl rfl rfl rfl a6
 replace d:=On hB d
 replace hst:=Below.ow hB hst
 replace hbest:=Below.ow hB hbest
 replace hch:=iG.below hB hch
 replace hLO11_2:=LO.below hB hLO11_2
 have hzs:=go (am _) (Below.size z)
 replace f:=cH.mono f hzs
 replace C:=cH.mono C hzs
 replace O:=cH.mono O hzs
 replace hB:=Below.trans z (Below.mono hB hzs)
 refine To 17 rfl (dP (v:=fY 3 v9 0 k (jn v9)) (v2:= .slice (some ⟨a3,0,none⟩) 2 2) rfl rfl mP Ae Dd hst O.sl ((Uo (cH.one hk21_3) (cH.one f) (cH.one hk21_8) (cH.one C))) (m3 hB) ix ix λad bF B P=>⟨.inr jW,?_⟩)
 replace P:=cH.app (enc:=IU) rfl rfl rfl rfl P
 replace hB:=ZG hB B hst
 replace d:=At.grownOw d hst B Dd
 replace hbest:=cH.grownOw hbest hst B Dd
 replace hch:=iG.grownOw hch hst B Dd Dd
 replace hLO11_2:=LO.grownOw hLO11_2 hst B Dd
 replace f:=cH.grownOw f hst B Dd
 replace hk21_3:=cH.grownOw hk21_3 hst B Dd
 replace hLO21_3:=LO.grownOw hLO21_3 hst B Dd
 replace hk21_8:=cH.grownOw hk21_8 hst B Dd
 replace C:=cH.grownOw C hst B Dd
 refine iZ (dd:=some 9) 18 jW rfl rfl rfl rfl (Yd.val (FC (v:=ad) rfl) ⟨.inr jW,?_⟩)
 refine Td ?_
 exact F _ _ ((ad,xs.take k++[⟨(xs.getD k DB).n,rv21_3,p⟩,⟨(xs.getD k DB).n,rv21_8,H⟩],st.take k++[(qE L11_2 c20_1,((st.getD k m7).2++T11_2)),(tZ L11_2 c20_1,((st.getD k m7).2++T11_2)++[c20_1])],v7,best,steps+1)) Za ⟨rfl,rfl,rfl,trivial⟩ ⟨hB,d,P,(by exact hbest),(iG.two (x1:=⟨(xs.getD k DB).n,rv21_3,p⟩) (x2:=⟨(xs.getD k DB).n,rv21_8,H⟩) (y1:=(qE L11_2 c20_1,((st.getD k m7).2++T11_2))) (y2:=(tZ L11_2 c20_1,((st.getD k m7).2++T11_2)++[c20_1])) (iG.take hch k) hk21_3 hLO21_3 (cH.mono f (me _)) hk21_8 (by have h:=adY hLO11_2 (λk=> !decide (c20_1∈L11_2.getD k [])) L11_2.length (am _);rw[Qo]at h;exact h) (cH.mono C (me _))),(pS.branch hfw hks hrd11_2 E hT4 Om hcin Om rfl rfl),trivial⟩ (by exact ad9 hks hrd11_2 E hcin)
 refine cT ?_
 have hbl:=hfw.bl
 refine Zr<|Zw v7 rfl<|Zf rfl iA<|Zl rfl cR d rfl<|ZC Jz (qT _ best n _ hbest.sl Om (by have q:=fz.1 hr;exact⟨q.1,q.2.1⟩)) rfl λae bG a7 Q=> ?_
 have bH:=adi hbest
 have a8:=(Below.size hB)
 replace hB:=Ze hB a7
 replace Q:=cH.mono Q a8
 refine Zi rfl<|Zw ae rfl<|Zi rfl<|ZZ rfl<|Zt<|Km (v:=ae) rfl (v1:= .int .i64 _) rfl (v2:= .int .i64 0) rfl ⟨hB,?_⟩
 have hfin:=hfw.fin hr (by omega)
 have hrl:=mK best n.toNat
 have hn4:=(fz.1 hr).2.1
 exact .inl ⟨_,_,_,rfl,Q,hfin,by omega,hfw.s0,hfw.sb⟩
end
section
theorem ju:eb Tryz.prog 222 1=some 1:=by kernel_rfl
theorem lI:eN Tryz.prog 220=true:=by kernel_rfl
theorem lz:fj Tryz.prog 220=some (228,3,24):=by kernel_rfl
theorem ql:eb Tryz.prog 228 0=some 0:=by kernel_rfl
theorem Kz:cY Tryz.prog 159=true:=by kernel_rfl
theorem KR:cY Tryz.prog 238=true:=by kernel_rfl
theorem Er:d4 Tryz.prog 228=some (.agg #[.int .i64 0, .int .i64 0, .int .i64 0]):=by kernel_rfl
theorem wg (h0:dm f x0=c0_0) (k0:c0_0.cells= #[c0_0]) (h1:dm f x1=c1_0) (k1:c1_0.cells= #[c1_0]) (h2:dm f x2=c2_0) (k2:c2_0.cells= #[c2_0]):
    (execOp (dm f) ⟨d, .build 228 #[(0,x0),(1,x1),(2,x2)],ty,ps,af,g⟩).run Tryz.prog w= .ok (.value (.agg #[c0_0,c1_0,c2_0])) w:=by
  obtain⟨i0,hi0,hz0⟩:=we.1 (show (Tryz.prog.info? 228).bind (·.zero)=_ from Er)
  obtain⟨j3,hj3,hs3⟩:=an.1 fL
  simp[execOp,h0,k0,h1,k1,h2,k2,Instr.build,zeroValue,typeInfo,sizeOf,hi0,hz0,run_underlying Tryz.underlying228,Instr.fill,d7,hj3,hs3]
theorem pQ:kn Tryz.prog 228=some 3:=by kernel_rfl
theorem uz:eb Tryz.prog 222 2=some 2:=by kernel_rfl
theorem Az:eN Tryz.prog 219=true:=by kernel_rfl
theorem AZ:na Tryz.prog 219=some (228,3):=by kernel_rfl
theorem Pf (hx:dm f x= .agg #[.int .i64 a0, .int .i64 a1, .int .i64 a2]) (hy:dm f y= .agg #[.int .i64 b0, .int .i64 b1, .int .i64 b2]):
    (execOp (dm f) ⟨d, .binOp .eql 228 x y t2,ty,ps,af,g⟩).run Tryz.prog w= .ok (.value (.bool (decide ((a0=b0∧a1=b1∧a2=b2))))) w:=by
  have hg:Tryz.prog.eqGuardType Tryz.prog.depth 228=false:=by kernel_rfl
  have hp228:Tryz.prog.stoodInHeld 228=false:=by kernel_rfl
  have hu228:Tryz.prog.underlying 228=some (.struct (Tryz.prog.fieldsOf 228)):=by kernel_rfl
  simp only[execOp,hx,hy,Sem.run_bind,run_eqGuard_agg _ _ _ _ _ _ _ hg,Result.andThen_ok,run_eql_struct,run_equalIn_agg _ 9999 228 _ _ hu228 hp228]
  simp only[Program.fieldsOf,Tryz.underlying228]
  simp[Op.eqFields,part,isAgg,run_equalIn_int _ 9998 3 _ _ _ _ Tryz.underlying3,run_underlying Tryz.underlying3]
  by_cases q0:a0=b0<;>by_cases q1:a1=b1<;>by_cases q2:a2=b2<;>simp[q0,q1,q2]
theorem BR:qV Tryz.prog 228 (λv=>∃a:Nd,v=yb a):=by
  refine pD Tryz.underlying228 ?_ ?_ ?_ ?_
  · rintro w _ _ ⟨a,rfl⟩ ⟨c,rfl⟩
    have hg:Tryz.prog.eqGuardType Tryz.prog.depth 228=false:=by kernel_rfl
    exact⟨_,sO hg (Pf rfl rfl),by rw[decide_eq_true_eq];constructor<;>intro h<;>simpa [yb] using h⟩
  · rintro _ _ ⟨a,rfl⟩ ⟨c,rfl⟩
    exact .inl rfl
  · rintro w em _ ⟨a,rfl⟩
    have h2:∀k,(Instr.checkKey em (k+1+1+1) 228 (yb a)).run Tryz.prog w= .ok () w:=λk=>by
      simp[yb,Instr.checkKey,part,isAgg,run_underlying Tryz.underlying228,run_underlying Tryz.underlying3]
    exact h2 9997
  · rintro _ ⟨a,rfl⟩
    simp[yb,Instr.sameBits]
theorem H9:eb Tryz.prog 222 0=some 0:=by kernel_rfl
theorem F8:(d4 Tryz.prog 228).map (λz=>z.cells.size)=some 3:=by kernel_rfl
theorem Ii:eb Tryz.prog 228 1=some 1:=by kernel_rfl
theorem HU:eb Tryz.prog 228 2=some 2:=by kernel_rfl
theorem uF:eb Tryz.prog 282 0=some 0:=by kernel_rfl
theorem AW:eN Tryz.prog 166=true:=by kernel_rfl
theorem JT:cY Tryz.prog 119=true:=by kernel_rfl
theorem DL:cY Tryz.prog 273=true:=by kernel_rfl
theorem SP:cY Tryz.prog 202=true:=by kernel_rfl
theorem l5 (N ba bm R:Nat) (ns:List Nd) (id:Int) (w:World) (hD:fM 222 228 N ba bm R w ns) (hid:id≤9223372036854775807):
    Fn Tryz.prog 159 #[.pointer (some ⟨ba,0,none⟩), .int .i64 id] w λv w'=>v= .bool (je ns id):=by
 refine cK (n:=29) Tryz.func159 rfl rfl rfl λhB=> ?_
 obtain⟨nv,hha,hno⟩:=hD.out
 have hmp:=hD.hm
 have hwf:=hD.wf
 have hroom:=hD.room
 have htop:=hD.top
 have hla:=hD.la
 have hlm:=hD.lm
 refine Zr<|Zb rfl<|ct<|Zr<|Zi rfl<|Zv (ky rfl rfl)<|ZX rfl (λa=> ?_) λa=> ?_
 refine Zi rfl<|Zv (jY rfl rfl Om Om)<|Zp rfl<|Zc rfl<|Zf rfl ju<|ZL nv rfl lI (On hB hha) rfl<|Zv (db (v:=nv) rfl ((Below.ow hB hno)).sl lz)<|Zv (dq rfl rfl)<|Zb rfl<|ZX rfl (λb=> ?_) λb=> ?_
 refine Zp rfl<|Zc rfl<|Zf rfl ju<|ZL nv rfl lI (On hB hha) rfl<|Zi rfl<|Zv (jY rfl rfl Om Om)<|Zv (dp (v:=nv) rfl ((Below.ow hB hno)).sl rfl lz Om Om)<|Zf rfl ql<|Zv (cD (v:= .int .i64 _) rfl cR (dr.cell ((Below.ow hB hno)).sl px oH Om Om 0 rfl))<|Zv (eV rfl rfl)<|Zb rfl<|Zb rfl<|ct<|Zt ?_
 refine cZ (v:= .bool _) rfl ⟨hB,?_⟩
 exact aa4 a b
 refine Zs<|Zs<|Zs<|Zs<|Zs<|Zs<|Zs<|Zs<|Zs<|Zs<|Zb rfl<|Zb rfl<|ct<|Zt ?_
 refine cZ (v:= .bool false) rfl ⟨hB,?_⟩
 exact YE b
 refine Zs<|Zs<|Zs<|Zs<|Zs<|Zs<|Zs<|Zs<|Zb rfl<|Zb rfl<|Zs<|Zs<|Zs<|Zs ?_
 refine Zs<|Zs<|Zs<|Zs<|Zs<|Zs<|Zb rfl<|Zb rfl<|ct<|Zt<|cZ (v:= .bool false) rfl ⟨hB,?_⟩
 exact Z5 a
theorem lP (N ba bm R:Nat) (ns:List Nd) (id:Nat) (w:World) (hD:fM 222 228 N ba bm R w ns) (hid:id<ns.length+2):
    Fn Tryz.prog 238 #[.pointer (some ⟨ba,0,none⟩), .int .i64 (id:Int)] w λv w'=>v= .int .i64 ((d6 ns id:Nat):Int):=by
 refine cK (n:=25) Tryz.func238 rfl rfl rfl λhB=> ?_
 obtain⟨nv,hha,hno⟩:=hD.out
 have hmp:=hD.hm
 have hwf:=hD.wf
 have hroom:=hD.room
 have htop:=hD.top
 have hla:=hD.la
 have hlm:=hD.lm
 refine Zr<|ZZ rfl<|Zq<|cy<|Zr<|Zi rfl<|Zv (dO rfl rfl)<|ZX rfl (λa=> ?_) λa=> ?_
 refine Zs<|Zs<|Zb rfl<|Zb rfl<|ct<|cN rfl<|Zr<|ZZ rfl<|Zt<|cZ (v:= .int .i64 24) rfl ⟨hB,?_⟩
 exact aaC (.inl a)
 refine Zi rfl<|Zv (dO rfl rfl)<|Zb rfl<|Zb rfl<|ct<|ZQ rfl (λb=> ?_) λb=> ?_
 refine Zr<|ZZ rfl<|Zt<|cZ (v:= .int .i64 24) rfl ⟨hB,?_⟩
 exact aaC (.inr b)
 refine Zr<|Zp rfl<|Zi rfl<|ZC Kz (l5 _ _ _ _ _ _ _ (fM.below hB hD) (by omega)) rfl λf g d e=> ?_
 replace hB:=Ze hB d
 obtain rfl:=e
 refine Zb rfl<|ct<|ZQ rfl (λc=> ?_) λc=> ?_
 have hth:=pT.1 c
 refine Zr<|Zp rfl<|Zc rfl<|Zf rfl ju<|ZL nv rfl lI (On hB hha) rfl<|Zi rfl<|Zv (jY rfl rfl Om Om)<|Zv (dp (v:=nv) rfl ((Below.ow hB hno)).sl rfl lz Om Om)<|Zf rfl ql<|Zv (cD (v:= .int .i64 _) rfl cR (dr.cell ((Below.ow hB hno)).sl px oH Om Om 0 rfl))<|ZZ rfl<|Zt<|cZ (v:= .int .i64 _) rfl ?_
 refine⟨hB,?_⟩
 exact abx a b
 exact(VP hid a b c).elim
theorem rn (N ba bm R:Nat) (ns:List Nd) (l lo hi:Nat) (w:World) (hN0:N≤w.heap.size) (hD:fM 222 228 N ba bm R w ns) (hlo:lo<ns.length+2) (hhi:hi<ns.length+2) (h0:hi≠0) (l1:l<d6 ns lo) (l2:l<d6 ns hi) (h24:l<24):
    lk Tryz.prog 202 #[.pointer (some ⟨ba,0,none⟩), .int .i64 (l:Int), .int .i64 (lo:Int), .int .i64 (hi:Int)] w λv w'=>PO 222 228 N ba bm R w ns (1) (l) (up l (M ns lo) (M ns hi)) v w':=by
 refine dL (n:=112) (N:=N) Tryz.func202 rfl rfl rfl λhB=> ?_
 obtain⟨nv,hha,hno⟩:=hD.out
 have hmp:=hD.hm
 have hwf:=hD.wf
 have hroom:=hD.room
 have htop:=hD.top
 have hla:=hD.la
 have hlm:=hD.lm
 have hX:Dx 228 N [ba,bm] w w:=Dx.refl
 have hil:=Pl ns
 have g:=hB
 replace hB:=Below.refl w.heap.size w
 refine Zr<|Zi rfl<|ZZ rfl<|Zq<|Zr<|Zp rfl<|Zv (rA rfl rfl Tryz.underlying166)<|Zb rfl<|Zi rfl<|Zv (dq rfl rfl)<|Zb rfl<|ZX rfl (λp=> ?_) λp=> ?_
 exact absurd p Om
 refine Zp rfl<|Zi rfl<|ZC KR (lP _ _ _ _ _ _ _ (fM.below hB hD) pr) rfl λad W8 y z=> ?_
 replace hB:=Ze hB y
 obtain rfl:=z
 refine Zi rfl<|Zv (tW rfl rfl)<|Zb rfl<|ZX rfl (λq=> ?_) λq=> ?_
 exact absurd q Om
 refine Zp rfl<|Zi rfl<|ZC KR (lP _ _ _ _ _ _ _ (fM.below hB hD) pr) rfl λae af A B=> ?_
 replace hB:=Ze hB A
 obtain rfl:=B
 refine Zi rfl<|Zv (tW rfl rfl)<|Zb rfl<|ct<|ZQ rfl (λr=> ?_) λr=> ?_
 exact absurd r Om
 refine cx<|Zr<|Zi rfl<|Zi rfl<|Zi rfl<|Zv (wg (h0:=rfl) (k0:=rfl) (h1:=rfl) (k1:=rfl) (h2:=rfl) (k2:=rfl) (c0_0:= .int .i64 _) (c1_0:= .int .i64 _) (c2_0:= .int .i64 _))<|Zy (cM Er rfl λs ag t C c=> ?_)
 have D:=ZO t hB
 have E:=acm (b:=s) (Below.ow hB hno) (aaR t.symm)
 replace hB:=Ze hB C
 refine Zy (cA rfl rfl pQ rfl c rfl rfl λah F G=> ?_)
 replace hB:=Zg hB F D
 replace c:=G
 refine ct<|Zq<|Zd dA λH I=> ?_
 obtain⟨hB,c⟩:=I.k2 hB c
 have hS:=dA.refl H
 refine Tq 0 rfl rfl hS<|Tc 1 rfl rfl hS<|Tf 2 rfl rfl uz hS<|Tk 3 rfl (λ_ hq=>cD (v:= .map (some bm)) rfl Az (At.cell (hq.at (On hB hha)) rfl)) hS<|Tk 4 rfl (λ_ hq=>cz rfl pQ rfl (hq.at c)) hS<|Tk 5 rfl (λ_ hq=>CE (enc:=yb) (encV:=eQ) (v0:=0) (k:=⟨l,lo,hi⟩) rfl rfl AZ BR (λa=>⟨a,rfl⟩) F3 xd rfl (hq.mapT (ac1 hB hmp))) hS<|Tw 6 (.tuple #[.int .i64 _, .bool _]) rfl rfl hS<|Tk 7 rfl (λ_ _=>c7 rfl) hS<|Tk 8 rfl (λ_ _=>da rfl) hS<|Ti 9 rfl rfl hS<|Ty 10 rfl rfl hS<|Td<|Zr<|Zb rfl ?_
 refine ct<|ZQ rfl (λj=> ?_) λj=> ?_
 refine Zr<|Zi rfl<|Zi rfl<|ZZ rfl ?_
 refine lV ?_
 replace hha:=On hB hha
 replace hno:=Below.ow hB hno
 replace hmp:=ac1 hB hmp
 replace hX:=Dx.trans hX (Dx.below hB)
 have hzs:=go hN0 (Below.size g)
 repeat (first|refine dZ ?_|refine dI ?_)
 refine dH (v:= .int .i64 _) rfl (v1:= .int .i64 0) rfl ?_
 obtain⟨i,hi2,hn,he⟩:=We hwf j
 rw[he]
 exact⟨ns,i+2,0,rfl,hX,⟨⟨nv,hha,hno⟩,hmp,hla,hlm,hwf,hroom,htop⟩,Xv hwf hi2 hn⟩
 refine cx<|Zq ?_
 have hnew:=XD j
 refine Zd dA λJ K=> ?_
 obtain⟨hB,c⟩:=K.k2 hB c
 have hS:=dA.refl J
 refine Tq 0 rfl rfl hS<|Tc 1 rfl rfl hS<|Tf 2 rfl rfl uz hS<|Tk 3 rfl (λ_ hq=>cD (v:= .map (some bm)) rfl Az (At.cell (hq.at (On hB hha)) rfl)) hS<|Tk 4 rfl (λ_ hq=>PH rfl AZ (hq.mapT (ac1 hB hmp))) hS<|Tq 5 rfl rfl hS<|Tc 6 rfl rfl hS<|Tf 7 rfl rfl H9 hS<|Tk 8 rfl (λ_ hq=>cD (v:= .int .i64 _) rfl cR (At.cell (hq.at (On hB hha)) rfl)) hS<|Tk 9 rfl (λ_ _=>ky rfl rfl) hS<|Td<|ZQ rfl (λL=> ?_) λL=> ?_
 refine Zr<|Zi rfl<|ZZ rfl ?_
 refine lV ?_
 replace hha:=On hB hha
 replace hno:=Below.ow hB hno
 replace hmp:=ac1 hB hmp
 replace hX:=Dx.trans hX (Dx.below hB)
 have hzs:=go hN0 (Below.size g)
 repeat (first|refine dZ ?_|refine dI ?_)
 refine dH (v:= .int .i64 0) rfl (v1:= .int .i64 5) rfl ?_
 exact⟨ns,0,5,rfl,hX,⟨⟨nv,hha,hno⟩,hmp,hla,hlm,hwf,hroom,htop⟩,TS Om⟩
 refine cx<|Zr<|ZZ rfl<|Zq<|cy ?_
 refine cW (σ:=(Nat)) [13,13,59,78] (λi=>[(13, .int .i64 (i:Int))]) (λi W=>(Below w.heap.size w W)∧(At W s _ 228)∧(i≤ns.length)∧(True)) (λi=>ns.length-i) (0) ⟨rfl,trivial⟩ ⟨hB,c,(me _),trivial⟩ ?_
 rintro i ai aj ⟨hB,c,hi2,_⟩ ak O
 refine Zq<|Zr<|Zi rfl<|Zp rfl<|Zc rfl<|Zf rfl ju<|ZL nv rfl lI (On hB hha) rfl<|Zv (db (v:=nv) rfl ((Below.ow hB hno)).sl lz)<|Zv (dq rfl rfl)<|ZX rfl (λP=> ?_) λP=> ?_
 refine Zp rfl<|Zc rfl<|Zf rfl ju<|ZL nv rfl lI (On hB hha) rfl<|Zi rfl<|Zv (dp (v:=nv) rfl ((Below.ow hB hno)).sl rfl lz Om Om)<|Zf rfl ql<|Zv (cD (v:= .int .i64 _) rfl cR (dr.cell ((Below.ow hB hno)).sl px oH Om Om 0 rfl))<|Zv (eV rfl rfl)<|Zb rfl<|ct<|ZQ rfl (λQ=> ?_) λQ=> ?_
 refine cx<|cy<|cI<|Zi rfl<|Zv (d5 rfl rfl Om Om)<|ZZ rfl ?_
 exact O _ _ (i+1) Za ⟨rfl,trivial⟩ ⟨hB,c,Om,trivial⟩ Zo
 omega
 refine Zs<|Zs<|Zs<|Zs<|Zs<|Zs<|Zs<|Zs<|Zs<|Zb rfl<|ct<|dE rfl<|cT ?_
 refine Zq ?_
 obtain rfl:i=ns.length:=by omega
 refine Zr<|Zi rfl<|Zp rfl<|Zc rfl<|Zf rfl ju<|ZL nv rfl lI (On hB hha) rfl<|Zv (db (v:=nv) rfl ((Below.ow hB hno)).sl lz)<|Zv (dO rfl rfl)<|ct<|ZQ rfl (λS=> ?_) λS=> ?_
 replace hha:=On hB hha
 replace hno:=Below.ow hB hno
 replace hmp:=ac1 hB hmp
 replace hX:=Dx.trans hX (Dx.below hB)
 have hzs:=go hN0 (Below.size g)
 replace hB:=Below.trans g (Below.mono hB hzs)
 refine eR (λa b=>a.grownBy b nv.ownBlock) fx (λT m=> ?_)
 obtain⟨hha,hno,hmp,hX⟩:=m.k4 hha hno hmp hX
 replace hB:=cX hB m hN0
 replace c:=m.at c
 have U:=hno
 have hS:=World.grownBy.refl T nv.ownBlock
 refine Tq 0 rfl rfl hS<|Tq 1 rfl rfl hS<|Tc 2 rfl rfl hS<|Tf 3 rfl rfl ju hS<|Tk 4 rfl (λ_ hq=>cD (v:=nv) rfl lI (At.cell (At.grownOw hha U hq Dd) rfl)) hS ?_
 refine iZ (dd:=some 91) 5 jW rfl rfl rfl rfl (Yd.val (cz rfl pQ rfl c) ⟨.inl hS,?_⟩)
 refine To 6 rfl (ez (u:= .agg #[_,_,_]) rfl lz F8 rfl Dd Dd λV al ao f X=>⟨.inl (cB hS (dA.grown f nv.ownBlock)),?_⟩)
 obtain⟨hha,hno,hmp,hX⟩:=f.k4 hha hno hmp hX
 replace hB:=cX hB f hN0
 replace c:=f.at c
 replace hS:=cB hS (dA.grown f nv.ownBlock)
 refine To 7 rfl (dP (v:=nv) (v2:= .slice (some ⟨V,0,none⟩) 1 1) rfl rfl lz F8 Dd hno (eJ X rfl) rfl (m3 hB) (by omega) (by omega) λY ap e d=>⟨.inl (cB hS e),?_⟩)
 replace hS:=cB hS e
 replace d:=cH.snoc (enc:=WH) (x:=⟨l,lo,hi⟩) rfl rfl rfl rfl d
 replace hha:=At.grownOw hha hno e Dd
 replace hmp:=dy.grownOw hmp hno e
 replace hX:=Dx.trans hX (Dx.row hno e)
 replace c:=ad5 c E e
 refine Tc 8 rfl rfl hS<|Tf 9 rfl rfl ju hS<|To 10 rfl (de (v:=Y) rfl rfl lI (dr.one d.sl) hha fF λaq h Z=>⟨.inr jW,?_⟩)
 replace hmp:=dy.grownAt hmp hha h
 replace hX:=Dx.trans hX (Dx.grown h fF hla)
 replace c:=At.grownAt c hha h Dd
 replace d:=cH.grownAt d hha h Dd
 replace hha:=Z
 replace hha:At _ _ #[_,_,_] _:=hha
 refine Td<|Zd dA λaa ab=> ?_
 obtain⟨hha,hmp,hX,c,d⟩:=ab.k5 hha hmp hX c d
 have hS:=dA.refl aa
 refine Tq 0 rfl rfl hS<|Tc 1 rfl rfl hS<|Tf 2 rfl rfl uz hS<|Tk 3 rfl (λ_ hq=>cD (v:= .map (some bm)) rfl Az (At.cell (hq.at hha) rfl)) hS<|Tk 4 rfl (λ_ hq=>cz rfl pQ rfl (hq.at c)) hS<|Ti 5 rfl rfl hS<|Tk 6 rfl (λ_ _=>d5 rfl rfl Om Om) hS<|To 7 rfl (fN (enc:=yb) (encV:=eQ) (k:=⟨l,lo,hi⟩) (v:=((ns.length+2:Nat):Int)) rfl rfl rfl AZ BR (λa=>⟨a,rfl⟩) F3 hmp λar o ac=>⟨.inr jW,?_⟩)
 replace hha:=At.grownMap hha hmp o
 replace hX:=Dx.trans hX (Dx.grown o fF hlm)
 replace d:=cH.grownMap d hmp o
 replace hmp:=ac
 rw[MM hnew]at hmp
 refine Td<|Zr<|Zi rfl<|Zv (d5 rfl rfl Om Om)<|Zi rfl<|ZZ rfl<|Zt<|dH (v:= .int .i64 _) rfl (v1:= .int .i64 0) rfl ?_
 exact⟨ns++[⟨l,lo,hi⟩],ns.length+2,0,rfl,hX,⟨⟨_,hha,d⟩,hmp,hla,hlm,hwf.snoc hnew hlo hhi h0 l1 l2 h24,ix,htop⟩,V3 hlo hhi⟩
 omega
theorem md (N ba bm R:Nat) (ns:List Nd) (id:Int) (w:World) (hD:fM 222 228 N ba bm R w ns) (hid:id≤9223372036854775807):
    Fn Tryz.prog 119 #[.pointer (some ⟨ba,0,none⟩), .int .i64 id] w λv w'=>v= .tuple #[.int .i64 ((nc ns id).l:Int), .int .i64 ((nc ns id).lo:Int), .int .i64 ((nc ns id).hi:Int), .bool (je ns id)]:=by
 refine cK (n:=31) Tryz.func119 rfl rfl rfl λhB=> ?_
 obtain⟨nv,hha,hno⟩:=hD.out
 have hmp:=hD.hm
 have hwf:=hD.wf
 have hroom:=hD.room
 have htop:=hD.top
 have hla:=hD.la
 have hlm:=hD.lm
 refine Zr<|Zi rfl<|Zi rfl<|Zi rfl<|Zb rfl<|ct<|Zq<|Zr<|Zp rfl<|Zv (rA rfl rfl Tryz.underlying166)<|Zb rfl<|Zp rfl<|Zi rfl<|ZC Kz (l5 _ _ _ _ _ _ _ (fM.below hB hD) pr) rfl λm W7 c d=> ?_
 replace hB:=Ze hB c
 obtain rfl:=d
 refine Zv (eK rfl)<|Zb rfl<|ct<|ZQ rfl (λb=> ?_) λb=> ?_
 refine Zr<|Zi rfl<|Zi rfl<|Zi rfl<|Zb rfl<|ct<|Zt<|Hb (v:= .int .i64 0) rfl (v1:= .int .i64 0) rfl (v2:= .int .i64 0) rfl (v3:= .bool false) rfl ⟨hB,?_⟩
 obtain⟨ht,hn⟩:=Ub b
 rw[ht,hn]
 rfl
 refine cx ?_
 obtain⟨ht,hn⟩:=Ri b
 have hth:=pT.1 ht
 refine Zr<|Zp rfl<|Zc rfl<|Zf rfl ju<|ZL nv rfl lI (On hB hha) rfl<|Zi rfl<|Zv (jY rfl rfl Om Om)<|Zv (dp (v:=nv) rfl ((Below.ow hB hno)).sl rfl lz Om Om)<|Zv (jb rfl pQ (dr.cell ((Below.ow hB hno)).sl px oH Om Om 0 rfl) (dr.cell ((Below.ow hB hno)).sl px oH Om Om 1 rfl) (dr.cell ((Below.ow hB hno)).sl px oH Om Om 2 rfl))<|Zy (cM Er rfl λo p e f a=> ?_)
 have g:=ZO e hB
 replace hB:=Ze hB f
 refine Zy (cA rfl rfl pQ rfl a rfl rfl λq h i=> ?_)
 replace hB:=Zg hB h g
 replace a:=i
 refine ct<|Zd dA λj k=> ?_
 obtain⟨hB,a⟩:=k.k2 hB a
 have hS:=dA.refl j
 refine Tf 0 rfl rfl ql hS<|Tk 1 rfl (λ_ hq=>cD (v:= .int .i64 _) rfl cR (At.cell (hq.at a) rfl)) hS<|Tf 2 rfl rfl Ii hS<|Tk 3 rfl (λ_ hq=>cD (v:= .int .i64 _) rfl cR (At.cell (hq.at a) rfl)) hS<|Tf 4 rfl rfl HU hS<|Tk 5 rfl (λ_ hq=>cD (v:= .int .i64 _) rfl cR (At.cell (hq.at a) rfl)) hS<|Ti 6 rfl rfl hS<|Ti 7 rfl rfl hS<|Ti 8 rfl rfl hS<|Ty 9 rfl rfl hS<|Td<|Zt<|Hb (v:= .int .i64 _) rfl (v1:= .int .i64 _) rfl (v2:= .int .i64 _) rfl (v3:= .bool true) rfl ⟨hB,?_⟩
 rw[ht,hn]
theorem kV (N ba bm bz R:Nat) (ns:List Nd) (id:Int) (w:World) (hz:At w bz #[.pointer (some ⟨ba,0,none⟩)] 282) (hD:fM 222 228 N ba bm R w ns) (hid:id≤9223372036854775807):
    Fn Tryz.prog 273 #[.pointer (some ⟨bz,0,none⟩), .int .i64 id] w λv w'=>v= .int .i64 (vi ns id):=by
 refine cK (n:=28) Tryz.func273 rfl rfl rfl λhB=> ?_
 refine Zr<|ZZ rfl<|Zq<|Zr<|Zi rfl<|Zv (dO rfl rfl)<|ZX rfl (λa=> ?_) λa=> ?_
 refine Zs<|Zs<|Zb rfl<|ct<|cN rfl<|Zr<|ZZ rfl<|Zt<|cZ (v:= .int .i64 24) rfl ⟨hB,?_⟩
 exact aab (.inl a)
 refine Zi rfl<|Zv (dO rfl rfl)<|Zb rfl<|ct<|ZQ rfl (λb=> ?_) λb=> ?_
 refine Zr<|ZZ rfl<|Zt<|cZ (v:= .int .i64 24) rfl ⟨hB,?_⟩
 exact aab (.inr b)
 refine cx<|Zq<|Zr<|Zp rfl<|Zc rfl<|Zf rfl uF<|ZL (.pointer (some ⟨ba,0,none⟩)) rfl AW (On hB hz) rfl<|Zi rfl<|ZC JT (md _ _ _ _ _ _ _ (fM.below hB hD) pr) rfl λf g d e=> ?_
 replace hB:=Ze hB d
 obtain rfl:=e
 refine Zw (.tuple #[.int .i64 _, .int .i64 _, .int .i64 _, .bool _]) rfl<|Zv (EP rfl)<|Zv (Gy rfl)<|Zv (GL rfl)<|Zv (GC rfl)<|Zi rfl<|Zi rfl<|Zi rfl<|Zb rfl<|ct<|Zr<|Zb rfl<|ct<|ZQ rfl (λc=> ?_) λc=> ?_
 refine Zr<|Zi rfl<|ZZ rfl<|Zt<|cZ (v:= .int .i64 _) rfl ⟨hB,?_⟩
 exact abZ c
 refine cx<|Zr<|ZZ rfl<|Zt<|cZ (v:= .int .i64 _) rfl ⟨hB,?_⟩
 exact abO a b c
theorem uv (N ba bm bz R:Nat) (ns:List Nd) (xi:Value) (li:List Int) (w:World) (hz:At w bz #[.pointer (some ⟨ba,0,none⟩)] 282) (hD:fM 222 228 N ba bm R w ns) (hli:dr dX 1 w xi li) (hlb:li.length≤1000) (hmx:∀x,x∈li→x≤9223372036854775807):
    Fn Tryz.prog 271 #[.pointer (some ⟨bz,0,none⟩),xi] w λv w'=>v= .bool (li.all (pk ns)):=by
 refine cK (n:=20) Tryz.func271 rfl rfl rfl λhB=> ?_
 refine Zr<|Zb rfl<|ct<|Zq<|Zr<|Zp rfl<|Zv (rA rfl rfl Tryz.underlying238)<|ct<|dE rfl<|cx<|Zq<|Zr<|Zw xi rfl ?_
 refine Zv (db (v:=xi) rfl (Below.slT hB hli) cV)<|ZZ rfl<|cy ?_
 refine cW (σ:=(Nat)) [4,4,6,6,11,19] (λk=>[(11, .int .i64 (k:Int))]) (λk W=>(Below w.heap.size w W)∧(k≤li.length)∧(∀q,q<k→pk ns (li.getD q 0)=true)∧(True)) (λk=>li.length-k) (0) ⟨rfl,trivial⟩ ⟨hB,(me _),eO,trivial⟩ ?_
 rintro k f g ⟨hB,hk,hq,_⟩ h b
 refine Zr<|Zv (dq rfl rfl)<|ct<|Zq<|ZQ rfl (λc=> ?_) λc=> ?_
 refine cx<|Zq<|cy<|Zr<|Zv (dp (v:=xi) rfl (Below.slT hB hli) rfl cV Om Om)<|Zv (cD (v:= .int .i64 _) rfl cR (dr.cell (Below.slT hB hli) eD 0 Om Om 0 rfl))<|ZZ rfl ?_
 have hmk:=hmx (li.getD k 0) (dF (by omega))
 refine Zr<|Zp rfl<|Zi rfl<|ZC DL (kV _ _ _ _ _ _ _ _ (On hB hz) (fM.below hB hD) pr) rfl λi j d e=> ?_
 replace hB:=Ze hB d
 obtain rfl:=e
 refine Zv (dq rfl rfl)<|ct<|ZQ rfl (λa=> ?_) λa=> ?_
 refine Zr<|Zb rfl<|ct<|Zt<|cZ (v:= .bool false) rfl ⟨hB,?_⟩
 exact Rc (k:=k) Om a
 refine cx<|ZT rfl rfl rfl ?_
 exact b _ _ (k+1) Za ⟨rfl,trivial⟩ ⟨hB,Om,(dT hq (VK a)),trivial⟩ Zo
 refine cT<|Zr<|Zb rfl<|ct<|Zt<|cZ (v:= .bool true) rfl ⟨hB,?_⟩
 exact Rm (k:=k) Om hq
theorem oX (N ba bm bz R:Nat) (ns:List Nd) (l lo hi:Nat) (w:World) (hN0:N≤w.heap.size) (hz:At w bz #[.pointer (some ⟨ba,0,none⟩)] 282) (hD:fM 222 228 N ba bm R w ns) (hlo:lo<ns.length+2) (hhi:hi<ns.length+2) (l1:l<d6 ns lo) (l2:l<d6 ns hi) (h24:l<24):
    lk Tryz.prog 275 #[.pointer (some ⟨bz,0,none⟩), .int .i64 (l:Int), .int .i64 (lo:Int), .int .i64 (hi:Int)] w λv w'=>PO 222 228 N ba bm R w ns (min hi 1) (l) (up l (M ns lo) (M ns hi)) v w':=by
 refine dL (n:=23) (N:=N) Tryz.func275 rfl rfl rfl λhB=> ?_
 have hX:Dx 228 N [ba,bm] w w:=Dx.refl
 refine Zr<|Zi rfl<|ZZ rfl<|Zq<|Zr<|Zi rfl<|Zv (dO rfl rfl)<|ct<|ZQ rfl (λa=> ?_) λa=> ?_
 refine Zr<|Zi rfl<|Zi rfl<|ZZ rfl<|Zt<|dH (v:= .int .i64 _) rfl (v1:= .int .i64 0) rfl ?_
 exact⟨ns,lo,0,rfl,hX,hD,kc.same hlo (Nat.le_of_lt l1) (Lj a)⟩
 refine cx<|Zr<|Zp rfl<|Zc rfl<|Zf rfl uF<|ZL (.pointer (some ⟨ba,0,none⟩)) rfl AW hz rfl<|Zi rfl<|Zi rfl<|Zi rfl<|ZH SP (rn N ba bm R ns l lo hi _ hN0 hD hlo hhi Om l1 l2 h24) rfl λf g b=> ?_
 obtain⟨h,i,j,rfl,c,d,e⟩:=b
 replace hX:=Dx.trans hX (c)
 replace hD:=d
 refine Zv (c7 rfl)<|Zv (da rfl)<|Zi rfl<|ZZ rfl<|Zt<|dH (v:= .int .i64 _) rfl (v1:= .int .i64 _) rfl ?_
 exact⟨_,_,_,rfl,hX,hD,e.weak (show 1≤min hi 1 by omega) (λ_=>Iff.rfl)⟩
theorem nb (N ba bm bz R:Nat) (ns:List Nd) (f l:Nat) (w:World) (hz:At w bz #[.pointer (some ⟨ba,0,none⟩)] 282) (hD:fM 222 228 N ba bm R w ns) (hf:f<ns.length+2):
    Fn Tryz.prog 274 #[.pointer (some ⟨bz,0,none⟩), .int .i64 (f:Int), .int .i64 (l:Int)] w λv w'=>v= .tuple #[.int .i64 ((dK ns f l:Nat):Int), .int .i64 ((ef ns f l:Nat):Int)]:=by
 refine cK (n:=32) Tryz.func274 rfl rfl rfl λhB=> ?_
 have hroom:=hD.room
 have htop:=hD.top
 refine Zr<|Zi rfl<|ZZ rfl<|Zq<|Zr<|Zp rfl<|Zc rfl<|Zf rfl uF<|ZL (.pointer (some ⟨ba,0,none⟩)) rfl AW (On hB hz) rfl<|Zi rfl<|ZC JT (md _ _ _ _ _ _ _ (fM.below hB hD) (by omega)) rfl λe W7 c d=> ?_
 replace hB:=Ze hB c
 obtain rfl:=d
 refine Zw (.tuple #[.int .i64 _, .int .i64 _, .int .i64 _, .bool _]) rfl<|Zv (EP rfl)<|Zv (Gy rfl)<|Zv (GL rfl)<|Zv (GC rfl)<|Zi rfl<|Zi rfl<|Zi rfl<|Zb rfl<|ct<|Zr<|Zb rfl<|ZX rfl (λa=> ?_) λa=> ?_
 refine Zi rfl<|Zi rfl<|Zv (dO rfl rfl)<|Zb rfl<|ct<|ZQ rfl (λb=> ?_) λb=> ?_
 refine Zr<|Zi rfl<|Zi rfl<|Zi rfl<|ZZ rfl<|Zt<|dH (v:= .int .i64 _) rfl (v1:= .int .i64 _) rfl ⟨hB,?_⟩
 exact abf a b
 refine cx<|Zr<|Zi rfl<|Zi rfl<|ZZ rfl<|Zt<|dH (v:= .int .i64 _) rfl (v1:= .int .i64 0) rfl ⟨hB,?_⟩
 exact aat hf (λh=>b h.2)
 refine Zs<|Zs<|Zs<|Zb rfl<|ct<|dE rfl<|cx<|Zr<|Zi rfl<|Zi rfl<|ZZ rfl<|Zt ?_
 refine dH (v:= .int .i64 _) rfl (v1:= .int .i64 0) rfl ⟨hB,?_⟩
 exact aat hf (λh=>by rw[a]at h;cases h.1)
end
section
theorem RG:d4 Tryz.prog 324=some (.agg #[.pointer none, .nilFunc, .nilFunc, .map none]):=by kernel_rfl
theorem AL:(Tryz.prog.info? 238).map (·.size)=some 1:=by kernel_rfl
theorem Ip:(Tryz.prog.info? 317).map (·.size)=some 1:=by kernel_rfl
theorem HX:(Tryz.prog.info? 318).map (·.size)=some 1:=by kernel_rfl
theorem IX:(Tryz.prog.info? 322).map (·.size)=some 1:=by kernel_rfl
theorem tE (h0:dm f x0=c0_0) (k0:c0_0.cells= #[c0_0]) (h1:dm f x1=c1_0) (k1:c1_0.cells= #[c1_0]) (h2:dm f x2=c2_0) (k2:c2_0.cells= #[c2_0]) (h3:dm f x3=c3_0) (k3:c3_0.cells= #[c3_0]):
    (execOp (dm f) ⟨d, .build 324 #[(0,x0),(1,x1),(2,x2),(3,x3)],ty,ps,af,g⟩).run Tryz.prog w= .ok (.value (.agg #[c0_0,c1_0,c2_0,c3_0])) w:=by
  obtain⟨i0,hi0,hz0⟩:=we.1 (show (Tryz.prog.info? 324).bind (·.zero)=_ from RG)
  obtain⟨j238,hj238,hs238⟩:=an.1 AL
  obtain⟨j317,hj317,hs317⟩:=an.1 Ip
  obtain⟨j318,hj318,hs318⟩:=an.1 HX
  obtain⟨j322,hj322,hs322⟩:=an.1 IX
  simp[execOp,h0,k0,h1,k1,h2,k2,h3,k3,Instr.build,zeroValue,typeInfo,sizeOf,hi0,hz0,run_underlying Tryz.underlying324,Instr.fill,d7,hj238,hs238,hj317,hs317,hj318,hs318,hj322,hs322]
theorem im:La Tryz.prog 320=some (2,1):=by kernel_rfl
theorem yo:cY Tryz.prog 259=true:=by kernel_rfl
theorem Ij:eb Tryz.prog 324 1=some 1:=by kernel_rfl
theorem PX:eN Tryz.prog 317=true:=by kernel_rfl
theorem zw:eb Tryz.prog 324 3=some 3:=by kernel_rfl
theorem Fy:eN Tryz.prog 322=true:=by kernel_rfl
theorem yU:d4 Tryz.prog 320=some (.agg #[.int .i64 0, .int .i64 0]):=by kernel_rfl
theorem jx (h0:dm f x0=c0_0) (k0:c0_0.cells= #[c0_0]) (h1:dm f x1=c1_0) (k1:c1_0.cells= #[c1_0]):
    (execOp (dm f) ⟨d, .build 320 #[(0,x0),(1,x1)],ty,ps,af,g⟩).run Tryz.prog w= .ok (.value (.agg #[c0_0,c1_0])) w:=by
  obtain⟨i0,hi0,hz0⟩:=we.1 (show (Tryz.prog.info? 320).bind (·.zero)=_ from yU)
  obtain⟨j3,hj3,hs3⟩:=an.1 fL
  simp[execOp,h0,k0,h1,k1,Instr.build,zeroValue,typeInfo,sizeOf,hi0,hz0,run_underlying Tryz.underlying320,Instr.fill,d7,hj3,hs3]
theorem Gp:na Tryz.prog 322=some (320,3):=by kernel_rfl
theorem P6 (hx:dm f x= .agg #[.int .i64 a0, .int .i64 a1]) (hy:dm f y= .agg #[.int .i64 b0, .int .i64 b1]):
    (execOp (dm f) ⟨d, .binOp .eql 320 x y t2,ty,ps,af,g⟩).run Tryz.prog w= .ok (.value (.bool (decide ((a0=b0∧a1=b1))))) w:=by
  have hg:Tryz.prog.eqGuardType Tryz.prog.depth 320=false:=by kernel_rfl
  have ha:=m6 (P:=Tryz.prog) w 9999 2 320 3 #[.int .i64 a0, .int .i64 a1] #[.int .i64 b0, .int .i64 b1]
    (λi=> .int .i64 ([a0,a1].getD i 0)) (λi=> .int .i64 ([b0,b1].getD i 0)) (λi=>[a0,a1].getD i 0==[b0,b1].getD i 0) Tryz.underlying320 jW (by simp[isAgg,run_underlying Tryz.underlying3])
    (λi hi=>by
      have:i=0∨i=1:=by omega
      rcases this with rfl|rfl<;>rfl)
    (λi hi=>by
      have:i=0∨i=1:=by omega
      rcases this with rfl|rfl<;>rfl)
    (λi hi=>run_equalIn_int w 9998 3 .i64 .i64 _ _ Tryz.underlying3)
  simp only[execOp,hx,hy,Sem.run_bind,run_eqGuard_agg _ _ _ _ _ _ _ hg,Result.andThen_ok,run_eql_struct,ha]
  simp[List.range,List.range.loop]
  by_cases q0:a0=b0<;>by_cases q1:a1=b1<;>simp[q0,q1]
theorem Cv:qV Tryz.prog 320 (λv=>∃a:(Nat×Nat),v=qB a):=by
  refine pD Tryz.underlying320 ?_ ?_ ?_ ?_
  · rintro w _ _ ⟨a,rfl⟩ ⟨c,rfl⟩
    have hg:Tryz.prog.eqGuardType Tryz.prog.depth 320=false:=by kernel_rfl
    refine⟨_,sO hg (P6 rfl rfl),?_⟩
    rw[decide_eq_true_eq]
    constructor
    · rintro⟨h1,h2⟩
      exact congrArg _ (Prod.ext (by omega) (by omega))
    · intro h
      rw[zf _ _ h]
      exact⟨rfl,rfl⟩
  · rintro _ _ ⟨a,rfl⟩ ⟨c,rfl⟩
    exact .inl rfl
  · rintro w em _ ⟨a,rfl⟩
    obtain⟨j0,hj0,hs0⟩:=an.1 (show (Tryz.prog.info? 3).map (·.size)=some 1 by kernel_rfl)
    have h2:∀k,(Instr.checkKey em (k+1+1) 320 (qB a)).run Tryz.prog w= .ok () w:=λk=>by
      simp[qB,Instr.checkKey,part,isAgg,sizeOf,typeInfo,hj0,hs0,run_underlying Tryz.underlying320,run_underlying Tryz.underlying3,List.range']
    exact h2 9998
  · rintro _ ⟨a,rfl⟩
    simp[qB,Instr.sameBits]
theorem mg:eb Tryz.prog 324 0=some 0:=by kernel_rfl
theorem iS:eN Tryz.prog 238=true:=by kernel_rfl
theorem JN:cY Tryz.prog 274=true:=by kernel_rfl
theorem IC:eb Tryz.prog 324 2=some 2:=by kernel_rfl
theorem OL:eN Tryz.prog 318=true:=by kernel_rfl
theorem Af:kn Tryz.prog 320=some 2:=by kernel_rfl
theorem Jm:cY Tryz.prog 275=true:=by kernel_rfl
theorem Ry:cY Tryz.prog 271=true:=by kernel_rfl
theorem T1:cY Tryz.prog 272=true:=by kernel_rfl
theorem Sh:cY Tryz.prog 261=true:=by kernel_rfl
theorem Kv:cY Tryz.prog 256=true:=by kernel_rfl
theorem Ek:cY Tryz.prog 254=true:=by kernel_rfl
theorem SV:cY Tryz.prog 255=true:=by kernel_rfl
theorem sd (f g:Nat) (w:World):
    Fn Tryz.prog 261 #[.int .i64 (f:Int), .int .i64 (g:Int)] w λv w'=>v= .tuple #[.int .i64 ((pW.ends f g).1:Int), .bool (pW.ends f g).2]:=by
 refine cK (n:=17) Tryz.func261 rfl rfl rfl λhB=> ?_
 refine Zr<|Zi rfl<|Zb rfl<|ct<|Zq<|Zr<|Zi rfl<|Zv (dO rfl rfl)<|ZX rfl (λa=> ?_) λa=> ?_
 refine Zs<|Zs<|Zs<|Zb rfl<|ct<|cN rfl<|Zr<|Zi rfl<|Zi rfl<|Zb rfl<|ct<|Zt<|dH (v:= .int .i64 _) rfl (v1:= .bool true) rfl ⟨hB,?_⟩
 exact ZP (.inl a)
 refine Zi rfl<|Zi rfl<|Zv (dO rfl rfl)<|Zb rfl<|ct<|ZQ rfl (λb=> ?_) λb=> ?_
 refine Zr<|Zi rfl<|Zi rfl<|Zb rfl<|ct<|Zt<|dH (v:= .int .i64 _) rfl (v1:= .bool true) rfl ⟨hB,?_⟩
 exact ZP (.inr b)
 refine cx<|Zr<|Zi rfl<|Zi rfl<|Zv (dO rfl rfl)<|Zi rfl<|Zb rfl<|ct<|Zt<|dH (v:= .int .i64 _) rfl (v1:= .bool _) rfl ⟨hB,?_⟩
 exact abV a b
theorem tJ (f g:Nat) (w:World):
    Fn Tryz.prog 255 #[.int .i64 (f:Int), .int .i64 (g:Int)] w λv w'=>v= .tuple #[.int .i64 ((xy.ends f g).1:Int), .bool (xy.ends f g).2]:=by
 refine cK (n:=16) Tryz.func255 rfl rfl rfl λhB=> ?_
 refine Zr<|Zi rfl<|Zb rfl<|ct<|Zq<|Zr<|Zi rfl<|Zv (dO rfl rfl)<|ZX rfl (λa=> ?_) λa=> ?_
 refine Zs<|Zs<|Zs<|Zb rfl<|ct<|cN rfl<|Zr<|Zi rfl<|Zb rfl<|ct<|Zt<|dH (v:= .int .i64 0) rfl (v1:= .bool true) rfl ⟨hB,?_⟩
 exact YP (.inl a)
 refine Zi rfl<|Zi rfl<|Zv (dO rfl rfl)<|Zb rfl<|ct<|ZQ rfl (λb=> ?_) λb=> ?_
 refine Zr<|Zi rfl<|Zb rfl<|ct<|Zt<|dH (v:= .int .i64 0) rfl (v1:= .bool true) rfl ⟨hB,?_⟩
 exact YP (.inr b)
 refine cx<|Zr<|Zi rfl<|Zi rfl<|Zv (dO rfl rfl)<|Zi rfl<|Zb rfl<|ct<|Zt<|dH (v:= .int .i64 _) rfl (v1:= .bool _) rfl ⟨hB,?_⟩
 exact abQ a b
theorem tH (f g:Nat) (w:World):
    Fn Tryz.prog 257 #[.int .i64 (f:Int), .int .i64 (g:Int)] w λv w'=>v= .tuple #[.int .i64 ((rG.ends f g).1:Int), .bool (rG.ends f g).2]:=by
 refine cK (n:=20) Tryz.func257 rfl rfl rfl λhB=> ?_
 refine Zr<|Zi rfl<|Zb rfl<|ct<|Zq<|cy<|Zr<|Zi rfl<|Zv (dO rfl rfl)<|ZX rfl (λa=> ?_) λa=> ?_
 refine Zs<|Zs<|Zb rfl<|Zb rfl<|ct<|cN rfl<|Zr<|Zi rfl<|Zb rfl<|ct<|Zt<|dH (v:= .int .i64 0) rfl (v1:= .bool true) rfl ⟨hB,?_⟩
 exact Z0 (.inl a)
 refine Zi rfl<|Zv (dO rfl rfl)<|Zb rfl<|Zb rfl<|ct<|ZQ rfl (λb=> ?_) λb=> ?_
 refine Zr<|Zi rfl<|Zb rfl<|ct<|Zt<|dH (v:= .int .i64 0) rfl (v1:= .bool true) rfl ⟨hB,?_⟩
 exact Z0 (.inr b)
 refine Zr<|Zi rfl<|Zv (dO rfl rfl)<|Zb rfl<|ct<|ZQ rfl (λc=> ?_) λc=> ?_
 refine Zr<|Zi rfl<|Zi rfl<|Zb rfl<|ct<|Zt<|dH (v:= .int .i64 _) rfl (v1:= .bool true) rfl ⟨hB,?_⟩
 exact abz a b c
 refine cx<|Zr<|Zi rfl<|Zi rfl<|Zv (dO rfl rfl)<|Zi rfl<|Zb rfl<|ct<|Zt<|dH (v:= .int .i64 _) rfl (v1:= .bool _) rfl ⟨hB,?_⟩
 exact abs a b c
def Yb (ge:Nat) (o:Op):Prop:=∀(f g:Nat) (w:World),Fn Tryz.prog ge #[.int .i64 (f:Int), .int .i64 (g:Int)] w λv w'=>v= .tuple #[.int .i64 ((o.ends f g).1:Int), .bool (o.ends f g).2]
def DZ (ge gh:Nat) (o:Op) (n:Nat):Prop:=∀(N ba bm bz bd bx R:Nat) (ns:List Nd) (dl:List ((Nat×Nat)×Int)) (f g:Nat) (w:World),N≤w.heap.size→At w bz #[.pointer (some ⟨ba,0,none⟩)] 282→At w bd #[.pointer (some ⟨bz,0,none⟩), .func (.func ge) #[] #[], .func (.func gh) #[] #[], .map (some bx)] 324→fM 222 228 N ba bm R w ns→dy qB eQ w bx dl→tF o.res ns dl→N≤bx→bx≠bm→f<ns.length+2→g<ns.length+2→25-min (d6 ns f) (d6 ns g)≤n→
  lk Tryz.prog 259 #[.pointer (some ⟨bd,0,none⟩), .int .i64 (f:Int), .int .i64 (g:Int)] w λv w'=>PD 222 228 N ba bm R bx o.res w ns (o.cst ns f g) (min (d6 ns f) (d6 ns g)) (o.res (M ns f) (M ns g)) v w'
def Yp (ge gh:Nat) (o:Op) (n:Nat):Prop:=∀(N ba bm bz bd bx R:Nat) (ns:List Nd) (dl:List ((Nat×Nat)×Int)) (f0 f1 g0 g1 l:Nat) (w:World),N≤w.heap.size→At w bz #[.pointer (some ⟨ba,0,none⟩)] 282→At w bd #[.pointer (some ⟨bz,0,none⟩), .func (.func ge) #[] #[], .func (.func gh) #[] #[], .map (some bx)] 324→fM 222 228 N ba bm R w ns→dy qB eQ w bx dl→tF o.res ns dl→N≤bx→bx≠bm→f0<ns.length+2→f1<ns.length+2→g0<ns.length+2→g1<ns.length+2→l<d6 ns f0→l<d6 ns f1→l<d6 ns g0→l<d6 ns g1→l<24→24-l≤n→
  lk Tryz.prog gh #[.pointer (some ⟨bd,0,none⟩), .agg #[.int .i64 (f0:Int), .int .i64 (f1:Int)], .agg #[.int .i64 (g0:Int), .int .i64 (g1:Int)]] w λv w'=>PD 222 228 N ba bm R bx o.res w ns (o.hcst ns l f0 f1 g0 g1) (l+1) (o.resH (M ns f0) (M ns f1) (M ns g0) (M ns g1)) v w'
theorem vD (bz ge gh:Nat) (w:World):
    Fn Tryz.prog 272 #[.pointer (some ⟨bz,0,none⟩), .func (.func ge) #[] #[], .func (.func gh) #[] #[]] w λv w'=>∃bd bx,v= .func (.func 259) #[.pointer (some ⟨bd,0,none⟩)] #[]∧At w' bd #[.pointer (some ⟨bz,0,none⟩), .func (.func ge) #[] #[], .func (.func gh) #[] #[], .map (some bx)] 324∧dy qB eQ w' bx ([]:List ((Nat×Nat)×Int))∧w.heap.size≤bd∧w.heap.size≤bx:=by
 refine cK (n:=16) Tryz.func272 rfl rfl rfl λhB=> ?_
 refine Zr<|Zw _ rfl<|ct<|Zr<|Zp rfl<|Zw (.func _ _ _) rfl<|Zw (.func _ _ _) rfl<|Zy (hU (enc:=qB) (encV:=eQ) λd W5 e f a=> ?_)
 have g:=ZO e hB
 replace hB:=Ze hB f
 refine Zv (tE (h0:=rfl) (k0:=rfl) (h1:=rfl) (k1:=rfl) (h2:=rfl) (k2:=rfl) (h3:=rfl) (k3:=rfl) (c0_0:= .pointer (some ⟨bz,0,none⟩)) (c1_0:= .func _ _ _) (c2_0:= .func _ _ _) (c3_0:= .map (some d)))<|Zy (du (c:= #[_,_,_,_]) rfl rfl λb W8 h i j=> ?_)
 have k:=ZO h hB
 obtain⟨hB,a⟩:=i.k2 hB a
 refine Zp rfl<|ct<|Zr<|Zp rfl<|Zv (E3 (v:= .pointer (some ⟨b,0,none⟩)) rfl)<|Zw (.func (.func 259) #[.pointer (some ⟨b,0,none⟩)] #[]) rfl<|ct<|Zt<|cZ (v:= .func (.func 259) #[.pointer (some ⟨b,0,none⟩)] #[]) rfl ⟨hB,?_⟩
 exact⟨_,_,rfl,j,a,k,g⟩
theorem JB (ge n:Nat) (o:Op) (N ba bm bz bd bx R:Nat) (ns:List Nd) (dl:List ((Nat×Nat)×Int)) (f0 f1 g0 g1 l:Nat) (w:World) (hoh:∀ns l f0 f1 g0 g1,o.hcst ns l f0 f1 g0 g1=o.cst ns f1 g1) (hor:∀A0 A1 B0 B1,o.resH A0 A1 B0 B1=o.res A1 B1) (ih:DZ ge 256 o n) (hN0:N≤w.heap.size) (hz:At w bz #[.pointer (some ⟨ba,0,none⟩)] 282) (hbd:At w bd #[.pointer (some ⟨bz,0,none⟩), .func (.func ge) #[] #[], .func (.func 256) #[] #[], .map (some bx)] 324) (hD:fM 222 228 N ba bm R w ns) (hdn:dy qB eQ w bx dl) (hdone:tF o.res ns dl) (lox:N≤bx) (hxm:bx≠bm) (v0:f0<ns.length+2) (v1:f1<ns.length+2) (v2:g0<ns.length+2) (v3:g1<ns.length+2) (k0:l<d6 ns f0) (k1:l<d6 ns f1) (k2:l<d6 ns g0) (k3:l<d6 ns g1) (h24:l<24) (hn:24-l≤n):
    lk Tryz.prog 256 #[.pointer (some ⟨bd,0,none⟩), .agg #[.int .i64 (f0:Int), .int .i64 (f1:Int)], .agg #[.int .i64 (g0:Int), .int .i64 (g1:Int)]] w λv w'=>PD 222 228 N ba bm R bx o.res w ns (o.hcst ns l f0 f1 g0 g1) (l+1) (o.resH (M ns f0) (M ns f1) (M ns g0) (M ns g1)) v w':=by
 refine dL (n:=16) (N:=N) Tryz.func256 rfl rfl rfl λhB=> ?_
 have hX:Dx 228 N [bx,ba,bm] w w:=Dx.refl
 refine Zr<|Zy (du (c:= #[_,_]) rfl rfl λk W3 m b d=> ?_)
 obtain⟨hz,hbd⟩:=b.k2 hz hbd
 replace hD:=fM.ext b hD
 obtain⟨hdn,hX⟩:=b.k2 hdn hX
 replace hB:=cX hB b hN0
 refine Zy (du (c:= #[_,_]) rfl rfl λp W6 e a f=> ?_)
 have q:=Zn e d.lt
 obtain⟨hz,hbd⟩:=a.k2 hz hbd
 replace hD:=fM.ext a hD
 obtain⟨hdn,hX⟩:=a.k2 hdn hX
 replace hB:=cX hB a hN0
 replace d:=a.at d
 refine Zi rfl<|ZZ rfl<|Zr<|Zp rfl<|Zv (ff rfl rfl im Om Om)<|Zl rfl cR d rfl<|Zv (ff rfl rfl im Om Om)<|Zl rfl cR f rfl<|ZH yo (ih N ba bm bz bd bx R ns dl f1 g1 _ (go hN0 (Below.size hB)) hz hbd hD hdn hdone lox hxm v1 v3 Om) rfl λr s g=> ?_
 obtain⟨t,u,x,dl1_5,rfl,h,i,j,hdn1_5,hdone1_5⟩:=g
 replace hX:=Dx.trans hX h
 replace hD:=i
 replace hdn:=hdn1_5
 replace hdone:=hdone1_5
 refine Zv (c7 rfl)<|Zv (da rfl)<|Zi rfl<|ZZ rfl<|Zt<|dH (v:= .int .i64 _) rfl (v1:= .int .i64 _) rfl ?_
 rw[hor,hoh]
 exact⟨_,_,_,_,rfl,hX,hD,j.low Om,hdn,hdone⟩
set_option maxRecDepth 10000 in
theorem abo (ge gh n:Nat) (o:Op) (N ba bm bz bd bx R:Nat) (ns:List Nd) (dl:List ((Nat×Nat)×Int)) (f g:Nat) (w:World) (hO:Mw o) (hE:Yb ge o) (hcE:cY Tryz.prog ge=true) (hcH:cY Tryz.prog gh=true) (ih:DZ ge gh o n) (hH:Yp ge gh o n) (hN0:N≤w.heap.size) (hz:At w bz #[.pointer (some ⟨ba,0,none⟩)] 282) (hbd:At w bd #[.pointer (some ⟨bz,0,none⟩), .func (.func ge) #[] #[], .func (.func gh) #[] #[], .map (some bx)] 324) (hD:fM 222 228 N ba bm R w ns) (hdn:dy qB eQ w bx dl) (hdone:tF o.res ns dl) (lox:N≤bx) (hxm:bx≠bm) (hf:f<ns.length+2) (hg:g<ns.length+2) (hn:25-min (d6 ns f) (d6 ns g)≤n+1):
    lk Tryz.prog 259 #[.pointer (some ⟨bd,0,none⟩), .int .i64 (f:Int), .int .i64 (g:Int)] w λv w'=>PD 222 228 N ba bm R bx o.res w ns (o.cst ns f g) (min (d6 ns f) (d6 ns g)) (o.res (M ns f) (M ns g)) v w':=by
 refine dL (n:=130) (N:=N) Tryz.func259 rfl rfl rfl λhB=> ?_
 have hX:Dx 228 N [bx,ba,bm] w w:=Dx.refl
 have hwf:=hD.wf
 have hroom:=hD.room
 have htop:=hD.top
 refine Zr<|Zi rfl<|ZZ rfl<|Zq<|Zr<|Zp rfl<|Zc rfl<|Zf rfl Ij<|ZL (.func (.func ge) #[] #[]) rfl PX hbd rfl<|Zi rfl<|Zi rfl ?_
 refine oM (dd:=some 26) rfl rfl rfl (yX (q:=ge) rfl hcE (v0:= .int .i64 _) rfl (v1:= .int .i64 _) rfl) (hE _ _ _) (λaz W7 p Z=> ?_)
 obtain⟨hz,hbd⟩:=p.k2 hz hbd
 replace hD:=fM.ext p hD
 obtain⟨hdn,hX⟩:=p.k2 hdn hX
 replace hB:=cX hB p hN0
 obtain rfl:=Z
 refine Zw (.tuple #[.int .i64 _, .bool _]) rfl<|Zv (c7 rfl)<|Zv (da rfl)<|Zi rfl<|Zb rfl<|ct<|Zr<|Zb rfl<|ct<|ZQ rfl (λr=> ?_) λr=> ?_
 refine Zr<|Zi rfl<|Zi rfl<|ZZ rfl<|Zt<|dH (v:= .int .i64 _) rfl (v1:= .int .i64 0) rfl ?_
 obtain⟨e1,e2,e3⟩:=hO.endT ns f g hwf hf hg r
 exact⟨ns,_,0,dl,rfl,hX,hD,kc.same e1 e2 e3,hdn,hdone⟩
 refine cx<|Zq<|Zr<|Zp rfl<|Zc rfl<|Zf rfl zw<|ZL (.map (some bx)) rfl Fy hbd rfl<|Zi rfl<|Zi rfl<|Zv (jx (h0:=rfl) (k0:=rfl) (h1:=rfl) (k1:=rfl) (c0_0:= .int .i64 _) (c1_0:= .int .i64 _))<|Zv (CE (enc:=qB) (encV:=eQ) (v0:=0) (k:=(f,g)) rfl rfl Gp Cv (λa=>⟨a,rfl⟩) zf xd rfl hdn)<|Zw (.tuple #[.int .i64 _, .bool _]) rfl<|Zv (c7 rfl) ?_
 refine Zv (da rfl)<|Zi rfl<|Zb rfl<|ct<|Zr<|Zb rfl<|ct<|ZQ rfl (λB=> ?_) λB=> ?_
 refine Zr<|Zi rfl<|Zi rfl<|ZZ rfl<|Zt<|dH (v:= .int .i64 _) rfl (v1:= .int .i64 0) rfl ?_
 obtain⟨id,he,i1,i2,i3⟩:=QB hdone B
 rw[he]
 exact⟨ns,id,0,dl,rfl,hX,hD,kc.same i1 i2 i3,hdn,hdone⟩
 refine cx ?_
 have C:=hB
 replace hB:=Below.refl W7.heap.size W7
 obtain⟨f0,g0,fg⟩:=hO.endF f g r
 have hlf:=og hwf hf
 have hlg:=og hwf hg
 have h24':min (d6 ns f) (d6 ns g)<24:=by
   by_cases q:2≤f
   · have:=pc hwf hf q;omega
   · have:=pc hwf hg (by omega);omega
 refine Zd dA λaa ab=> ?_
 replace hB:=Ze hB ab
 have hS:=dA.refl aa
 refine Tq 0 rfl rfl hS<|Tc 1 rfl rfl hS<|Tf 2 rfl rfl mg hS<|Tk 3 rfl (λ_ hq=>cD (v:= .pointer (some ⟨bz,0,none⟩)) rfl iS (At.cell (hq.at (On hB hbd)) rfl)) hS<|Ti 4 rfl rfl hS<|Tq 6 rfl rfl hS<|Tc 7 rfl rfl hS<|Tf 8 rfl rfl mg hS<|Tk 9 rfl (λ_ hq=>cD (v:= .pointer (some ⟨bz,0,none⟩)) rfl iS (At.cell (hq.at (On hB hbd)) rfl)) hS<|Ti 10 rfl rfl hS<|To 5 rfl (TC DL (kV _ _ _ _ _ _ _ _ (On hB hz) (fM.below hB hD) (by omega)) rfl λaA aB t D=>⟨.inl (hS.trans t),?_⟩)
 replace hB:=Ze hB t
 replace hS:=hS.trans t
 rw[FG hf]at D
 obtain rfl:=D
 refine To 11 rfl (TC DL (kV _ _ _ _ _ _ _ _ (On hB hz) (fM.below hB hD) (by omega)) rfl λaC aD u E=>⟨.inl (hS.trans u),?_⟩)
 replace hB:=Ze hB u
 replace hS:=hS.trans u
 rw[FG hg]at E
 obtain rfl:=E
 refine iZ (dd:=some 56) 12 jW rfl rfl rfl rfl (Yd.val (WS rfl rfl) ⟨.inl hS,?_⟩)
 refine Ti 13 rfl rfl hS<|Td ?_
 generalize hl:min (d6 ns f) (d6 ns g)=l at h24'
 have H1:=iE hwf hf (l:=l) (by omega) h24'
 have H2:=iE hwf hg (l:=l) (by omega) h24'
 have hn1:=acl (jc hwf f hf f0).choose_spec
 have hn2:=acl (jc hwf g hg g0).choose_spec
 have hla:=og hwf H1.va
 have hlb:=og hwf H2.va
 have vla:=H1.la
 have vlb:=H2.la
 have hco:=hO.cost ns f g l hwf hf hg r hl.symm h24'
 refine Zr<|Zy (cM yU rfl λaE aF ac ad c=> ?_)
 have F:=ZO ac hB
 replace hB:=Ze hB ad
 refine Zy (cM yU rfl λaG aH G ae d=> ?_)
 have H:=ZO G hB
 have s:=Zn G c.lt
 obtain⟨hB,c⟩:=ae.k2 hB c
 refine ct<|Zr<|Zp rfl<|Zc rfl<|Zf rfl mg<|ZL (.pointer (some ⟨bz,0,none⟩)) rfl iS (On hB hbd) rfl<|Zi rfl<|Zi rfl<|ZC JN (nb _ _ _ _ _ _ _ _ _ (On hB hz) (fM.below hB hD) pr) rfl λaI aJ af ag=> ?_
 obtain⟨hB,c,d⟩:=af.k3 hB c d
 obtain rfl:=ag
 refine Zw (.tuple #[.int .i64 _, .int .i64 _]) rfl<|Zv (c7 rfl)<|Zv (da rfl)<|Zv (ff rfl rfl im Om Om)<|Zy (de (v:= .int .i64 _) rfl rfl cR rfl c (by show 0<2;decide) λaK I ah=> ?_)
 replace hB:=Zg hB I F
 replace d:=At.grownNe d (Ne.symm s) I
 replace c:=ah
 replace c:At _ _ #[_,_] _:=c
 refine Zv (ff rfl rfl im Om Om)<|Zy (de (v:= .int .i64 _) rfl rfl cR rfl c (by show 1<2;decide) λaL J ai=> ?_)
 replace hB:=Zg hB J F
 replace d:=At.grownNe d (Ne.symm s) J
 replace c:=ai
 replace c:At _ _ #[_,_] _:=c
 refine ct<|Zr<|Zp rfl<|Zc rfl<|Zf rfl mg<|ZL (.pointer (some ⟨bz,0,none⟩)) rfl iS (On hB hbd) rfl<|Zi rfl<|Zi rfl<|ZC JN (nb _ _ _ _ _ _ _ _ _ (On hB hz) (fM.below hB hD) pr) rfl λaM aN aj ak=> ?_
 obtain⟨hB,c,d⟩:=aj.k3 hB c d
 obtain rfl:=ak
 refine Zw (.tuple #[.int .i64 _, .int .i64 _]) rfl<|Zv (c7 rfl)<|Zv (da rfl)<|Zv (ff rfl rfl im Om Om)<|Zy (de (v:= .int .i64 _) rfl rfl cR rfl d (by show 0<2;decide) λaO K al=> ?_)
 replace hB:=Zg hB K H
 replace c:=At.grownNe c s K
 replace d:=al
 replace d:At _ _ #[_,_] _:=d
 refine Zv (ff rfl rfl im Om Om)<|Zy (de (v:= .int .i64 _) rfl rfl cR rfl d (by show 1<2;decide) λaP L ao=> ?_)
 replace hB:=Zg hB L H
 replace c:=At.grownNe c s L
 replace d:=ao
 replace d:At _ _ #[_,_] _:=d
 refine ct ?_
 replace hz:=On hB hz
 replace hbd:=On hB hbd
 replace hD:=fM.below hB hD
 replace hdn:=ac1 hB hdn
 replace hX:=Dx.trans hX (Dx.below hB)
 have hzs:=go hN0 (Below.size C)
 replace hB:=Below.trans C (Below.mono hB hzs)
 refine Zr<|Zp rfl<|Zv (ff rfl rfl im Om Om)<|Zl rfl cR c rfl<|Zv (ff rfl rfl im Om Om)<|Zl rfl cR d rfl<|ZH yo (ih N ba bm bz bd bx R ns dl (dK ns f l) (dK ns g l) _ (go hN0 (Below.size hB)) hz hbd hD hdn hdone lox hxm H1.va H2.va Om) rfl λaQ aR ap=> ?_
 obtain⟨O,P,Q,dl11_5,rfl,h,aq,e,hdn11_5,hdone11_5⟩:=ap
 replace hz:=adD hD hdn h hz Dd Dd
 replace hbd:=adD hD hdn h hbd Dd Dd
 replace hX:=Dx.trans hX h
 replace hB:=Below.dx hB (am _) hN0 h
 replace c:=adD hD hdn h c Dd Dd
 replace d:=adD hD hdn h d Dd Dd
 replace hD:=aq
 replace hdn:=hdn11_5
 replace hdone:=hdone11_5
 refine Zw (.tuple #[.int .i64 (P:Int), .int .i64 Q]) rfl<|Zv (c7 rfl)<|Zv (da rfl)<|Zi rfl<|ZZ rfl<|Zq<|Zr<|Zi rfl<|Zv (eV rfl rfl)<|ct<|ZQ rfl (λx=> ?_) λx=> ?_
 refine Zr<|Zi rfl<|Zi rfl<|ZZ rfl<|Zt<|dH (v:= .int .i64 0) rfl (v1:= .int .i64 _) rfl ?_
 try rw[hl]
 exact⟨_,0,_,_,rfl,hX,hD,e.fail x Om,hdn,hdone⟩
 refine cx ?_
 have he1:Q=0:=aaS x
 subst he1
 obtain⟨a1,a2,a3⟩:=e.old H1.va
 obtain⟨b1,b2,b3⟩:=e.old H1.vb
 obtain⟨c1,c2,c3⟩:=e.old H2.va
 obtain⟨d1,d2,d3⟩:=e.old H2.vb
 obtain⟨o1,o2,_⟩:=e.ok rfl
 have vlc:=H1.lb
 have vld:=H2.lb
 refine Zd (λa b=>Dx 228 N [bx,ba,bm] a b) λS j=> ?_
 obtain⟨hz,hbd⟩:=j.k2 hz hbd
 replace hD:=fM.ext j hD
 obtain⟨hdn,hX⟩:=j.k2 hdn hX
 replace hB:=cX hB j hN0
 obtain⟨c,d⟩:=j.k2 c d
 have hS:Dx 228 N [bx,ba,bm] S S:=Dx.refl
 refine Tq 0 rfl rfl hS<|Tc 1 rfl rfl hS<|Tf 2 rfl rfl IC hS<|Tk 3 rfl (λ_ hq=>cD (v:= .func (.func gh) #[] #[]) rfl OL (At.cell (adD hD hdn hq hbd Dd Dd) rfl)) hS<|Tq 4 rfl rfl hS<|Tk 5 rfl (λ_ hq=>cz rfl Af rfl (adD hD hdn hq c Dd Dd)) hS<|Tk 6 rfl (λ_ hq=>cz rfl Af rfl (adD hD hdn hq d Dd Dd)) hS<|To 7 rfl (adV (iu (q:=gh) (first:= #[]) (cap:= #[]) (vs:= #[.pointer (some ⟨bd,0,none⟩), .agg #[_,_], .agg #[_,_]]) rfl hcH Hh) (hH N ba bm bz bd bx R O dl11_5 (dK ns f l) (ef ns f l) (dK ns g l) (ef ns g l) l _ (go hN0 (Below.size hB)) hz hbd hD hdn hdone lox hxm a1 b1 c1 d1 Om Om Om Om h24' Om) λaS aT y=>⟨.inl (PD.dx y),?_⟩)
 replace hS:=PD.dx y
 obtain⟨ar,T,U,dl14_7,rfl,i,au,m,hdn14_7,hdone14_7⟩:=y
 replace hz:=adD hD hdn i hz Dd Dd
 replace hbd:=adD hD hdn i hbd Dd Dd
 replace hX:=Dx.trans hX i
 replace hB:=Below.dx hB (am _) hN0 i
 replace c:=adD hD hdn i c Dd Dd
 replace d:=adD hD hdn i d Dd Dd
 replace hD:=au
 replace hdn:=hdn14_7
 replace hdone:=hdone14_7
 refine Tw 8 (.tuple #[.int .i64 (T:Int), .int .i64 U]) rfl rfl hS<|Tk 9 rfl (λ_ _=>c7 rfl) hS<|Tk 10 rfl (λ_ _=>da rfl) hS<|Ti 11 rfl rfl hS<|Ti 12 rfl rfl hS<|Td<|Zq ?_
 rw[hO.hpre ns O l _ _ _ _ e.pre hwf H1.va H1.vb H2.va H2.vb]at m
 refine Zr<|Zi rfl<|Zv (eV rfl rfl)<|ct<|ZQ rfl (λz=> ?_) λz=> ?_
 refine Zr<|Zi rfl<|Zi rfl<|ZZ rfl<|Zt<|dH (v:= .int .i64 0) rfl (v1:= .int .i64 _) rfl ?_
 try rw[hl]
 exact⟨_,0,_,_,rfl,hX,hD,e.fail2 m z Om,hdn,hdone⟩
 refine cx ?_
 have he2:U=0:=aaS z
 subst he2
 obtain⟨p1,p2,_⟩:=m.ok rfl
 obtain⟨q1,_,q3⟩:=m.old o1
 refine Zr<|Zp rfl<|Zc rfl<|Zf rfl mg<|ZL (.pointer (some ⟨bz,0,none⟩)) rfl iS hbd rfl<|Zi rfl<|Zi rfl<|Zi rfl<|ZH Jm (oX N ba bm bz R ar l P T _ (go hN0 (Below.size hB)) hz hD q1 p1 Om Om h24') rfl λaU aV av=> ?_
 obtain⟨aW,V,aw,rfl,A,ax,W⟩:=av
 replace hbd:=At.dx hD A hbd Dd Dd
 replace hdn:=dy.dx hD A hdn hxm
 replace hX:=Dx.trans hX (aea A)
 replace hD:=ax
 refine Zw (.tuple #[.int .i64 (V:Int), .int .i64 aw]) rfl<|Zv (c7 rfl)<|Zv (da rfl)<|Zi rfl<|ZZ rfl<|Zq ?_
 have hgot:=Xu hO hwf hf hg hl.symm h24' e m (W.cheap (adv _ _)) hco
 replace hdone:=hdone.pre W.pre
 refine Zr<|Zi rfl<|Zv (dO rfl rfl)<|ct<|ZQ rfl (λX=> ?_) λX=> ?_
 refine cI<|Zp rfl<|Zc rfl<|Zf rfl zw<|ZL (.map (some bx)) rfl Fy hbd rfl<|Zi rfl<|Zi rfl<|Zv (jx (h0:=rfl) (k0:=rfl) (h1:=rfl) (k1:=rfl) (c0_0:= .int .i64 _) (c1_0:= .int .i64 _))<|Zi rfl ?_
 refine gU (dd:=none) rfl rfl rfl (fN (enc:=qB) (encV:=eQ) (k:=(f,g)) (v:=(V:Int)) rfl rfl rfl Gp Cv (λa=>⟨a,rfl⟩) zf hdn (λaX Y ay=> ?_))
 replace hD:=fM.grownMap hD hdn hxm Y
 replace hX:=Dx.trans hX (Dx.grown Y fF lox)
 replace hdn:=ay
 refine ct<|Zr<|Zi rfl<|Zi rfl<|Zi rfl<|ZZ rfl<|Zt<|dH (v:= .int .i64 _) rfl (v1:= .int .i64 _) rfl ?_
 try rw[hl]
 exact⟨_,_,_,_,rfl,hX,hD,hgot,hdn,PK hdone hf hg hl hgot X⟩
 refine cx<|Zr<|Zi rfl<|Zi rfl<|Zi rfl<|ZZ rfl<|Zt<|dH (v:= .int .i64 _) rfl (v1:= .int .i64 _) rfl ?_
 try rw[hl]
 exact⟨_,_,_,_,rfl,hX,hD,hgot,hdn,hdone⟩
theorem AU (ge gh:Nat) (o:Op) (hO:Mw o) (hE:Yb ge o) (hcE:cY Tryz.prog ge=true) (hcH:cY Tryz.prog gh=true) (hH:∀n,DZ ge gh o n→Yp ge gh o n):∀n,DZ ge gh o n
  |0=>λN ba bm bz bd bx R ns dl f g w _ _ _ hD _ _ _ _ hf _ hn=>by
    have:=og hD.wf hf
    omega
  |n+1=>λN ba bm bz bd bx R ns dl f g w=>abo ge gh n o N ba bm bz bd bx R ns dl f g w hO hE hcE hcH (AU ge gh o hO hE hcE hcH hH n) (hH n (AU ge gh o hO hE hcE hcH hH n))
theorem l6 (ge gh:Nat) (o:Op) (N ba bm bz R:Nat) (ns:List Nd) (f g:Nat) (w:World) (hN0:N≤w.heap.size) (hz:At w bz #[.pointer (some ⟨ba,0,none⟩)] 282) (hD:fM 222 228 N ba bm R w ns) (hf:f<ns.length+2) (hg:g<ns.length+2) (hDo:∀n,DZ ge gh o n):
    lk Tryz.prog 254 #[.pointer (some ⟨bz,0,none⟩), .int .i64 (f:Int), .int .i64 (g:Int), .func (.func ge) #[] #[], .func (.func gh) #[] #[]] w λv w'=>PO 222 228 N ba bm R w ns (o.cst ns f g) (min (d6 ns f) (d6 ns g)) (o.res (M ns f) (M ns g)) v w':=by
 refine dL (n:=27) (N:=N) Tryz.func254 rfl rfl rfl λhB=> ?_
 have hX:Dx 228 N [ba,bm] w w:=Dx.refl
 have hroom:=hD.room
 have htop:=hD.top
 refine Zr<|Zi rfl<|ZZ rfl<|Zq<|Zr<|Zp rfl<|Zi rfl<|Zi rfl<|Zy (Ir (u0:= .int .i64 _) (u1:= .int .i64 _) rfl rfl cV eP rfl rfl Dd Dd λi W7 j d k=> ?_)
 have l:N≤i:=j▸(go hN0 (Below.size hB))
 replace hz:=d.at hz
 replace hD:=fM.ext d hD
 replace hX:=Dx.trans hX (Dx.ext d)
 replace hB:=cX hB d hN0
 have a:=zT (enc:=dX) (sz:=1) (a0:=_) (a1:=_) k rfl rfl rfl rfl l
 refine ZC Ry (uv N ba bm bz R ns _ [(f:Int),(g:Int)] _ hz hD a.sl fF ix) rfl λx y b m=> ?_
 replace hz:=b.at hz
 replace hD:=fM.ext b hD
 replace hX:=Dx.trans hX (Dx.ext b)
 replace hB:=cX hB b hN0
 replace a:=b.ow a
 obtain rfl:=m
 refine Zv (eK rfl)<|ct<|ZQ rfl (λh=> ?_) λh=> ?_
 exact absurd (NX h) (by simp[pk];omega)
 refine cx ?_
 have hbmlt:=hD.hm.lt
 have hszb:=Below.size hB
 have hNszb:=go hN0 hszb
 refine Zr<|Zp rfl<|Zw (.func _ _ _) rfl<|Zw (.func _ _ _) rfl<|ZC T1 (vD bz ge gh _) rfl λz A c p=> ?_
 replace hz:=c.at hz
 replace hD:=fM.ext c hD
 replace hX:=Dx.trans hX (Dx.ext c)
 replace hB:=cX hB c hN0
 replace a:=c.ow a
 obtain⟨bd3_3,bx3_3,rfl,hbd,hdn,lbd3_3,lbx3_3⟩:=p
 have lox:N≤bx3_3:=go hNszb lbx3_3
 have hxm:bx3_3≠bm:=λe=>Nat.lt_irrefl _ (ab0 hbmlt (e▸lbx3_3))
 have hXd:=hX
 refine Zi rfl<|Zi rfl ?_
 refine mZ (dd:=some 24) rfl rfl rfl (iu (q:=259) (first:= #[.pointer (some ⟨bd3_3,0,none⟩)]) (cap:= #[]) (vs:= #[.pointer (some ⟨bd3_3,0,none⟩), .int .i64 _, .int .i64 _]) rfl yo Hh) (hDo 25 N ba bm bz bd3_3 bx3_3 R ns [] f g _ (go hN0 (Below.size hB)) hz hbd hD hdn tF.nil lox hxm hf hg Om) (λB C r=> ?_)
 obtain⟨D,E,F,dl3_6,rfl,s,t,u,_,_⟩:=r
 replace hX:=Dx.new hX (go hszb lbx3_3) s
 replace hD:=t
 refine Zv (c7 rfl)<|Zv (da rfl)<|Zi rfl<|ZZ rfl<|Zt<|dH (v:= .int .i64 _) rfl (v1:= .int .i64 _) rfl ?_
 exact⟨_,_,_,rfl,hX,hD,u⟩
theorem DoU:∀n,DZ 261 256 pW n:=AU _ _ pW Iw (λf g w=>sd f g w) Sh Kv λn ih N ba bm bz bd bx R ns dl f0 f1 g0 g1 l w=>JB _ n pW N ba bm bz bd bx R ns dl f0 f1 g0 g1 l w (λ_ _ _ _ _ _=>rfl) (λ_ _ _ _=>rfl) ih
theorem kS (N ba bm bz R:Nat) (ns:List Nd) (f g:Nat) (w:World) (hN0:N≤w.heap.size) (hz:At w bz #[.pointer (some ⟨ba,0,none⟩)] 282) (hD:fM 222 228 N ba bm R w ns) (hf:f<ns.length+2) (hg:g<ns.length+2):
    lk Tryz.prog 226 #[.pointer (some ⟨bz,0,none⟩), .int .i64 (f:Int), .int .i64 (g:Int)] w λv w'=>PO 222 228 N ba bm R w ns (pW.cst ns f g) (min (d6 ns f) (d6 ns g)) (pW.res (M ns f) (M ns g)) v w':=by
 refine dL (n:=14) (N:=N) Tryz.func226 rfl rfl rfl λhB=> ?_
 have hX:Dx 228 N [ba,bm] w w:=Dx.refl
 refine Zr<|Zi rfl<|ZZ rfl<|Zr<|Zp rfl<|Zi rfl<|Zi rfl<|ZH Ek (l6 _ _ pW N ba bm bz R ns f g _ hN0 hz hD hf hg DoU) rfl λe W5 a=> ?_
 obtain⟨h,i,j,rfl,b,c,d⟩:=a
 replace hX:=Dx.trans hX (b)
 replace hD:=c
 refine Zv (c7 rfl)<|Zv (da rfl)<|Zi rfl<|ZZ rfl<|Zt<|dH (v:= .int .i64 _) rfl (v1:= .int .i64 _) rfl ?_
 exact⟨_,_,_,rfl,hX,hD,d⟩
theorem DoL:∀n,DZ 255 256 xy n:=AU _ _ xy HW (λf g w=>tJ f g w) SV Kv λn ih N ba bm bz bd bx R ns dl f0 f1 g0 g1 l w=>JB _ n xy N ba bm bz bd bx R ns dl f0 f1 g0 g1 l w (λ_ _ _ _ _ _=>rfl) (λ_ _ _ _=>rfl) ih
theorem oU (N ba bm bz R:Nat) (ns:List Nd) (f g:Nat) (w:World) (hN0:N≤w.heap.size) (hz:At w bz #[.pointer (some ⟨ba,0,none⟩)] 282) (hD:fM 222 228 N ba bm R w ns) (hf:f<ns.length+2) (hg:g<ns.length+2):
    lk Tryz.prog 223 #[.pointer (some ⟨bz,0,none⟩), .int .i64 (f:Int), .int .i64 (g:Int)] w λv w'=>PO 222 228 N ba bm R w ns (xy.cst ns f g) (min (d6 ns f) (d6 ns g)) (xy.res (M ns f) (M ns g)) v w':=by
 refine dL (n:=14) (N:=N) Tryz.func223 rfl rfl rfl λhB=> ?_
 have hX:Dx 228 N [ba,bm] w w:=Dx.refl
 refine Zr<|Zi rfl<|ZZ rfl<|Zr<|Zp rfl<|Zi rfl<|Zi rfl<|ZH Ek (l6 _ _ xy N ba bm bz R ns f g _ hN0 hz hD hf hg DoL) rfl λe W5 a=> ?_
 obtain⟨h,i,j,rfl,b,c,d⟩:=a
 replace hX:=Dx.trans hX (b)
 replace hD:=c
 refine Zv (c7 rfl)<|Zv (da rfl)<|Zi rfl<|ZZ rfl<|Zt<|dH (v:= .int .i64 _) rfl (v1:= .int .i64 _) rfl ?_
 exact⟨_,_,_,rfl,hX,hD,d⟩
end
section
theorem Si:d4 Tryz.prog 321=some (.agg #[.int .i64 0, .int .i64 0, .int .i64 0, .int .i64 0, .int .i64 0, .int .i64 0]):=by kernel_rfl
theorem IP:(Tryz.prog.info? 320).map (·.size)=some 2:=by kernel_rfl
theorem vM (h0:dm f x0= .agg #[c0_0,c0_1]) (h1:dm f x1= .agg #[c1_0,c1_1]) (h2:dm f x2= .agg #[c2_0,c2_1]):
    (execOp (dm f) ⟨d, .build 321 #[(0,x0),(1,x1),(2,x2)],ty,ps,af,g⟩).run Tryz.prog w= .ok (.value (.agg #[c0_0,c0_1,c1_0,c1_1,c2_0,c2_1])) w:=by
  obtain⟨i0,hi0,hz0⟩:=we.1 (show (Tryz.prog.info? 321).bind (·.zero)=_ from Si)
  obtain⟨j320,hj320,hs320⟩:=an.1 IP
  simp[execOp,h0,h1,h2,Instr.build,zeroValue,typeInfo,sizeOf,hi0,hz0,run_underlying Tryz.underlying321,Instr.fill,d7,hj320,hs320]
theorem Dq:cY Tryz.prog 226=true:=by kernel_rfl
theorem Sw:cY Tryz.prog 257=true:=by kernel_rfl
theorem Rz:cY Tryz.prog 258=true:=by kernel_rfl
theorem Uv {f0 f1 g0 g1 i:Nat} (hi:i<3) (w:World):(part 320 #[.int .i64 (f1:Int), .int .i64 (g0:Int), .int .i64 (f0:Int), .int .i64 (g1:Int), .int .i64 (f1:Int), .int .i64 (g1:Int)] (i*2)).run Tryz.prog w= .ok (.agg #[.int .i64 ((EK f0 f1 i:Nat):Int), .int .i64 ((EL g0 g1 i:Nat):Int)]) w:=by
  obtain⟨j0,hj0,hs0⟩:=an.1 (show (Tryz.prog.info? 320).map (·.size)=some 2 by kernel_rfl)
  have:i=0∨i=1∨i=2:=by omega
  rcases this with rfl|rfl|rfl<;>simp[part,isAgg,sizeOf,typeInfo,hj0,hs0,run_underlying Tryz.underlying320]<;>exact⟨rfl,rfl⟩
theorem TW (w:World):(sizeOf 320).run Tryz.prog w= .ok 2 w:=by
  obtain⟨j0,hj0,hs0⟩:=an.1 (show (Tryz.prog.info? 320).map (·.size)=some 2 by kernel_rfl)
  simp[sizeOf,typeInfo,hj0,hs0]
set_option maxRecDepth 10000 in
theorem Ue (ge gh n:Nat) (N ba bm bz bd bx R:Nat) (ns:List Nd) (dl:List ((Nat×Nat)×Int)) (f0 f1 g0 g1 l:Nat) (w:World) (ih:DZ ge gh rG n) (hN0:N≤w.heap.size) (hz:At w bz #[.pointer (some ⟨ba,0,none⟩)] 282) (hbd:At w bd #[.pointer (some ⟨bz,0,none⟩), .func (.func ge) #[] #[], .func (.func gh) #[] #[], .map (some bx)] 324) (hD:fM 222 228 N ba bm R w ns) (hdn:dy qB eQ w bx dl) (hdone:tF rG.res ns dl) (lox:N≤bx) (hxm:bx≠bm) (v0:f0<ns.length+2) (v1:f1<ns.length+2) (v2:g0<ns.length+2) (v3:g1<ns.length+2) (k0:l<d6 ns f0) (k1:l<d6 ns f1) (k2:l<d6 ns g0) (k3:l<d6 ns g1) (h24:l<24) (hn:24-l≤n):
    lk Tryz.prog 258 #[.pointer (some ⟨bd,0,none⟩), .agg #[.int .i64 (f0:Int), .int .i64 (f1:Int)], .agg #[.int .i64 (g0:Int), .int .i64 (g1:Int)]] w λv w'=>PD 222 228 N ba bm R bx rG.res w ns (rG.hcst ns l f0 f1 g0 g1) (l+1) (rG.resH (M ns f0) (M ns f1) (M ns g0) (M ns g1)) v w':=by
 refine dL (n:=58) (N:=N) Tryz.func258 rfl rfl rfl λhB=> ?_
 have hX:Dx 228 N [bx,ba,bm] w w:=Dx.refl
 have hwn:=hD.wf
 refine Zr<|Zy (du (c:= #[_,_]) rfl rfl λs W3 U m a=> ?_)
 obtain⟨hz,hbd⟩:=m.k2 hz hbd
 replace hD:=fM.ext m hD
 obtain⟨hdn,hX⟩:=m.k2 hdn hX
 replace hB:=cX hB m hN0
 refine Zy (du (c:= #[_,_]) rfl rfl λt W6 E j b=> ?_)
 have V:=Zn E a.lt
 obtain⟨hz,hbd⟩:=j.k2 hz hbd
 replace hD:=fM.ext j hD
 obtain⟨hdn,hX⟩:=j.k2 hdn hX
 replace hB:=cX hB j hN0
 replace a:=j.at a
 refine Zi rfl<|ZZ rfl<|Zr<|ZZ rfl<|Zq<|Zr<|Zv (ff rfl rfl im Om Om)<|Zl rfl cR a rfl<|Zv (ff rfl rfl im Om Om)<|Zl rfl cR b rfl<|Zv (jx (h0:=rfl) (k0:=rfl) (h1:=rfl) (k1:=rfl) (c0_0:= .int .i64 _) (c1_0:= .int .i64 _))<|Zv (ff rfl rfl im Om Om) ?_
 refine Zl rfl cR a rfl<|Zv (ff rfl rfl im Om Om)<|Zl rfl cR b rfl<|Zv (jx (h0:=rfl) (k0:=rfl) (h1:=rfl) (k1:=rfl) (c0_0:= .int .i64 _) (c1_0:= .int .i64 _))<|Zv (ff rfl rfl im Om Om)<|Zl rfl cR a rfl<|Zv (ff rfl rfl im Om Om)<|Zl rfl cR b rfl<|Zv (jx (h0:=rfl) (k0:=rfl) (h1:=rfl) (k1:=rfl) (c0_0:= .int .i64 _) (c1_0:= .int .i64 _))<|Zv (vM (h0:=rfl) (h1:=rfl) (h2:=rfl))<|ZZ rfl<|cy ?_
 refine cW (σ:=(Nat)×(Nat)×(List Nd)×(List ((Nat×Nat)×Int))) [6,8,10,12,29,56] (λ(i,out,nsc,dlc)=>[(29, .int .i64 (i:Int)),(8, .int .i64 (out:Int))]) (λsg W=>match sg with|(i,out,nsc,dlc)=>(At W bz _ 282)∧(At W bd _ 324)∧(Dx 228 N [bx,ba,bm] w W)∧(Below N w W)∧(At W s _ 320)∧(At W t _ 320)∧(fM 222 228 N ba bm R W nsc)∧(dy qB eQ W bx dlc)∧(i≤3)∧(tF rG.res nsc dlc)∧(kc ns nsc R (QK ns l f0 f1 g0 g1 i) (l+1) (JU (M ns f0) (M ns f1) (M ns g0) (M ns g1) i) out 0)∧(True)) (λ(i,out,nsc,dlc)=>3-i) ((0,0,ns,dl)) ⟨rfl,rfl,trivial⟩ ⟨hz,hbd,hX,hB,a,b,hD,hdn,(me _),hdone,(kc.same Om (by rw[R3];omega) (aa5 _ _ _ _ ns)),trivial⟩ ?_
 rintro⟨i,out,nsc,dlc⟩ X u ⟨hz,hbd,hX,hB,a,b,hD,hdn,hi,hdone,hg,_⟩ Y F
 refine Zr<|Zv (dq rfl rfl)<|ct<|Zq<|ZQ rfl (λG=> ?_) λG=> ?_
 refine cx<|Zq<|cy ?_
 have x:=hB
 replace hB:=Below.refl u.heap.size u
 have hcw:=hD.wf
 have hpx:EK f0 f1 i<ns.length+2:=by rcases sr (show i<3 by omega) f0 f1 with e|e<;>rw[e]<;>assumption
 have hpy:EL g0 g1 i<ns.length+2:=by rcases rL (show i<3 by omega) g0 g1 with e|e<;>rw[e]<;>assumption
 have klx:l<d6 ns (EK f0 f1 i):=by rcases sr (show i<3 by omega) f0 f1 with e|e<;>rw[e]<;>assumption
 have kly:l<d6 ns (EL g0 g1 i):=by rcases rL (show i<3 by omega) g0 g1 with e|e<;>rw[e]<;>assumption
 obtain⟨x1,x2,x3⟩:=hg.old hpx
 obtain⟨y1,y2,y3⟩:=hg.old hpy
 obtain⟨o1,o2,o3⟩:=hg.ok rfl
 refine Zr<|Zv (EU rfl rfl Tryz.underlying321 Om (TW _) (Uv Om _))<|Zy (cM yU rfl λy Z q H o=> ?_)
 have I:=ZO q hB
 have aa:s≠y:=Nat.ne_of_lt (q▸(On hB a).lt)
 have ab:t≠y:=Nat.ne_of_lt (q▸(On hB b).lt)
 replace hB:=Ze hB H
 refine Zy (cA rfl rfl Af rfl o rfl rfl λac J K=> ?_)
 replace hB:=Zg hB J I
 replace o:=K
 refine ct ?_
 replace hz:=On hB hz
 replace hbd:=On hB hbd
 replace hX:=Dx.trans hX (Dx.below hB)
 replace a:=On hB a
 replace b:=On hB b
 replace hD:=fM.below hB hD
 replace hdn:=ac1 hB hdn
 have hzs:=go hN0 (Below.size x)
 replace hB:=Below.trans x (Below.mono hB hzs)
 refine Zr<|Zp rfl<|Zv (ff rfl rfl im Om Om)<|Zl rfl cR o rfl<|Zv (ff rfl rfl im Om Om)<|Zl rfl cR o rfl<|ZH yo (ih N ba bm bz bd bx R nsc dlc (EK f0 f1 i) (EL g0 g1 i) _ (go hN0 (Below.size hB)) hz hbd hD hdn hdone lox hxm x1 y1 (by rw[x3,y3];omega)) rfl λad ae L=> ?_
 obtain⟨O,z,A,dl5_5,rfl,g,P,p,hdn5_5,hdone5_5⟩:=L
 replace hz:=adD hD hdn g hz Dd Dd
 replace hbd:=adD hD hdn g hbd Dd Dd
 replace hX:=Dx.trans hX g
 replace hB:=Below.dx hB (am _) hN0 g
 replace a:=adD hD hdn g a Dd Dd
 replace b:=adD hD hdn g b Dd Dd
 replace hD:=P
 replace hdn:=hdn5_5
 replace hdone:=hdone5_5
 refine Zw (.tuple #[.int .i64 (z:Int), .int .i64 A]) rfl<|Zv (c7 rfl)<|Zv (da rfl)<|Zi rfl<|ZZ rfl<|Zq<|Zr<|Zi rfl<|Zv (dO rfl rfl)<|ct<|ZQ rfl (λr=> ?_) λr=> ?_
 have he1:A=0:=r
 subst he1
 obtain⟨d1,d2,d3⟩:=p.ok rfl
 obtain⟨q1,q2,q3⟩:=p.old o1
 have hw1:=hD.wf
 refine cI<|Zp rfl<|Zc rfl<|Zf rfl mg<|ZL (.pointer (some ⟨bz,0,none⟩)) rfl iS hbd rfl<|Zi rfl<|Zi rfl<|ZH Dq (kS N ba bm bz R O out z _ (go hN0 (Below.size hB)) hz hD q1 d1) rfl λaf ag Q=> ?_
 obtain⟨S,B,C,rfl,d,T,D⟩:=Q
 replace hz:=At.dx hD d hz Dd Dd
 replace hbd:=At.dx hD d hbd Dd Dd
 replace hX:=Dx.trans hX (aea d)
 replace hB:=Below.dx hB (am _) hN0 d
 replace a:=At.dx hD d a Dd Dd
 replace b:=At.dx hD d b Dd Dd
 replace hdn:=dy.dx hD d hdn hxm
 replace hD:=T
 have hgj:=Ww hwn hcw hw1 (show i<3 by omega) h24 v0 v1 v2 v3 k0 k1 k2 k3 hg p D
 replace hdone:=hdone.pre D.pre
 refine Zw (.tuple #[.int .i64 (B:Int), .int .i64 C]) rfl<|Zv (c7 rfl)<|Zv (da rfl)<|Zi rfl<|ZZ rfl<|Zr<|Zi rfl<|Zv (eV rfl rfl)<|ct<|ZQ rfl (λf=> ?_) λf=> ?_
 refine Zr<|Zi rfl<|Zi rfl<|ZZ rfl<|Zt<|dH (v:= .int .i64 0) rfl (v1:= .int .i64 _) rfl ?_
 exact⟨_,0,_,_,rfl,hX,hD,kc.fail (hgj) f (by exact U6 ns l f0 f1 g0 g1 (show i+1≤3 by omega)),hdn,hdone⟩
 refine cx<|ZT rfl rfl rfl ?_
 exact F _ _ ((i+1,B,S,dl5_5)) Za ⟨rfl,rfl,trivial⟩ ⟨hz,hbd,hX,hB,a,b,hD,(by exact hdn),Om,hdone,(by have he2:C=0:=aaS f;subst he2;exact hgj),trivial⟩ (by show 3-(i+1)<3-i;omega)
 refine cx<|Zr<|Zi rfl<|Zv (eV rfl rfl)<|ct<|ZQ rfl (λf=> ?_) λf=> ?_
 refine Zr<|Zi rfl<|Zi rfl<|ZZ rfl<|Zt<|dH (v:= .int .i64 0) rfl (v1:= .int .i64 _) rfl ?_
 exact⟨_,0,_,_,rfl,hX,hD,hg.fail2 p f (by have e:=DR hg.pre hwn hpx hpy;have k:=Yk (ns:=ns) (l:=l) (f0:=f0) (f1:=f1) (g0:=g0) (g1:=g1) (show i<3 by omega);rw[←e]at k;exact k),hdn,hdone⟩
 exact absurd f (λh=>h r)
 refine cT ?_
 obtain rfl:i=3:=by omega
 refine Zr<|Zi rfl<|Zi rfl<|ZZ rfl<|Zt<|dH (v:= .int .i64 _) rfl (v1:= .int .i64 0) rfl ?_
 exact⟨_,_,_,_,rfl,hX,hD,hg.weak (am _) (abc _ _ _ _),hdn,hdone⟩
theorem DoJ:∀n,DZ 257 258 rG n:=AU _ _ rG Xm (λf g w=>tH f g w) Sw Rz λn ih N ba bm bz bd bx R ns dl f0 f1 g0 g1 l w=>Ue _ _ n N ba bm bz bd bx R ns dl f0 f1 g0 g1 l w ih
theorem oZ (N ba bm bz R:Nat) (ns:List Nd) (f g:Nat) (w:World) (hN0:N≤w.heap.size) (hz:At w bz #[.pointer (some ⟨ba,0,none⟩)] 282) (hD:fM 222 228 N ba bm R w ns) (hf:f<ns.length+2) (hg:g<ns.length+2):
    lk Tryz.prog 224 #[.pointer (some ⟨bz,0,none⟩), .int .i64 (f:Int), .int .i64 (g:Int)] w λv w'=>PO 222 228 N ba bm R w ns (rG.cst ns f g) (min (d6 ns f) (d6 ns g)) (rG.res (M ns f) (M ns g)) v w':=by
 refine dL (n:=14) (N:=N) Tryz.func224 rfl rfl rfl λhB=> ?_
 have hX:Dx 228 N [ba,bm] w w:=Dx.refl
 refine Zr<|Zi rfl<|ZZ rfl<|Zr<|Zp rfl<|Zi rfl<|Zi rfl<|ZH Ek (l6 _ _ rG N ba bm bz R ns f g _ hN0 hz hD hf hg DoJ) rfl λe W5 a=> ?_
 obtain⟨h,i,j,rfl,b,c,d⟩:=a
 replace hX:=Dx.trans hX (b)
 replace hD:=c
 refine Zv (c7 rfl)<|Zv (da rfl)<|Zi rfl<|ZZ rfl<|Zt<|dH (v:= .int .i64 _) rfl (v1:= .int .i64 _) rfl ?_
 exact⟨_,_,_,rfl,hX,hD,d⟩
end
section
theorem DA:cY Tryz.prog 260=true:=by kernel_rfl
def Kh (n:Nat):Prop:=∀(N ba bm bz R:Nat) (ns:List Nd) (xl:Value) (l:List Int) (lv:Nat) (w:World),(N≤w.heap.size)→(At w bz #[.pointer (some ⟨ba,0,none⟩)] 282)→(fM 222 228 N ba bm R w ns)→(dr dX 1 w xl l)→(∀m,m∈l→0≤m∧m<16777216)→(l.length≤1000000)→(lv≤24)→25-lv≤n→
  lk Tryz.prog 260 #[.pointer (some ⟨bz,0,none⟩),xl, .int .i64 (lv:Int)] w λv w'=>PO 222 228 N ba bm R w ns (yA lv l) (lv) (bS l lv) v w'
set_option maxRecDepth 10000 in
theorem QS (n:Nat) (N ba bm bz R:Nat) (ns:List Nd) (xl:Value) (l:List Int) (lv:Nat) (w:World) (ih:Kh n) (hN0:N≤w.heap.size) (hz:At w bz #[.pointer (some ⟨ba,0,none⟩)] 282) (hD:fM 222 228 N ba bm R w ns) (hl:dr dX 1 w xl l) (hm:∀m,m∈l→0≤m∧m<16777216) (hll:l.length≤1000000) (hlv:lv≤24) (hn:25-lv≤n+1):
    lk Tryz.prog 260 #[.pointer (some ⟨bz,0,none⟩),xl, .int .i64 (lv:Int)] w λv w'=>PO 222 228 N ba bm R w ns (yA lv l) (lv) (bS l lv) v w':=by
 refine dL (n:=71) (N:=N) Tryz.func260 rfl rfl rfl λhB=> ?_
 have hX:Dx 228 N [ba,bm] w w:=Dx.refl
 have hwf:=hD.wf
 have hroom:=hD.room
 have htop:=hD.top
 refine Zr<|Zi rfl<|ZZ rfl<|Zq<|cy<|Zr<|Zw xl rfl<|Zv (db (v:=xl) rfl hl cV)<|Zv (dO rfl rfl)<|Zb rfl<|ct<|ZQ rfl (λD=> ?_) λD=> ?_
 refine Zr<|Zi rfl<|ZZ rfl<|Zt<|dH (v:= .int .i64 0) rfl (v1:= .int .i64 0) rfl ?_
 exact⟨ns,0,0,rfl,hX,hD,kc.same Om (by rw[R3];exact hlv) (TK Om)⟩
 refine Zr<|Zi rfl<|Zv (dO rfl rfl)<|Zb rfl<|ct<|ZQ rfl (λE=> ?_) λE=> ?_
 refine Zr<|Zi rfl<|ZZ rfl<|Zt<|dH (v:= .int .i64 1) rfl (v1:= .int .i64 0) rfl ?_
 obtain rfl:lv=24:=by omega
 exact⟨ns,1,0,rfl,hX,hD,kc.same Om (by rw[mn Dd];exact hlv) (T7 Om hm)⟩
 refine cx ?_
 have o:=hB
 replace hB:=Below.refl w.heap.size w
 have hne:1≤l.length:=by omega
 have h24:lv<24:=by omega
 refine Zr<|Zw (.slice none 0 0) rfl<|Zw (.slice none 0 0) rfl<|ct<|Zq<|Zr<|Zw xl rfl<|Zv (db (v:=xl) rfl (Below.slT hB hl) cV)<|ZZ rfl<|cy ?_
 refine cW (σ:=(Nat)×(Value)×(Value)) [8,9,11,11,24,41] (λ(k,v0,v1)=>[(24, .int .i64 (k:Int)),(8,v0),(9,v1)]) (λsg W=>match sg with|(k,v0,v1)=>(Below w.heap.size w W)∧(cH dX 1 3 W w.heap.size v0 (Cc l lv k))∧(cH dX 1 3 W w.heap.size v1 (BT l lv k))∧(fp v0 v1)∧(k≤l.length)∧(True)) (λ(k,v0,v1)=>l.length-k) ((0, .slice none 0 0, .slice none 0 0)) ⟨rfl,rfl,rfl,trivial⟩ ⟨hB,cH.nil,cH.nil,ad0,(me _),trivial⟩ ?_
 rintro⟨k,v0,v1⟩ ae af ⟨hB,ho,hoo,hap,hk,_⟩ ag p
 refine Zr<|Zv (dq rfl rfl)<|ct<|Zq<|ZQ rfl (λF=> ?_) λF=> ?_
 refine cx<|Zq<|cy<|Zr<|Zv (dp (v:=xl) rfl (Below.slT hB hl) rfl cV Om Om)<|Zv (cD (v:= .int .i64 _) rfl cR (dr.cell (Below.slT hB hl) eD 0 Om Om 0 rfl))<|ZZ rfl ?_
 obtain⟨G,ah⟩:=hm (l.getD k 0) (dF (by omega))
 have hbl:(l.getD k 0).toNat<9223372036854775808:=by omega
 have hwl:=PF l lv k
 rw[aaX]at hwl
 refine Zr<|Zi rfl<|Zi rfl<|Zv (Xx rfl rfl G Om Om)<|Zv (nh (n:=1) rfl rfl rfl (by exact ab8 (acz _ _) hbl) Dd)<|Zv (dO rfl rfl)<|ct<|ZQ rfl (λd=> ?_) λd=> ?_
 have hbt:(l.getD k 0).toNat.testBit lv=true:=E6.1 d
 refine cI<|Zw v1 rfl<|Zi rfl<|Zy (ez (u:= .int .i64 _) rfl cV eP rfl Dd Dd λH ai aj I J=> ?_)
 obtain⟨hB,ho,hoo⟩:=I.k3 hB ho hoo
 refine Zy (jh (v:=v1) (v2:= .slice (some ⟨H,0,none⟩) 1 1) rfl rfl cV eP Dd hoo (eJ J rfl) rfl (m3 hB) (by omega) (by omega) λr ak s e K=> ?_)
 have L:=fp.app (fp.symm hap) K ho
 replace e:=cH.snoc (enc:=dX) (x:=(l.getD k 0)) rfl rfl rfl rfl e
 replace hB:=ZG hB s hoo
 replace ho:=cH.grownAp ho (fp.symm hap) s
 refine Zw r rfl<|ct<|ZT rfl rfl rfl ?_
 exact p _ _ ((k+1,v0,r)) Za ⟨rfl,rfl,rfl,trivial⟩ ⟨hB,(by (rw[←(aah Om hbt).2];exact ho)),(by (rw[←(aah Om hbt).1];exact e)),(fp.symm L),Om,trivial⟩ (by show l.length-(k+1)<l.length-k;omega)
 have hbt:¬(l.getD k 0).toNat.testBit lv=true:=λq=>d (E6.2 q)
 refine cI<|Zw v0 rfl<|Zi rfl<|Zy (ez (u:= .int .i64 _) rfl cV eP rfl Dd Dd λM al ao O P=> ?_)
 obtain⟨hB,ho,hoo⟩:=O.k3 hB ho hoo
 refine Zy (jh (v:=v0) (v2:= .slice (some ⟨M,0,none⟩) 1 1) rfl rfl cV eP Dd ho (eJ P rfl) rfl (m3 hB) (by omega) (by omega) λt ap y f Q=> ?_)
 have S:=fp.app hap Q hoo
 replace f:=cH.snoc (enc:=dX) (x:=(l.getD k 0)) rfl rfl rfl rfl f
 replace hB:=ZG hB y ho
 replace hoo:=cH.grownAp hoo hap y
 refine Zw t rfl<|ct<|ZT rfl rfl rfl ?_
 exact p _ _ ((k+1,t,v1)) Za ⟨rfl,rfl,rfl,trivial⟩ ⟨hB,(by (rw[←(aav Om hbt).1];exact f)),(by (rw[←(aav Om hbt).2];exact hoo)),S,Om,trivial⟩ (by show l.length-(k+1)<l.length-k;omega)
 refine cT ?_
 replace hz:=On hB hz
 replace hD:=fM.below hB hD
 replace hX:=Dx.trans hX (Dx.below hB)
 have hzs:=go hN0 (Below.size o)
 replace ho:=cH.mono ho hzs
 replace hoo:=cH.mono hoo hzs
 replace hB:=Below.trans o (Below.mono hB hzs)
 obtain rfl:k=l.length:=by omega
 have hwl:=PF l lv l.length
 rw[aaY]at hwl
 have hbc:=Qf (l:=l) h24
 refine Zr<|Zp rfl<|Zw v0 rfl<|Zi rfl<|Zv (d5 rfl rfl Om Om)<|ZH DA (ih N ba bm bz R ns _ (Cc l lv l.length) (lv+1) _ (go hN0 (Below.size hB)) hz hD ho.sl (λm h=>hm m (Vo h)) Om Om Om) rfl λaq ar T=> ?_
 obtain⟨U,z,A,rfl,a,V,b⟩:=T
 replace hz:=At.dx hD a hz Dd Dd
 replace hX:=Dx.trans hX (a)
 replace hB:=Below.dx hB (am _) hN0 a
 replace hoo:=cH.dx hD a hoo Dd Dd
 replace hD:=V
 refine Zw (.tuple #[.int .i64 (z:Int), .int .i64 A]) rfl<|Zv (c7 rfl)<|Zv (da rfl)<|Zi rfl<|ZZ rfl<|Zq<|Zr<|Zi rfl<|Zv (eV rfl rfl)<|ct<|ZQ rfl (λg=> ?_) λg=> ?_
 refine Zr<|Zi rfl<|Zi rfl<|ZZ rfl<|Zt<|dH (v:= .int .i64 0) rfl (v1:= .int .i64 _) rfl ?_
 exact⟨_,0,_,rfl,hX,hD,b.fail g Om⟩
 refine cx ?_
 have he:A=0:=aaS g
 subst he
 refine Zr<|Zp rfl<|Zw v1 rfl<|Zi rfl<|Zv (d5 rfl rfl Om Om)<|ZH DA (ih N ba bm bz R U _ (BT l lv l.length) (lv+1) _ (go hN0 (Below.size hB)) hz hD hoo.sl (λm h=>hm m (Vu h)) Om Om Om) rfl λau av X=> ?_
 obtain⟨Y,B,C,rfl,i,Z,c⟩:=X
 replace hz:=At.dx hD i hz Dd Dd
 replace hX:=Dx.trans hX (i)
 replace hB:=Below.dx hB (am _) hN0 i
 replace hD:=Z
 refine Zw (.tuple #[.int .i64 (B:Int), .int .i64 C]) rfl<|Zv (c7 rfl)<|Zv (da rfl)<|Zi rfl<|ZZ rfl<|Zq<|Zr<|Zi rfl<|Zv (eV rfl rfl)<|ct<|ZQ rfl (λj=> ?_) λj=> ?_
 refine Zr<|Zi rfl<|Zi rfl<|ZZ rfl<|Zt<|dH (v:= .int .i64 0) rfl (v1:= .int .i64 _) rfl ?_
 exact⟨_,0,_,rfl,hX,hD,b.fail2 c j Om⟩
 refine cx ?_
 have he:C=0:=aaS j
 subst he
 have hw16:=hD.wf
 obtain⟨v1,aw,_⟩:=b.ok rfl
 obtain⟨p1,_,p3⟩:=c.old v1
 obtain⟨q1,q2,_⟩:=c.ok rfl
 refine Zr<|Zp rfl<|Zi rfl<|Zi rfl<|Zi rfl<|ZH Jm (oX N ba bm bz R Y lv z B _ (go hN0 (Below.size hB)) hz hD p1 q1 Om Om h24) rfl λax ay aa=> ?_
 obtain⟨az,aA,aB,rfl,ab,ac,ad⟩:=aa
 replace hX:=Dx.trans hX (ab)
 replace hD:=ac
 refine Zv (c7 rfl)<|Zv (da rfl)<|Zi rfl<|ZZ rfl<|Zt<|dH (v:= .int .i64 _) rfl (v1:= .int .i64 _) rfl ?_
 exact⟨_,_,_,rfl,hX,hD,Mu hw16 h24 hne b c ad⟩
theorem Ft:∀n,Kh n
  |0=>λN ba bm bz R ns xl l lv w _ _ _ _ _ _ hlv hn=>by omega
  |n+1=>λN ba bm bz R ns xl l lv w=>QS n N ba bm bz R ns xl l lv w (Ft n)
theorem qU (N ba bm bz R:Nat) (ns:List Nd) (xl:Value) (l:List Int) (w:World) (hN0:N≤w.heap.size) (hz:At w bz #[.pointer (some ⟨ba,0,none⟩)] 282) (hD:fM 222 228 N ba bm R w ns) (hl:dr dX 1 w xl l) (hll:l.length≤1000000):
    lk Tryz.prog 225 #[.pointer (some ⟨bz,0,none⟩),xl] w λv w'=>PE 222 228 N ba bm R w ns (I9 l) (yA 0 l) (0) (bS l 0) v w':=by
 refine dL (n:=28) (N:=N) Tryz.func225 rfl rfl rfl λhB=> ?_
 have hX:Dx 228 N [ba,bm] w w:=Dx.refl
 have hwf:=hD.wf
 have hroom:=hD.room
 have htop:=hD.top
 refine Zr<|Zi rfl<|ZZ rfl<|Zq<|Zr<|Zp rfl<|Zv (rA rfl rfl Tryz.underlying238)<|ct<|dE rfl<|cx<|Zq<|Zr ?_
 refine Zw xl rfl<|Zv (db (v:=xl) rfl hl cV)<|ZZ rfl<|cy ?_
 refine cW (σ:=(Nat)) [4,5,7,7,12,22] (λk=>[(12, .int .i64 (k:Int))]) (λk W=>(At W bz _ 282)∧(fM 222 228 N ba bm R W ns)∧(Dx 228 N [ba,bm] w W)∧(dr dX 1 W xl _)∧(Below N w W)∧(k≤l.length)∧(∀q,q<k→0≤l.getD q 0∧l.getD q 0<16777216)∧(True)) (λk=>l.length-k) (0) ⟨rfl,trivial⟩ ⟨hz,hD,hX,hl,hB,(me _),eO,trivial⟩ ?_
 rintro k i j ⟨hz,hD,hX,hl,hB,hk,hq,_⟩ m c
 refine Zr<|Zv (dq rfl rfl)<|ct<|Zq<|ZQ rfl (λd=> ?_) λd=> ?_
 refine cx<|Zq<|cy<|Zr<|Zv (dp (v:=xl) rfl hl rfl cV Om Om)<|Zv (cD (v:= .int .i64 _) rfl cR (dr.cell hl eD 0 Om Om 0 rfl))<|ZZ rfl<|Zr<|Zi rfl<|Zv (dq rfl rfl)<|ZX rfl (λa=> ?_) λa=> ?_
 refine Zs<|Zs<|Zb rfl<|ct<|cN rfl<|Zr<|Zi rfl<|ZZ rfl<|Zt<|dH (v:= .int .i64 0) rfl (v1:= .int .i64 1) rfl ?_
 exact⟨ns,0,1,rfl,hX,hD, .inr ⟨UE (k:=k) Om (.inl a),rfl,rfl,rfl⟩⟩
 refine Zi rfl<|Zv (ky rfl rfl)<|Zb rfl<|ct<|ZQ rfl (λb=> ?_) λb=> ?_
 refine Zr<|Zi rfl<|ZZ rfl<|Zt<|dH (v:= .int .i64 0) rfl (v1:= .int .i64 1) rfl ?_
 exact⟨ns,0,1,rfl,hX,hD, .inr ⟨UE (k:=k) Om (.inr b),rfl,rfl,rfl⟩⟩
 refine cx<|ZT rfl rfl rfl ?_
 exact c _ _ (k+1) Za ⟨rfl,trivial⟩ ⟨hz,hD,hX,hl,hB,Om,(dT hq ⟨Int.not_lt.1 a,Int.not_le.1 b⟩),trivial⟩ Zo
 refine cT ?_
 have hok:=RD (l:=l) (k:=k) (by omega) hq
 refine Zr<|Zp rfl<|Zw xl rfl<|ZH DA (Ft 25 N ba bm bz R ns _ l 0 _ (go hN0 (Below.size hB)) hz hD hl (vJ.1 hok) hll Om Om) rfl λo p e=> ?_
 obtain⟨r,s,t,rfl,f,g,h⟩:=e
 replace hX:=Dx.trans hX (f)
 replace hD:=g
 refine Zv (c7 rfl)<|Zv (da rfl)<|Zi rfl<|ZZ rfl<|Zt<|dH (v:= .int .i64 _) rfl (v1:= .int .i64 _) rfl ?_
 exact⟨_,_,_,rfl,hX,hD, .inl ⟨hok,h⟩⟩
end
section
theorem So:d4 Tryz.prog 222=some (.agg #[.int .i64 0, .slice none 0 0, .map none]):=by kernel_rfl
theorem Id:(Tryz.prog.info? 219).map (·.size)=some 1:=by kernel_rfl
theorem H8:(Tryz.prog.info? 220).map (·.size)=some 1:=by kernel_rfl
theorem xX (h0:dm f x0=c0_0) (k0:c0_0.cells= #[c0_0]) (h1:dm f x1=c1_0) (k1:c1_0.cells= #[c1_0]):
    (execOp (dm f) ⟨d, .build 222 #[(0,x0),(2,x1)],ty,ps,af,g⟩).run Tryz.prog w= .ok (.value (.agg #[c0_0, .slice none 0 0,c1_0])) w:=by
  obtain⟨i0,hi0,hz0⟩:=we.1 (show (Tryz.prog.info? 222).bind (·.zero)=_ from So)
  obtain⟨j3,hj3,hs3⟩:=an.1 fL
  obtain⟨j219,hj219,hs219⟩:=an.1 Id
  obtain⟨j220,hj220,hs220⟩:=an.1 H8
  simp[execOp,h0,k0,h1,k1,Instr.build,zeroValue,typeInfo,sizeOf,hi0,hz0,run_underlying Tryz.underlying222,Instr.fill,d7,hj3,hs3,hj219,hs219,hj220,hs220]
theorem TQ:cY Tryz.prog 115=true:=by kernel_rfl
theorem R4:d4 Tryz.prog 282=some (.agg #[.pointer none]):=by kernel_rfl
theorem IR:(Tryz.prog.info? 166).map (·.size)=some 1:=by kernel_rfl
theorem Bz (h0:dm f x0=c0_0) (k0:c0_0.cells= #[c0_0]):
    (execOp (dm f) ⟨d, .build 282 #[(0,x0)],ty,ps,af,g⟩).run Tryz.prog w= .ok (.value (.agg #[c0_0])) w:=by
  obtain⟨i0,hi0,hz0⟩:=we.1 (show (Tryz.prog.info? 282).bind (·.zero)=_ from R4)
  obtain⟨j166,hj166,hs166⟩:=an.1 IR
  simp[execOp,h0,k0,Instr.build,zeroValue,typeInfo,sizeOf,hi0,hz0,run_underlying Tryz.underlying282,Instr.fill,d7,hj166,hs166]
theorem Gw (R:Nat) (w:World) (hR:R≤20000):
    Fn Tryz.prog 115 #[.int .i64 (R:Int)] w λv w'=>∃ba bm,v= .tuple #[.pointer (some ⟨ba,0,none⟩), .int .i64 0]∧fM 222 228 w.heap.size ba bm R w' []:=by
 refine cK (n:=14) Tryz.func115 rfl rfl rfl λhB=> ?_
 refine Zr<|Zw (.pointer none) rfl<|ZZ rfl<|Zq<|Zr<|Zi rfl<|Zv (dq rfl rfl)<|ZX rfl (λb=> ?_) λb=> ?_
 exact absurd b Om
 refine Zi rfl<|Zv (gQ rfl rfl)<|Zb rfl<|ct<|ZQ rfl (λd=> ?_) λd=> ?_
 exact absurd d Om
 refine cx<|Zr<|Zi rfl<|Zy (hU (enc:=yb) (encV:=eQ) λe W9 f g a=> ?_)
 have h:=ZO f hB
 replace hB:=Ze hB g
 refine Zv (xX (h0:=rfl) (k0:=rfl) (h1:=rfl) (k1:=rfl) (c0_0:= .int .i64 _) (c1_0:= .map (some e)))<|Zy (du (c:= #[_,_,_]) rfl rfl λi o j k l=> ?_)
 have m:=ZO j hB
 obtain⟨hB,a⟩:=k.k2 hB a
 refine Zp rfl<|ZZ rfl<|Zt<|dH (v:= .pointer (some ⟨i,0,none⟩)) rfl (v1:= .int .i64 0) rfl ⟨hB,?_⟩
 exact⟨_,_,rfl,⟨⟨_,l,cH.nil⟩,a,m,h,Wf.nil,me _,hR⟩⟩
theorem Lg (R:Nat) (w:World) (hR:R≤20000):
    Fn Tryz.prog 174 #[.int .i64 (R:Int)] w λv w'=>∃bz ba bm,v= .tuple #[.pointer (some ⟨bz,0,none⟩), .int .i64 0]∧At w' bz #[.pointer (some ⟨ba,0,none⟩)] 282∧fM 222 228 w.heap.size ba bm R w' []:=by
 refine cK (n:=17) Tryz.func174 rfl rfl rfl λhB=> ?_
 refine Zr<|Zw (.pointer none) rfl<|ZZ rfl<|Zr<|Zi rfl<|ZC TQ (Gw _ _ pr) rfl λi W5 d e=> ?_
 have f:=(Below.size hB)
 replace hB:=Ze hB d
 obtain⟨ba,bm,rfl,hD⟩:=e
 replace hD:=fM.mono hD f
 refine Zw (.tuple #[.pointer (some ⟨ba,0,none⟩), .int .i64 0]) rfl<|Zv (c7 rfl)<|Zv (da rfl)<|Zp rfl<|ZZ rfl<|Zq<|Zr<|Zi rfl<|Zv (eV rfl rfl)<|ct<|ZQ rfl (λa=> ?_) λa=> ?_
 exact absurd rfl a
 refine cx<|Zr<|Zp rfl<|Zv (Bz (h0:=rfl) (k0:=rfl) (c0_0:= .pointer (some ⟨ba,0,none⟩)))<|Zy (du (c:= #[_]) rfl rfl λg j k b h=> ?_)
 replace hB:=Ze hB b
 replace hD:=fM.ext b hD
 refine Zp rfl<|ZZ rfl<|Zt<|dH (v:= .pointer (some ⟨g,0,none⟩)) rfl (v1:= .int .i64 0) rfl ⟨hB,?_⟩
 exact⟨_,_,_,rfl,h,hD⟩
end
end Go.Proofs.YtedeonkjellcpaaGreatDoor
