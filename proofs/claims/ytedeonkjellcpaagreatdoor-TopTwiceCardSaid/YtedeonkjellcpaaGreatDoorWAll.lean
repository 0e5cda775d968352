/- Words and walks of the row. No condition. -/
import Derived.Test.YtedeonkjellcpaaGreatDoorWPla3
import Derived.Test.YtedeonkjellcpaaGreatDoorLift2
namespace Go.Proofs.YtedeonkjellcpaaGreatDoor
open Go Go.RowKit
set_option autoImplicit true
set_option relaxedAutoImplicit true
set_option linter.unusedVariables false
set_option linter.unusedSimpArgs false
section
theorem Zj:d4 Tryz.prog 5=some (.int .u8 0):=by kernel_rfl
theorem lX:eN Tryz.prog 9=true:=by kernel_rfl
theorem Xe:cY Tryz.prog 88=true:=by kernel_rfl
theorem Xs:cY Tryz.prog 89=true:=by kernel_rfl
theorem dV:kn Tryz.prog 24=some 4:=by kernel_rfl
theorem Ov:cY Tryz.prog 54=true:=by kernel_rfl
theorem PG:cY Tryz.prog 56=true:=by kernel_rfl
theorem Xi:cY Tryz.prog 57=true:=by kernel_rfl
theorem ES (m u:Nat) (n:Int) (w:World) (hm:m<256) (hv:u<256):
    Fn Tryz.prog 57 #[.agg #[.int .u8 (m:Int), .int .u8 (u:Int)], .int .i64 n] w λv w'=>v=if dS m u n=true then .tuple #[ea (qw m u n.toNat), .int .i64 0]else .tuple #[ea [], .int .i64 1]:=by
 refine cK (n:=45) Tryz.func57 rfl rfl rfl λhB=> ?_
 refine Zr<|Zy (du (c:= #[_,_]) rfl rfl λs W3 D t b=> ?_)
 replace hB:=Ze hB t
 refine Zw (.string _) rfl<|ZZ rfl<|Zq<|Zr<|Zv (cz rfl dh rfl b)<|Zi rfl<|ZC (vs:=[.agg #[_,_], .int .i64 _]) D7 (nD _ _ _ _ pr pr) rfl λE F x y=> ?_
 obtain⟨hB,b⟩:=x.k2 hB b
 obtain rfl:=y
 refine Zv (eK rfl)<|ct<|ZQ rfl (λg=> ?_) λg=> ?_
 refine Zr<|Zw (.string _) rfl<|ZZ rfl<|Zt<|dH (v:= .string _) rfl (v1:= .int .i64 1) rfl ⟨hB,?_⟩
 rw[if_neg (by simpa using g)];rfl
 refine cx ?_
 have hr:dS m u n=true:=by simpa using g
 obtain⟨hn0,hn8,hmn,hvm⟩:=dB.1 hr
 obtain⟨q,rfl⟩:=ab2 hn0
 have hq8:q≤8:=by omega
 refine Zr<|Zi rfl<|Zy (Oz (n:=q) (N:=w.heap.size) rfl rfl kD Zj Om (by simp[maxLen];omega) (Below.size hB) λd G z e=> ?_)
 replace e:=ad8 wa 0 rfl Dd e
 obtain⟨hB,b⟩:=z.k2 hB b
 rw[MC m u q]at e
 refine Zw d rfl<|ct<|Zq<|Zr<|Zw d rfl<|Zv (db (v:=d) rfl e.sl kD)<|ZZ rfl<|cy ?_
 refine cW (σ:=(Nat)) [7,7,16,42] (λk=>[(16, .int .i64 (k:Int))]) (λk W=>(Below w.heap.size w W)∧(At W s _ 34)∧(cH yg 1 5 W w.heap.size d (vW m u q k))∧(k≤q)∧(True)) (λk=>q-k) (0) ⟨rfl,trivial⟩ ⟨hB,b,e,(me _),trivial⟩ ?_
 rintro k H I ⟨hB,b,ho,hk,_⟩ J h
 refine Zr<|Zv (dq rfl rfl)<|ct<|Zq<|ZQ rfl (λi=> ?_) λi=> ?_
 refine cx<|Zq<|cy ?_
 rw[zt]at i
 refine Zr<|Zi rfl<|ZZ rfl<|cy ?_
 have hdm:=ab8 (acz m (2^k)) hm
 refine Zr<|Zf rfl ey<|Zl rfl dN b rfl<|Zi rfl<|Zv (ra rfl rfl Om (by simp only[IntKind.bits];omega))<|Zv (nh (n:=1) rfl rfl rfl (by simp only[ig];simp only[my];omega) vl)<|Zv (dO rfl rfl)<|Zb rfl<|ct<|ZQ rfl (λf=> ?_) λf=> ?_
 refine cI<|Zw d rfl<|Zi rfl<|Zv (dp (v:=d) rfl ho.sl rfl kD Om NV)<|Zy (vX (v:=d) (u:= .int .u8 45) (a:=45) (j:=_) rfl rfl (.inl ⟨dN,rfl⟩) wa rfl rfl ho Om NV λK o A=> ?_)
 replace hB:=ZG hB o ho
 replace b:=At.grownOw b ho o Dd
 replace ho:=A
 rw[my,zp (by omega) (Q4 (k:=k) f)]at ho
 refine ct<|ZT rfl rfl rfl ?_
 exact h _ _ (k+1) Za ⟨rfl,trivial⟩ ⟨hB,b,(by exact ho),Om,trivial⟩ Om
 have hdu:=ab8 (acz u (2^k)) hv
 refine Zr<|Zf rfl fO<|Zl rfl dN b rfl<|Zi rfl<|Zv (ra rfl rfl Om (by simp only[IntKind.bits];omega))<|Zv (nh (n:=1) rfl rfl rfl (by simp only[ig];simp only[my];omega) vl)<|Zv (dO rfl rfl)<|Zb rfl<|ct<|ZQ rfl (λl=> ?_) λl=> ?_
 refine cI<|Zw d rfl<|Zi rfl<|Zv (dp (v:=d) rfl ho.sl rfl kD Om NV)<|Zy (vX (v:=d) (u:= .int .u8 48) (a:=48) (j:=_) rfl rfl (.inl ⟨dN,rfl⟩) wa rfl rfl ho Om NV λL p B=> ?_)
 replace hB:=ZG hB p ho
 replace b:=At.grownOw b ho p Dd
 replace ho:=B
 rw[my,zp (by omega) (aa7 (k:=k) f l)]at ho
 refine ct<|ZT rfl rfl rfl ?_
 exact h _ _ (k+1) Za ⟨rfl,trivial⟩ ⟨hB,b,(by exact ho),Om,trivial⟩ Om
 refine cI<|Zw d rfl<|Zi rfl<|Zv (dp (v:=d) rfl ho.sl rfl kD Om NV)<|Zy (vX (v:=d) (u:= .int .u8 49) (a:=49) (j:=_) rfl rfl (.inl ⟨dN,rfl⟩) wa rfl rfl ho Om NV λM r C=> ?_)
 replace hB:=ZG hB r ho
 replace b:=At.grownOw b ho r Dd
 replace ho:=C
 rw[my,zp (by omega) (abg (k:=k) f l)]at ho
 refine ct<|ZT rfl rfl rfl ?_
 exact h _ _ (k+1) Za ⟨rfl,trivial⟩ ⟨hB,b,(by exact ho),Om,trivial⟩ Om
 refine cT<|Zr<|Zw d rfl<|Zv (qF (v:=d) rfl ho.sl Tryz.underlying177 Tryz.underlying5 Tryz.underlying9)<|Zw (ea _) rfl<|ZZ rfl<|Zt<|dH (v:=ea _) rfl (v1:= .int .i64 0) rfl ⟨hB,?_⟩
 have hkq:k=q:=by rw[zt]at i;omega
 subst hkq
 rw[if_pos hr,OA];rfl
theorem GY (T:Tb) (lv:Value) (vs:List CV) (w:World) (hgl:Gl w) (hlv:dr il 3 w lv vs) (hls:qo w vs T.ls) (hmb:∀i,i<T.ls.length→(T.ls.getD i jH).c.m<256∧(T.ls.getD i jH).c.v<256):
    Fn Tryz.prog 14 #[.agg #[.int .i64 T.kind, .int .i64 T.ni, .int .i64 T.no,lv]] w λv w'=>v=if fy T=true then .tuple #[ea (js T), .int .i64 0]else .tuple #[ea [], .int .i64 1]:=by
 refine cK (n:=75) Tryz.func14 rfl rfl rfl λhB=> ?_
 have hle:=hls.len
 refine Zr<|Zy (du (c:= #[_,_,_,_]) rfl rfl λp W3 Z F b=> ?_)
 replace hB:=Ze hB F
 refine Zw (.string _) rfl<|ZZ rfl<|Zq<|Zr<|Zv (cz rfl dV rfl b)<|ZC (vs:=[.agg #[_,_,_,_]]) Ov (xx _ _ _ _ (Below.slT hB hlv) (qo.below hB hls) pr) rfl λaa ab G H=> ?_
 obtain⟨hB,b⟩:=G.k2 hB b
 obtain rfl:=H
 refine Zv (eK rfl)<|ct<|ZQ rfl (λh=> ?_) λh=> ?_
 refine Zr<|Zw (.string _) rfl<|ZZ rfl<|Zt<|dH (v:= .string _) rfl (v1:= .int .i64 1) rfl ⟨hB,?_⟩
 rw[if_neg (by simpa using h)];rfl
 refine cx ?_
 refine qD (σ:=(Unit)) [4,4,14,36] (λu_=>[(4,ea (ja T 0))]) (λW=>(Below w.heap.size w W)∧(At W p _ 24)∧(True)) ⟨hB,b,trivial⟩ (λu_ W=>(True)) (λac r=> ?_) ?_
 have hr:fy T=true:=by simpa using h
 obtain⟨hk0,hk3,hi0,hi8,hno1,hno4,hl64⟩:=iV hr
 have hd1:=zj hi0 (by omega)
 have hd2:=zj (n:=T.no) (by omega) (by omega)
 have hd3:=zj (n:=(vs.length:Int)) (by omega) (by omega)
 have hd4:=w6 T.kind.toNat
 refine eR dA fx (λI J=> ?_)
 obtain⟨hB,b⟩:=J.k2 hB b
 have hS:=dA.refl I
 refine Tf 0 rfl rfl f6 hS<|Tk 1 rfl (λ_ hq=>cD (v:= .int .i64 _) rfl cR (At.cell (hq.at b) rfl)) hS<|Tf 5 rfl rfl gN hS<|Tk 6 rfl (λ_ hq=>cD (v:= .int .i64 _) rfl cR (At.cell (hq.at b) rfl)) hS<|Tf 11 rfl rfl mz hS<|Tk 12 rfl (λ_ hq=>cD (v:= .int .i64 _) rfl cR (At.cell (hq.at b) rfl)) hS<|Tf 17 rfl rfl fW hS<|Tk 18 rfl (λ_ hq=>cD (v:=lv) rfl iU (At.cell (hq.at b) rfl)) hS<|Tk 19 rfl (λ_ hq=>db (v:=lv) rfl (hq.slT (Below.slT hB hlv)) gZ) hS<|To 2 rfl (TC wD (jl _ _ (Gl.below hB hgl) (by omega) (by omega)) rfl λad ae s K=>⟨.inl (hS.trans s),?_⟩)
 obtain⟨hB,b⟩:=s.k2 hB b
 replace hS:=hS.trans s
 obtain rfl:=K
 refine Tk 3 rfl (λ_ _=>gP rfl rfl D5) hS<|Tk 4 rfl (λ_ _=>gP rfl rfl D5) hS<|To 7 rfl (TC wD (jl _ _ (Gl.below hB hgl) (by omega) (by omega)) rfl λaf ag t L=>⟨.inl (hS.trans t),?_⟩)
 obtain⟨hB,b⟩:=t.k2 hB b
 replace hS:=hS.trans t
 obtain rfl:=L
 refine Tk 8 rfl (λ_ _=>gP rfl rfl D5) hS<|Tk 9 rfl (λ_ _=>gP rfl rfl D5) hS<|To 10 rfl (TC PG (xg _) rfl λA ah u e=>⟨.inl (hS.trans u),?_⟩)
 have M:=(Below.size hB)
 obtain⟨hB,b⟩:=u.k2 hB b
 replace hS:=hS.trans u
 replace e:=cH.mono e M
 refine wx 13 20 jW rfl rfl rfl rfl rfl rfl rfl rfl (Yd.val (dp (v:=A) rfl e.sl rfl jO Om NV) ⟨.inl hS,?_⟩) (Yd.call (Kg wD (v0:= .int .i64 _) rfl) (jl _ _ (Gl.below hB hgl) (by omega) (by omega)) (λB ai x g=>⟨.inl (hS.trans x),?_⟩))
 refine wx 14 20 jW rfl rfl rfl rfl rfl rfl rfl rfl (Yd.val (cD (v:= .string _) rfl lX (dr.cell e.sl iW [] Om NV 0 rfl)) ⟨.inl hS,?_⟩) (Yd.call (Kg wD (v0:= .int .i64 _) rfl) (jl _ _ (Gl.below hB hgl) (by omega) (by omega)) (λB aj y g=>⟨.inl (hS.trans y),?_⟩))
 refine Tk 15 rfl (λ_ _=>gP rfl rfl D5) hS<|Tk 16 rfl (λ_ _=>gP rfl rfl D5) hS<|To 20 rfl (TC wD (jl _ _ (Gl.below hB hgl) (by omega) (by omega)) rfl λB ak z g=>⟨.inl (hS.trans z),?_⟩)
 obtain⟨hB,b⟩:=z.k2 hB b
 replace hS:=hS.trans z
 obtain rfl:=g
 refine Tk 21 rfl (λ_ _=>gP rfl rfl D5) hS<|Tk 22 rfl (λ_ _=>gP rfl rfl D5) hS<|Tw 23 (.string _) rfl rfl hS<|Td ?_
 exact r _ _ (()) Za ⟨Io hle hi0 Om Om Om Om,trivial⟩ ⟨hB,b,trivial⟩ (by exact trivial)
 obtain⟨hB,b,e⟩:=y.k3 hB b e
 replace hS:=hS.trans y
 obtain rfl:=g
 refine iZ (dd:=some 28) 14 jW rfl rfl rfl rfl (Yd.val (cD (v:= .string _) rfl lX (dr.cell e.sl iW [] Om NV 0 rfl)) ⟨.inl hS,?_⟩)
 refine Tk 15 rfl (λ_ _=>gP rfl rfl D5) hS<|Tk 16 rfl (λ_ _=>gP rfl rfl D5) hS<|Tk 21 rfl (λ_ _=>gP rfl rfl D5) hS<|Tk 22 rfl (λ_ _=>gP rfl rfl D5) hS<|Tw 23 (.string _) rfl rfl hS<|Td ?_
 exact r _ _ (()) Za ⟨Io hle hi0 Om Om Om Om,trivial⟩ ⟨hB,b,trivial⟩ (by exact trivial)
 obtain⟨hB,b,e⟩:=x.k3 hB b e
 replace hS:=hS.trans x
 obtain rfl:=g
 refine iZ (dd:=some 27) 13 jW rfl rfl rfl rfl (Yd.val (dp (v:=A) rfl e.sl rfl jO Om NV) ⟨.inl hS,?_⟩)
 refine iZ (dd:=some 28) 14 jW rfl rfl rfl rfl (Yd.val (cD (v:= .string _) rfl lX (dr.cell e.sl iW [] Om NV 0 rfl)) ⟨.inl hS,?_⟩)
 refine Tk 15 rfl (λ_ _=>gP rfl rfl D5) hS<|Tk 16 rfl (λ_ _=>gP rfl rfl D5) hS<|Tk 21 rfl (λ_ _=>gP rfl rfl D5) hS<|Tk 22 rfl (λ_ _=>gP rfl rfl D5) hS<|Tw 23 (.string _) rfl rfl hS<|Td ?_
 exact r _ _ (()) Za ⟨Io hle hi0 Om Om Om Om,trivial⟩ ⟨hB,b,trivial⟩ (by exact trivial)
 rintro u_ al ao ⟨hB,b,_⟩ ⟨_⟩
 have hr:fy T=true:=by simpa using h
 obtain⟨hk0,hk3,hi0,hi8,hno1,hno4,hl64⟩:=iV hr
 refine Zq<|Zr<|Zf rfl fW<|ZL lv rfl iU b rfl<|Zv (db (v:=lv) rfl (Below.slT hB hlv) gZ)<|ZZ rfl<|cy ?_
 refine cW (σ:=(Nat)) [4,4,6,8,10,10,40,72] (λk=>[(40, .int .i64 (k:Int)),(4,ea (ja T k))]) (λk W=>(Below w.heap.size w W)∧(At W p _ 24)∧(k≤T.ls.length)∧(True)) (λk=>T.ls.length-k) (0) ⟨rfl,rfl,trivial⟩ ⟨hB,b,(me _),trivial⟩ ?_
 rintro k ap aq ⟨hB,b,hk,_⟩ ar N
 refine Zr<|Zv (dq rfl rfl)<|ct<|Zq<|ZQ rfl (λO=> ?_) λO=> ?_
 refine cx<|Zq<|cy ?_
 have hpl:=oQ hr k (by omega)
 have hck:=hls.c k (by omega)
 have hbk:=hmb k (by omega)
 have hln:=pu hr (show k<T.ls.length by omega)
 have hll:=Kt hln hi8 hno4
 obtain⟨hr1,hr2,hr3⟩:=nZ.1 hln
 have C:(vs.getD k n6).c.m<256∧(vs.getD k n6).c.v<256:=by rw[hck];exact hbk
 unfold wr at hll
 rw[←hck]at hll
 have hrb:dS (vs.getD k n6).c.m (vs.getD k n6).c.v T.ni=true:=by rw[hck];exact hr1
 unfold zo at hll
 simp only[An,aaW,acG,l4,pG]at hll
 refine Zr<|Zv (dp (v:=lv) rfl (Below.slT hB hlv) rfl gZ Om (by omega))<|Zv (jb rfl gk (dr.cell (Below.slT hB hlv) kd n6 Om (by omega) 0 rfl) (dr.cell (Below.slT hB hlv) kd n6 Om (by omega) 1 rfl) (dr.cell (Below.slT hB hlv) kd n6 Om (by omega) 2 rfl)) ?_
 have l:dr dX 1 w ((vs.getD k n6).o) ((T.ls.getD k jH).os):=hls.o k (by omega)
 refine Zy (cM pq rfl λP au Q R f=> ?_)
 have S:=ZO Q hB
 obtain⟨hB,b⟩:=R.k2 hB b
 refine Zy (cA rfl rfl gk rfl f rfl (by exact pm (dr.one l)) λav D U=> ?_)
 replace hB:=Zg hB D S
 replace b:=At.grownAt b f D Dd
 replace f:=U
 refine ct<|Zr<|Zf rfl wY<|Zv (io rfl dh (At.cell f rfl) (At.cell f rfl))<|Zf rfl f6<|Zl rfl cR b rfl<|ZC (vs:=[.agg #[_,_], .int .i64 _]) Xi (ES (vs.getD k n6).c.m (vs.getD k n6).c.v _ _ C.1 C.2) rfl λaw ax V E=> ?_
 obtain⟨hB,b,f⟩:=V.k3 hB b f
 rw[if_pos hrb]at E
 obtain rfl:=E
 refine Zw (.tuple #[.string _, .int .i64 0]) rfl<|Zv (c7 rfl)<|Zv (da rfl)<|Zw (.string _) rfl<|ZZ rfl<|Zr<|Zw (.string _) rfl<|Zw (.string _) rfl<|Zv (gP rfl rfl Vv)<|Zv (gP rfl rfl Vv)<|Zw (.string _) rfl<|ct<|Zq ?_
 refine Zr<|Zf rfl g7<|ZL ((vs.getD k n6).o) rfl fv f rfl<|Zv (db (v:=(vs.getD k n6).o) rfl (Below.slT hB l) cV)<|ZZ rfl<|cy ?_
 refine cW (σ:=(Nat)) [4,4,10,10,59,69] (λj=>[(59, .int .i64 (j:Int)),(4,ea ((ja T k++(qw (vs.getD k n6).c.m (vs.getD k n6).c.v T.ni.toNat++[32]))++lR ((T.ls.getD k jH).os.take j)))]) (λj W=>(Below w.heap.size w W)∧(At W p _ 24)∧(At W P _ 37)∧(j≤(T.ls.getD k jH).os.length)∧(True)) (λj=>(T.ls.getD k jH).os.length-j) (0) ⟨rfl,Xf,trivial⟩ ⟨hB,b,f,(me _),trivial⟩ ?_
 rintro j ay az ⟨hB,b,f,hj,_⟩ aA X
 refine Zr<|Zv (dq rfl rfl)<|ct<|Zq<|ZQ rfl (λY=> ?_) λY=> ?_
 refine cx<|Zq<|cy<|Zr<|Zv (dp (v:=(vs.getD k n6).o) rfl (Below.slT hB l) rfl cV Om (by omega))<|Zv (cD (v:= .int .i64 _) rfl cR (dr.cell (Below.slT hB l) eD 0 Om (by omega) 0 rfl))<|ZZ rfl ?_
 have hx:0≤(T.ls.getD k jH).os.getD (j:Int).toNat 0∧(T.ls.getD k jH).os.getD (j:Int).toNat 0<3:=hr3 _ (w8 (d:=0) (show j<(T.ls.getD k jH).os.length by omega))
 obtain⟨q,hq⟩:=ab2 hx.1
 have hq1:(T.ls.getD k jH).os.getD (j:Int).toNat 0+1=((q+1:Nat):Int):=by omega
 have hq3:q<3:=by omega
 have hol2:=zV (os:=(T.ls.getD k jH).os) (k:=j)
 refine cI<|Zw (.string _) rfl<|Zi rfl<|Zi rfl<|Zv (d5 rfl rfl Om Om)<|Zv (AD (a:=[48,49,45]) (i:=q) (j:=q+1) rfl (congrArg (Value.int .i64) hq) (congrArg (Value.int .i64) hq1) Tryz.underlying9 Om ix)<|Zv (gP rfl rfl (by simp only[An,aaW,acG,l4,aaX,aci];omega))<|Zw (.string _) rfl<|ct<|ZT rfl rfl rfl ?_
 exact X _ _ (j+1) Za ⟨rfl,IL Om hq hq3,trivial⟩ ⟨hB,b,f,Om,trivial⟩ Zo
 refine cT ?_
 have hol2:=zV (os:=(T.ls.getD k jH).os) (k:=j)
 refine cI<|Zw (.string _) rfl<|Zv (gP rfl rfl Vv)<|Zw (.string _) rfl<|ct<|ZT rfl rfl rfl ?_
 exact N _ _ (k+1) Za ⟨rfl,FJ hck Om,trivial⟩ ⟨hB,b,Om,trivial⟩ Zo
 refine cT ?_
 have hpl:=oQ hr k (by omega)
 refine Zr<|Zw (.string _) rfl<|Zv (gP rfl rfl D5)<|Zw (.string _) rfl<|ZZ rfl<|Zt<|dH (v:= .string _) rfl (v1:= .int .i64 0) rfl ⟨hB,?_⟩
 obtain rfl:k=T.ls.length:=by omega
 rw[if_pos hr];rfl
end
section
structure Dx (Tn:TypeId) (N:Nat) (xs:List Nat) (w w':World):Prop where
 os:w'.os=w.os
 tape:w'.tape=w.tape
 output:w'.output=w.output
 size:w.heap.size≤w'.heap.size
 block:∀k,k<w.heap.size→(k<N∨(k∉xs∧∀c fr,w.heap[k]?≠some (.cells c Tn fr)))→w'.heap[k]? =w.heap[k]?
section
variable {Tn T:TypeId} {N:Nat} {xs:List Nat} {w w' w'':World}
theorem Dx.refl:Dx Tn N xs w w:=⟨rfl,rfl,rfl,am _,λ_ _ _=>rfl⟩
theorem Dx.trans (h:Dx Tn N xs w w') (k:Dx Tn N xs w' w''):Dx Tn N xs w w'':=by
 refine⟨k.os.trans h.os,k.tape.trans h.tape,k.output.trans h.output,go h.size k.size,λj hj hc=> ?_⟩
 have e:=h.block j hj hc
 rw[k.block j (ab0 hj h.size) (hc.imp id λ⟨a,b⟩=>⟨a,λc fr=>by rw[e];exact b c fr⟩),e]
theorem Dx.ext (h:dA w w'):Dx Tn N xs w w':=⟨Below.os h,Below.tape h,Below.output h,Below.size h,λk hk _=>Below.block h k hk⟩
instance {Tn:TypeId} {N:Nat} {xs:List Nat} {w0 w w':World}:Kp w w' (Dx Tn N xs w0 w) (Dx Tn N xs w0 w'):=⟨λh k=>Dx.trans k (Dx.ext h)⟩
theorem Dx.grown (h:w.grownBy w' (some b)) (hb:b∈xs) (hN:N≤b):Dx Tn N xs w w':=by
 refine⟨h.os,h.tape,h.output,h.size,λk hk hc=>h.block k hk λe=> ?_⟩
 cases e
 rcases hc with hc|⟨hc,_⟩
 ·omega
 ·exact hc hb
theorem Dx.row {α:Type} {enc:α→List Value} {sz:Nat} {v:Value} {l:List α} (k:cH enc sz Tn w N v l) (h:w.grownBy w' v.ownBlock):Dx Tn N xs w w':=by
 refine⟨h.os,h.tape,h.output,h.size,λj hj hc=>h.block j hj λe=> ?_⟩
 obtain⟨_,h2|⟨g,cap,cur,h3,hg,hh,_⟩⟩:=k
 ·rw[h2.1]at e;cases e
 ·rw[h3]at e
  obtain rfl:j=g:=aaK e
  rcases hc with hc|⟨_,hc⟩
  ·omega
  ·exact hc _ _ hh
theorem Dx.mono (h:Dx Tn N xs w w') (hs:∀x,x∈xs→x∈ys):Dx Tn N ys w w':=⟨h.os,h.tape,h.output,h.size,λk hk hc=>h.block k hk (hc.imp id λ⟨a,b⟩=>⟨λq=>a (hs k q),b⟩)⟩
theorem Dx.new (h:Dx Tn N xs w w') (hb:w.heap.size≤b) (k:Dx Tn N (b::xs) w' w''):Dx Tn N xs w w'':=by
 refine⟨k.os.trans h.os,k.tape.trans h.tape,k.output.trans h.output,go h.size k.size,λj hj hc=> ?_⟩
 have e:=h.block j hj hc
 rw[k.block j (ab0 hj h.size) (hc.imp id λ⟨a,q⟩=>⟨λm=>(ab9.1 m).elim (λe=>by omega) a,λc fr=>by rw[e];exact q c fr⟩),e]
theorem Below.dx (hB:Go.RowKit.Below B w0 w) (hN:B≤N) (hs:B≤w0.heap.size) (h:Dx Tn N xs w w'):Go.RowKit.Below B w0 w':=
 ⟨h.os.trans hB.os,h.tape.trans hB.tape,h.output.trans hB.output,go hB.size h.size,λk hk=>(h.block k (by have:=hB.size;omega) (.inl (by omega))).trans (hB.block k hk)⟩
end
section
variable {Tn T:TypeId} {N:Nat} {xs:List Nat} {w w' w'':World}
theorem Dx.below (h:Go.RowKit.Below w.heap.size w w'):Dx Tn N xs w w':=⟨h.os,h.tape,h.output,h.size,λk hk _=>h.block k hk⟩
end
end
section
structure gf (Ti:TypeId) (N:Nat) (w:World) (vs:List CV) (ls:List Ln):Prop where
 len:vs.length=ls.length
 c:∀i,i<ls.length→(vs.getD i n6).c=(ls.getD i jH).c
 o:∀i,i<ls.length→cH dX 1 Ti w N (vs.getD i n6).o (ls.getD i jH).os
section
variable {Ti T':TypeId} {N N':Nat} {w w' W:World} {vs:List CV} {ls:List Ln}
theorem gf.nil:gf Ti N w [] []:=⟨rfl,λi hi=>(by cases hi),λi hi=>(by cases hi)⟩
theorem gf.at (k:gf Ti N w vs ls):qo w vs ls:=⟨k.len,k.c,λi hi=>(k.o i hi).sl⟩
theorem gf.ext (h:dA w w') (k:gf Ti N w vs ls):gf Ti N w' vs ls:=⟨k.len,k.c,λi hi=>h.ow (k.o i hi)⟩
instance {w w':World}:Kp w w' (gf Ti N w vs ls) (gf Ti N w' vs ls):=⟨gf.ext⟩
theorem gf.mono (k:gf Ti N w vs ls) (h:N'≤N):gf Ti N' w vs ls:=⟨k.len,k.c,λi hi=>(k.o i hi).mono h⟩
theorem gf.below (h:Go.RowKit.Below w.heap.size w W) (k:gf Ti N w vs ls):gf Ti N W vs ls:=⟨k.len,k.c,λi hi=>Below.ow h (k.o i hi)⟩
theorem gf.grownAt {b:Nat} {c:Array Value} (k:gf Ti N w vs ls) (hm:At w b c T') (hG:w.grownBy w' (some b)) (hT:T'≠Ti):gf Ti N w' vs ls:=⟨k.len,k.c,λi hi=>(k.o i hi).grownAt hm hG hT⟩
theorem gf.grownOw {α:Type} {enc:α→List Value} {sz:Nat} {v:Value} {l:List α} (k:gf Ti N w vs ls) (h:cH enc sz T' w N' v l) (hG:w.grownBy w' v.ownBlock) (hT:T'≠Ti):gf Ti N w' vs ls:=⟨k.len,k.c,λi hi=>(k.o i hi).grownOw h hG hT.symm⟩
theorem gf.snoc (k:gf Ti N w vs ls) (hc:x.c=l.c) (ho:cH dX 1 Ti w N x.o l.os):gf Ti N w (vs++[x]) (ls++[l]):=by
 have hl:=k.len
 refine⟨by simp[hl],λi hi=> ?_,λi hi=> ?_⟩
 all_goals
  rw[An,acf]at hi
  by_cases h1:i<ls.length
  ·have e1:(vs++[x]).getD i n6=vs.getD i n6:=by simp only[Do];rw[acI (by omega)]
   have e2:(ls++[l]).getD i jH=ls.getD i jH:=by simp only[Do];rw[acI (by omega)]
   rw[e1,e2]
   first|exact k.c i h1|exact k.o i h1
  ·obtain rfl:i=ls.length:=by omega
   have e1:(vs++[x]).getD ls.length n6=x:=by simp only[Do];rw[acE (by omega),hl,Nat.sub_self];rfl
   have e2:(ls++[l]).getD ls.length jH=l:=by simp only[Do];rw[acE (by omega),Nat.sub_self];rfl
   rw[e1,e2]
   first|exact hc|exact ho
theorem qo.ext (h:dA w w') (k:qo w vs ls):qo w' vs ls:=⟨k.len,k.c,λi hi=>h.slT (k.o i hi)⟩
end
theorem pl (h:v.oneCell'=true):(#[Value.int .i64 a, .int .i64 b, .int .i64 c,v]:Array Value).toList.all Value.oneCell'=true:=by
 simp only[acL,adj,h]
 rfl
def rW (b:Nat):Int:=if b=45 then 2 else (b:Int)-48
def iJ (s:List UInt8):List Int:=s.map λb=>rW b.toNat
def gR (ni no:Int) (line:List UInt8):Bool:=
 (Lib.cut line [32]).2.2&&(jw (Lib.cut line [32]).1&&(decide (((Lib.cut line [32]).1.length:Int)=ni)&&(decide (((Lib.cut line [32]).2.1.length:Int)=no)&&(List.range (Lib.cut line [32]).2.1.length).all λi=>kX (gg (Lib.cut line [32]).2.1 i))))
def pN (line:List UInt8):Ln:=⟨ph (Lib.cut line [32]).1,iJ (Lib.cut line [32]).2.1⟩
section
variable {P:Program} {f:Nat→Value} {w:World} {d:Option Nat} {ty:TypeId} {ps:String} {af:Array Edge} {g:Option (Nat×Bool)} {x y:Operand} {t t2:TypeId}
theorem Gb {m n:Nat} {b:Int} (hx:dm f x= .int .i32 (m:Int)) (hy:dm f y= .int .i32 b) (hb:b=(n:Int)) (h:n≤m) (hm:m<2147483648):
  (execOp (dm f) ⟨d, .binOp .sub t x y t2,ty,ps,af,g⟩).run P w= .ok (.value (.int .i32 ((m-n:Nat):Int))) w:=by
 subst hb
 rw[Og hx hy,show (m:Int)-(n:Int)=((m-n:Nat):Int)by omega,kB (show m-n<ig .i32 by simp only[ig];omega)]
theorem VU {m n:Nat} (hx:dm f x= .int .i64 (m:Int)) (hy:dm f y= .int .i64 1) (hm:m=n+1) (hn:n<9223372036854775807):
  (execOp (dm f) ⟨d, .binOp .sub t x y t2,ty,ps,af,g⟩).run P w= .ok (.value (.int .i64 (n:Int))) w:=by
 rw[jY hx hy (by omega) (by omega),show (m:Int)-1=(n:Int)by omega]
end
section
variable {s line:List UInt8} {i r:Nat} {x ni no:Int}
theorem Rv (s p:List UInt8):(Lib.cut s p).1.length≤s.length∧(Lib.cut s p).2.1.length≤s.length:=by
 unfold Lib.cut
 grind
theorem mu (s:List UInt8):(iJ s).length=s.length:=by simp[iJ]
theorem qJ (h:i<s.length) (hx:x=rW (gg s i)):iJ (s.take (i+1))=iJ (s.take i)++[x]:=by
 grind [iJ,List.take_add_one,List.getElem?_eq_getElem,gg]
theorem QG (h:gg s i=48∨gg s i=49) (hr:r=gg s i):((r-48:Nat):Int)=rW (gg s i):=by
 unfold rW;rw[if_neg (by omega)];omega
theorem Xq (h:gg s i=45):(2:Int)=rW (gg s i):=by rw[h];rfl
theorem Qw (h:(!(Lib.cut line [32]).2.2)=true):gR ni no line=false:=by
 grind [gR]
theorem VZ (h:¬jw (Lib.cut line [32]).1=true):gR ni no line=false:=by
 unfold gR
 grind
theorem WW (h:¬((Lib.cut line [32]).1.length:Int)=ni):gR ni no line=false:=by
 unfold gR
 grind
theorem WR (h:¬((Lib.cut line [32]).2.1.length:Int)=no):gR ni no line=false:=by
 unfold gR
 grind
theorem WK (hi:i<(Lib.cut line [32]).2.1.length) (h:kX (gg (Lib.cut line [32]).2.1 i)=false):gR ni no line=false:=by
 unfold gR
 grind
theorem aaH (h1:(!(Lib.cut line [32]).2.2)=false) (h2:jw (Lib.cut line [32]).1=true) (h3:¬¬((Lib.cut line [32]).1.length:Int)=ni) (h4:¬¬((Lib.cut line [32]).2.1.length:Int)=no) (h5:∀q,q<(Lib.cut line [32]).2.1.length→kX (gg (Lib.cut line [32]).2.1 q)=true):gR ni no line=true:=by
 unfold gR
 grind
theorem sS:gR ni no line=true↔(Lib.cut line [32]).2.2=true∧jw (Lib.cut line [32]).1=true∧((Lib.cut line [32]).1.length:Int)=ni∧((Lib.cut line [32]).2.1.length:Int)=no∧∀q,q<(Lib.cut line [32]).2.1.length→kX (gg (Lib.cut line [32]).2.1 q)=true:=by
 grind [gR,List.all_eq_true]
end
structure Rd where
 T:Tb
 st:Int
 told:Int
def QL:Tb:=⟨0,0,0,[]⟩
def HE:Rd:=⟨⟨1,0,0,[]⟩,0,-1⟩
def J3 (b:Bool):Int:=if b=true then 0 else 2
def ie:List UInt8:=[46,116,121,112,101,32]
def Cl (s:List UInt8):Option Nat:=if s=[102]then some 0 else if s=[102,100]then some 1 else if s=[102,114]then some 2 else if s=[102,100,114]then some 3 else none
def fi (r:Rd) (l:List UInt8):Rd×Int:=
 if r.st=0 then (⟨{r.T with ni:=fJ l [46,105] 0 8},r.st+1,r.told⟩,J3 (decide (fJ l [46,105] 0 8≥0)))
 else if r.st=1 then (⟨{r.T with no:=fJ l [46,111] 1 4},r.st+1,r.told⟩,J3 (decide (fJ l [46,111] 1 4≥0)))
 else if r.st=5 then (r,2)
 else if Lib.hasPrefix l ie=true∧r.st=2 then
  match Cl (Lib.trimPrefix l ie)with
  |some k=>(⟨{r.T with kind:=k},3,r.told⟩,0)
  |none=>(⟨r.T,3,r.told⟩,2)
 else if fJ l [46,112] 0 64≥0∧r.st≤3 then (⟨r.T,4,fJ l [46,112] 0 64⟩,0)
 else if l=[46,101]then (⟨r.T,5,r.told⟩,J3 (decide (r.told<0)||decide (r.told=(r.T.ls.length:Int))))
 else if gR r.T.ni r.T.no l=true then (⟨{r.T with ls:=r.T.ls++[pN l]},4,r.told⟩,if r.T.ls.length=64 then 3 else 0)
 else (⟨r.T,4,r.told⟩,2)
section
variable {r:Rd} {l:List UInt8} {i k:Nat}
theorem Wh (h:r.st=0):fi r l=(⟨{r.T with ni:=fJ l [46,105] 0 8},r.st+1,r.told⟩,J3 (decide (fJ l [46,105] 0 8≥0))):=by unfold fi;rw[if_pos h]
theorem Xd (h0:¬r.st=0) (h:r.st=1):fi r l=(⟨{r.T with no:=fJ l [46,111] 1 4},r.st+1,r.told⟩,J3 (decide (fJ l [46,111] 1 4≥0))):=by unfold fi;rw[if_neg h0,if_pos h]
theorem Y9 (h0:¬r.st=0) (h1:¬r.st=1) (h:r.st=5):fi r l=(r,2):=by unfold fi;rw[if_neg h0,if_neg h1,if_pos h]
theorem HZ (hi:i<4) (h:gr.getD i []=l):Cl l=some i:=by
 subst h
 match i,hi with
 |0,_|1,_|2,_|3,_=>decide
theorem Im (h:∀q,q<4→¬gr.getD q []=l):Cl l=none:=by
 unfold Cl
 rw[if_neg λe=>h 0 (by decide) e.symm,if_neg λe=>h 1 (by decide) e.symm,if_neg λe=>h 2 (by decide) e.symm,if_neg λe=>h 3 (by decide) e.symm]
theorem WI (h0:¬r.st=0) (h1:¬r.st=1) (h5:¬r.st=5) (hp:Lib.hasPrefix l ie=true) (h2:r.st=2) (hi:i<4) (hk:gr.getD i []=Lib.trimPrefix l ie):fi r l=(⟨{r.T with kind:=(i:Int)},3,r.told⟩,0):=by
 unfold fi;rw[if_neg h0,if_neg h1,if_neg h5,if_pos ⟨hp,h2⟩,HZ hi hk]
theorem U3 (h0:¬r.st=0) (h1:¬r.st=1) (h5:¬r.st=5) (hp:Lib.hasPrefix l ie=true) (h2:r.st=2) (hk:∀q,q<4→¬gr.getD q []=Lib.trimPrefix l ie):fi r l=(⟨r.T,3,r.told⟩,2):=by
 unfold fi;rw[if_neg h0,if_neg h1,if_neg h5,if_pos ⟨hp,h2⟩,Im hk]
theorem WE (h0:¬r.st=0) (h1:¬r.st=1) (h5:¬r.st=5) (hp:¬(Lib.hasPrefix l ie=true∧r.st=2)) (hn:fJ l [46,112] 0 64≥0) (h3:r.st≤3):fi r l=(⟨r.T,4,fJ l [46,112] 0 64⟩,0):=by
 unfold fi;rw[if_neg h0,if_neg h1,if_neg h5,if_neg hp,if_pos ⟨hn,h3⟩]
theorem R8 (h0:¬r.st=0) (h1:¬r.st=1) (h5:¬r.st=5) (hp:¬(Lib.hasPrefix l ie=true∧r.st=2)) (hn:¬(fJ l [46,112] 0 64≥0∧r.st≤3)) (he:l=[46,101]):fi r l=(⟨r.T,5,r.told⟩,J3 (decide (r.told<0)||decide (r.told=(r.T.ls.length:Int)))):=by
 unfold fi;rw[if_neg h0,if_neg h1,if_neg h5,if_neg hp,if_neg hn,if_pos he]
theorem S0 (h0:¬r.st=0) (h1:¬r.st=1) (h5:¬r.st=5) (hp:¬(Lib.hasPrefix l ie=true∧r.st=2)) (hn:¬(fJ l [46,112] 0 64≥0∧r.st≤3)) (he:¬l=[46,101]) (hr:gR r.T.ni r.T.no l=true):fi r l=(⟨{r.T with ls:=r.T.ls++[pN l]},4,r.told⟩,if r.T.ls.length=64 then 3 else 0):=by
 unfold fi;rw[if_neg h0,if_neg h1,if_neg h5,if_neg hp,if_neg hn,if_neg he,if_pos hr]
theorem K8 (h0:¬r.st=0) (h1:¬r.st=1) (h5:¬r.st=5) (hp:¬(Lib.hasPrefix l ie=true∧r.st=2)) (hn:¬(fJ l [46,112] 0 64≥0∧r.st≤3)) (he:¬l=[46,101]) (hr:gR r.T.ni r.T.no l=false):fi r l=(⟨r.T,4,r.told⟩,2):=by
 unfold fi;rw[if_neg h0,if_neg h1,if_neg h5,if_neg hp,if_neg hn,if_neg he,if_neg (by rw[hr];decide)]
theorem RF:(fi r l).1.T.ls=r.T.ls∨(fi r l).1.T.ls=r.T.ls++[pN l]∧(gR r.T.ni r.T.no l=true∧(fi r l).2=if r.T.ls.length=64 then 3 else 0):=by
 unfold fi
 grind
theorem GO (h:r.T.ls.length≤64) (he:(fi r l).2=0):(fi r l).1.T.ls.length≤64:=by
 grind [RF,List.length_append,List.length_singleton]
end
def wJ (Tr Tl Ti:TypeId) (N:Nat) (w:World) (br:Nat) (r:Rd):Prop:=
 ∃lv vs,At w br #[.int .i64 r.T.kind, .int .i64 r.T.ni, .int .i64 r.T.no,lv, .int .i64 r.st, .int .i64 r.told] Tr∧cH il 3 Tl w N lv vs∧gf Ti N w vs r.T.ls
section
variable {Tr Tl Ti T':TypeId} {N N' br:Nat} {w w' W:World} {r:Rd}
theorem wJ.ext (h:dA w w') (k:wJ Tr Tl Ti N w br r):wJ Tr Tl Ti N w' br r:=by
 obtain⟨lv,vs,h1,h2,h3⟩:=k
 exact⟨lv,vs,h.at h1,h.ow h2,h3.ext h⟩
theorem At.rd (hR:wJ Tr Tl Ti N w br r) (hX:Dx Tl N [br] w w') (k:At w b c T) (h1:T≠Tl) (h2:T≠Tr):At w' b c T:=by
 obtain⟨lv,vs,a1,_,_⟩:=hR
 have hne:=adT k a1 h2
 unfold At at*
 rw[hX.block b (gX k) (.inr ⟨by simpa using hne,λc' fr e=>by rw[k]at e;simp at e;exact h1 e.2.1⟩)]
 exact k
theorem cH.rd {α:Type} {enc:α→List Value} {sz:Nat} {T:TypeId} {v:Value} {l:List α} (hR:wJ Tr Tl Ti N w br r) (hX:Dx Tl N [br] w w') (ho:cH enc sz T w N' v l) (h1:T≠Tl) (h2:T≠Tr):cH enc sz T w' N' v l:=by
 obtain⟨q1,q2|⟨g,cap,cur,q3,hg,hh,q⟩⟩:=ho
 ·exact⟨q1, .inl q2⟩
 ·exact⟨q1, .inr ⟨g,cap,cur,q3,hg,At.rd (c:=cur) hR hX hh h1 h2,q⟩⟩
end
def oR (l:List UInt8):Bool:=decide (l=[])||decide (gg l 0=35)
def kW (r:Rd) (l:List UInt8):Rd:=if oR l=true then r else (fi r l).1
def lx (r:Rd) (l:List UInt8):Int:=if oR l=true then 0 else (fi r l).2
def iD (ls:List (List UInt8)) (k:Nat):Rd:=(ls.take k).foldl kW HE
def Dl (ls:List (List UInt8)) (n:Nat):Option Nat:=(List.range n).find? λk=>decide (lx (iD ls k) (ls.getD k [])≠0)
def cF (s:List UInt8):Tb×Nat×Int:=
 if 8000<s.length then (QL,0,3)
 else match Dl (cQ s) ((cQ s).length-1)with
  |some k=>(QL,k,lx (iD (cQ s) k) ((cQ s).getD k []))
  |none=>if (cQ s).getD ((cQ s).length-1) []≠[]then (QL,(cQ s).length-1,2)
   else if (iD (cQ s) ((cQ s).length-1)).st≠5 then (QL,(cQ s).length-1,7)
   else ((iD (cQ s) ((cQ s).length-1)).T,0,0)
section
variable {ls:List (List UInt8)} {s:List UInt8} {k n:Nat} {r:Rd} {l:List UInt8}
theorem FY:iD ls 0=HE:=rfl
theorem mM (h:k<ls.length):iD ls (k+1)=kW (iD ls k) (ls.getD k []):=by
 grind [iD,List.take_add_one,List.getElem?_eq_getElem]
theorem jd (h:oR l=true):kW r l=r∧lx r l=0:=by unfold kW lx;rw[if_pos h,if_pos h];exact⟨rfl,rfl⟩
theorem fQ (h:oR l=false):kW r l=(fi r l).1∧lx r l=(fi r l).2:=by unfold kW lx;rw[if_neg (by rw[h];decide),if_neg (by rw[h];decide)];exact⟨rfl,rfl⟩
theorem vE (h:l=[]):oR l=true:=by rw[h];rfl
theorem s9 (h:((gg l 0:Nat):Int)=35):oR l=true:=by unfold oR;rw[decide_eq_true (show gg l 0=35 by omega),Bool.or_true]
theorem mY (h:¬l=[]) (h2:¬((gg l 0:Nat):Int)=35):oR l=false:=by grind [oR,decide_eq_false,gg]
theorem PL (hk:k<n) (h:∀q,q<k→lx (iD ls q) (ls.getD q [])=0) (he:¬lx (iD ls k) (ls.getD k [])=0):Dl ls n=some k:=by
 grind [Dl,List.find?_range_eq_some]
theorem Aw (h:∀q,q<n→lx (iD ls q) (ls.getD q [])=0):Dl ls n=none:=by
 grind [Dl,List.find?_eq_none]
theorem LZ (h:Dl ls n=none):∀q,q<n→lx (iD ls q) (ls.getD q [])=0:=by
 grind [Dl,List.find?_eq_none]
theorem QC (h:∀q,q<k→lx (iD ls q) (ls.getD q [])=0) (hk:k≤ls.length):(iD ls k).T.ls.length≤64:=by
 induction k with
 |zero=>rw[FY];decide
 |succ k ih=>
  rw[mM (by omega)]
  have h1:=ih (λq hq=>h q (by omega)) (by omega)
  have h2:=h k (by omega)
  cases hs:oR (ls.getD k [])with
  |true=>rw[(jd hs).1];exact h1
  |false=>grind [fQ,GO]
theorem BX:∀(s l:List UInt8),l∈cQ s→l.length≤s.length
 |[],l,h=>by
  rw[cQ,aaG]at h
  rw[h];exact am _
 |b::r,l,h=>by
  have ih:=BX r
  unfold cQ at h
  by_cases hb:b=10
  ·rw[if_pos hb]at h
   rcases ab9.1 h with rfl|h
   ·exact me _
   ·have:=ih l h;simp only[aaW];omega
  ·rw[if_neg hb]at h
   cases hl:cQ r with
   |nil=>exact absurd hl (mm r)
   |cons a t=>
    rw[hl]at h ih
    simp only at h
    rcases ab9.1 h with rfl|h
    ·have:=ih a (aaZ);simp only[aaW];omega
    ·have:=ih l (abe _ h);simp only[aaW];omega
theorem IF (s:List UInt8) (k:Nat):((cQ s).getD k []).length≤s.length:=by
 rw[Do]
 cases h:(cQ s)[k]? with
 |none=>exact me _
 |some l=>exact BX s l (List.mem_of_getElem? h)
theorem xD (s:List UInt8):(cQ s).length≤s.length+1:=by
 induction s with
 |nil=>exact am _
 |cons b r ih=>
  unfold cQ
  by_cases hb:b=10
  ·rw[if_pos hb];simp only[aaW];omega
  ·rw[if_neg hb]
   cases hl:cQ r with
   |nil=>exact absurd hl (mm r)
   |cons a t=>rw[hl]at ih;simp only[aaW]at*;omega
theorem Ax (h:8000<s.length):cF s=(QL,0,3):=by unfold cF;rw[if_pos h]
theorem Kj (h:¬8000<s.length) (hn:(cQ s).length=n+1) (hk:k<n) (hq:∀q,q<k→lx (iD (cQ s) q) ((cQ s).getD q [])=0) (he:¬lx (iD (cQ s) k) ((cQ s).getD k [])=0):cF s=(QL,k,lx (iD (cQ s) k) ((cQ s).getD k [])):=by
 unfold cF
 rw[if_neg h,show (cQ s).length-1=n by omega,PL hk hq he]
theorem zK (h:¬8000<s.length) (hn:(cQ s).length=n+1) (hq:∀q,q<n→lx (iD (cQ s) q) ((cQ s).getD q [])=0) (he:¬(cQ s).getD n []=[]):cF s=(QL,n,2):=by
 unfold cF
 rw[if_neg h,show (cQ s).length-1=n by omega,Aw hq]
 grind
theorem y7 (h:¬8000<s.length) (hn:(cQ s).length=n+1) (hq:∀q,q<n→lx (iD (cQ s) q) ((cQ s).getD q [])=0) (he:(cQ s).getD n []=[]) (h5:¬(iD (cQ s) n).st=5):cF s=(QL,n,7):=by
 unfold cF
 rw[if_neg h,show (cQ s).length-1=n by omega,Aw hq]
 grind
theorem Ds (h:¬8000<s.length) (hn:(cQ s).length=n+1) (hq:∀q,q<n→lx (iD (cQ s) q) ((cQ s).getD q [])=0) (he:(cQ s).getD n []=[]) (h5:(iD (cQ s) n).st=5):cF s=((iD (cQ s) n).T,0,0):=by
 unfold cF
 rw[if_neg h,show (cQ s).length-1=n by omega,Aw hq]
 grind
theorem E2 (h:ls.length=n+1):((ls.drop 0).take (n-0)).length=n:=by grind
theorem Lt (l:List (List UInt8)) (h:k<n):((l.drop 0).take (n-0)).getD k []=l.getD k []:=by
 grind
end
end
section
theorem VH:cY Tryz.prog 91=true:=by kernel_rfl
theorem Q6:cY Tryz.prog 166=true:=by kernel_rfl
theorem ib:eb Tryz.prog 114 0=some 0:=by kernel_rfl
theorem pw:(Tryz.prog.info? 34).map (·.size)=some 2:=by kernel_rfl
theorem tr:(Tryz.prog.info? 35).map (·.size)=some 1:=by kernel_rfl
theorem qN (h0:dm f x0= .agg #[c0_0,c0_1]):
    (execOp (dm f) ⟨d, .build 37 #[(0,x0)],ty,ps,af,g⟩).run Tryz.prog w= .ok (.value (.agg #[c0_0,c0_1, .slice none 0 0])) w:=by
  obtain⟨i0,hi0,hz0⟩:=we.1 (show (Tryz.prog.info? 37).bind (·.zero)=_ from pq)
  obtain⟨j34,hj34,hs34⟩:=an.1 pw
  obtain⟨j35,hj35,hs35⟩:=an.1 tr
  simp[execOp,h0,Instr.build,zeroValue,typeInfo,sizeOf,hi0,hz0,run_underlying Tryz.underlying37,Instr.fill,d7,hj34,hs34,hj35,hs35]
theorem oW:(d4 Tryz.prog 37).map (λz=>z.cells.size)=some 3:=by kernel_rfl
theorem ic:eb Tryz.prog 114 1=some 4:=by kernel_rfl
theorem EB:cY Tryz.prog 124=true:=by kernel_rfl
theorem yw:cY Tryz.prog 123=true:=by kernel_rfl
theorem uq:eb Tryz.prog 114 2=some 5:=by kernel_rfl
theorem ST:cY Tryz.prog 126=true:=by kernel_rfl
theorem pn:d4 Tryz.prog 24=some (.agg #[.int .i64 0, .int .i64 0, .int .i64 0, .slice none 0 0]):=by kernel_rfl
theorem fL:(Tryz.prog.info? 3).map (·.size)=some 1:=by kernel_rfl
theorem w3:(Tryz.prog.info? 22).map (·.size)=some 1:=by kernel_rfl
theorem gW:
    (execOp (dm f) ⟨d, .build 24 #[],ty,ps,af,g⟩).run Tryz.prog w= .ok (.value (.agg #[.int .i64 0, .int .i64 0, .int .i64 0, .slice none 0 0])) w:=by
  obtain⟨i0,hi0,hz0⟩:=we.1 (show (Tryz.prog.info? 24).bind (·.zero)=_ from pn)
  obtain⟨j3,hj3,hs3⟩:=an.1 fL
  obtain⟨j22,hj22,hs22⟩:=an.1 w3
  simp[execOp,Instr.build,zeroValue,typeInfo,sizeOf,hi0,hz0,run_underlying Tryz.underlying24,Instr.fill,d7,hj3,hs3,hj22,hs22]
theorem vK (h0:dm f x0=c0_0) (k0:c0_0.cells= #[c0_0]):
    (execOp (dm f) ⟨d, .build 24 #[(0,x0)],ty,ps,af,g⟩).run Tryz.prog w= .ok (.value (.agg #[c0_0, .int .i64 0, .int .i64 0, .slice none 0 0])) w:=by
  obtain⟨i0,hi0,hz0⟩:=we.1 (show (Tryz.prog.info? 24).bind (·.zero)=_ from pn)
  obtain⟨j3,hj3,hs3⟩:=an.1 fL
  obtain⟨j22,hj22,hs22⟩:=an.1 w3
  simp[execOp,h0,k0,Instr.build,zeroValue,typeInfo,sizeOf,hi0,hz0,run_underlying Tryz.underlying24,Instr.fill,d7,hj3,hs3,hj22,hs22]
theorem TD:d4 Tryz.prog 114=some (.agg #[.int .i64 0, .int .i64 0, .int .i64 0, .slice none 0 0, .int .i64 0, .int .i64 0]):=by kernel_rfl
theorem Cf:(Tryz.prog.info? 24).map (·.size)=some 4:=by kernel_rfl
theorem xW (h0:dm f x0= .agg #[c0_0,c0_1,c0_2,c0_3]) (h1:dm f x1=c1_0) (k1:c1_0.cells= #[c1_0]):
    (execOp (dm f) ⟨d, .build 114 #[(0,x0),(2,x1)],ty,ps,af,g⟩).run Tryz.prog w= .ok (.value (.agg #[c0_0,c0_1,c0_2,c0_3, .int .i64 0,c1_0])) w:=by
  obtain⟨i0,hi0,hz0⟩:=we.1 (show (Tryz.prog.info? 114).bind (·.zero)=_ from TD)
  obtain⟨j3,hj3,hs3⟩:=an.1 fL
  obtain⟨j24,hj24,hs24⟩:=an.1 Cf
  simp[execOp,h0,h1,k1,Instr.build,zeroValue,typeInfo,sizeOf,hi0,hz0,run_underlying Tryz.underlying114,Instr.fill,d7,hj3,hs3,hj24,hs24]
theorem XO:cY Tryz.prog 58=true:=by kernel_rfl
theorem Xh:cY Tryz.prog 59=true:=by kernel_rfl
theorem tI (N br:Nat) (r:Rd) (line:List UInt8) (w:World) (hN0:N≤w.heap.size) (hgl:∀W,Below N w W→Gl W) (hl:line.length≤10000) (lob:N≤br) (h64:r.T.ls.length≤64) (hR:wJ 114 37 3 N w br (r)):
    lk Tryz.prog 126 #[.pointer (some ⟨br,0,none⟩),ea line] w λv w'=>Dx 37 N [br] w w'∧((gR r.T.ni r.T.no line=true∧v= .bool true∧wJ 114 37 3 N w' br (⟨{r.T with ls:=r.T.ls++[pN line]},r.st,r.told⟩))∨(gR r.T.ni r.T.no line=false∧v= .bool false∧wJ 114 37 3 N w' br (r))):=by
 refine dL (n:=88) (N:=N) Tryz.func126 rfl rfl rfl λhB=> ?_
 have hX:Dx 37 N [br] w w:=Dx.refl
 obtain⟨lv,vs,hrd,hlv,hls⟩:=hR
 have hlen:=hls.len
 have hbl:=(Rv line [32]).2
 refine Zr<|Zb rfl<|ct<|Zr<|Zw (.string _) rfl<|ZC VH (Br _ _ _ (hgl _ hB) (by omega)) rfl λaO W5 Y ae=> ?_
 obtain⟨hrd,hlv,hls,hX⟩:=Y.k4 hrd hlv hls hX
 replace hB:=cX hB Y hN0
 obtain rfl:=ae
 refine Zw (.tuple #[.string _, .string _, .bool _]) rfl<|Zv (gj rfl)<|Zv (iy rfl)<|Zv (ik rfl)<|Zw (.string _) rfl<|Zw (.string _) rfl<|Zb rfl<|ct ?_
 have f:=hB
 replace hB:=Below.refl W5.heap.size W5
 refine Zr<|Zw (.string _) rfl<|ZC Q6 (C7 _ _) rfl λaP aQ af z=> ?_
 replace hB:=Ze hB af
 by_cases hcub2_1:jw (Lib.cut line [32]).1=true
 rw[if_pos hcub2_1]at z
 obtain rfl:=z
 refine Zw (.tuple #[.agg #[_,_], .int .i64 0]) rfl<|Zv (c7 rfl)<|Zv (da rfl)<|Zy (cM gV rfl λZ aR ag ah d=> ?_)
 have J:=ZO ag hB
 replace hB:=Ze hB ah
 refine Zy (cA rfl rfl dh rfl d rfl rfl λaS ai aj=> ?_)
 replace hB:=Zg hB ai J
 replace d:=aj
 refine ZZ rfl<|Zq<|Zr<|Zb rfl<|Zv (eK rfl)<|ZX rfl (λg=> ?_) λg=> ?_
 refine Zs<|Zs<|Zb rfl<|Zb rfl<|Zs<|Zs<|Zs<|Zs<|Zs<|Zs<|Zs<|Zs<|Zb rfl<|Zb rfl ?_
 refine Zs<|Zs<|Zs<|Zs<|Zs<|Zs<|Zs<|Zs<|Zb rfl<|ct<|cN rfl<|Zr<|Zb rfl<|ct ?_
 refine lV ?_
 replace hrd:=On hB hrd
 replace hlv:=Below.ow hB hlv
 replace hls:=gf.below hB hls
 replace hX:=Dx.trans hX (Dx.below hB)
 have hzs:=go hN0 (Below.size f)
 repeat (first|refine dZ ?_|refine dI ?_)
 refine cZ (v:= .bool false) rfl ?_
 refine⟨hX, .inr ⟨?_,rfl,⟨lv,vs,hrd,hlv,hls⟩⟩⟩
 exact Qw g
 refine Zi rfl<|Zv (eV rfl rfl)<|Zb rfl<|ZX rfl (λo=> ?_) λo=> ?_
 exact(o rfl).elim
 refine Zw (.string _) rfl<|Zv (m4 rfl Tryz.underlying9)<|Zp rfl<|Zc rfl<|Zf rfl ib<|Zf rfl f6<|Zl rfl cR (On hB hrd) rfl<|Zv (eV rfl rfl)<|Zb rfl<|ZX rfl (λK=> ?_) λK=> ?_
 refine Zs<|Zs<|Zs<|Zs<|Zs<|Zs<|Zs<|Zs<|Zb rfl<|ct<|cN rfl<|Zr<|Zb rfl<|ct ?_
 refine lV ?_
 replace hrd:=On hB hrd
 replace hlv:=Below.ow hB hlv
 replace hls:=gf.below hB hls
 replace hX:=Dx.trans hX (Dx.below hB)
 have hzs:=go hN0 (Below.size f)
 repeat (first|refine dZ ?_|refine dI ?_)
 refine cZ (v:= .bool false) rfl ?_
 refine⟨hX, .inr ⟨?_,rfl,⟨lv,vs,hrd,hlv,hls⟩⟩⟩
 exact WW K
 refine Zw (.string _) rfl<|Zv (m4 rfl Tryz.underlying9)<|Zp rfl<|Zc rfl<|Zf rfl ib<|Zf rfl gN<|Zl rfl cR (On hB hrd) rfl<|Zv (eV rfl rfl)<|Zb rfl<|ct<|ZQ rfl (λL=> ?_) λL=> ?_
 refine Zr<|Zb rfl<|ct ?_
 refine lV ?_
 replace hrd:=On hB hrd
 replace hlv:=Below.ow hB hlv
 replace hls:=gf.below hB hls
 replace hX:=Dx.trans hX (Dx.below hB)
 have hzs:=go hN0 (Below.size f)
 repeat (first|refine dZ ?_|refine dI ?_)
 refine cZ (v:= .bool false) rfl ?_
 refine⟨hX, .inr ⟨?_,rfl,⟨lv,vs,hrd,hlv,hls⟩⟩⟩
 exact WR L
 refine cx<|Zr<|Zv (cz rfl dh rfl d)<|Zv (qN (h0:=rfl))<|Zy (cM pq rfl λak aT al ao c=> ?_)
 have A:=ZO al hB
 obtain⟨hB,d⟩:=ao.k2 hB d
 refine Zy (cA rfl rfl gk rfl c rfl rfl λaU aa ap=> ?_)
 replace hB:=Zg hB aa A
 replace d:=At.grownAt d c aa Dd
 replace c:=ap
 refine ct<|Zq<|Zr<|Zw (.string _) rfl<|Zy (ET rfl Tryz.underlying9 λaq aV ar au av=> ?_)
 have aw:=ZO ar hB
 obtain⟨hB,d,c⟩:=au.k3 hB d c
 refine ct<|cy ?_
 refine cW (σ:=(Nat)×(Value)) [4,4,12,12,54,75] (λ(i,ov)=>[]) (λsg W=>match sg with|(i,ov)=>(Below W5.heap.size W5 W)∧(At W Z _ 34)∧(rp W aq (Lib.cut line [32]).2.1 i)∧(At W ak #[.int .u8 ((ph (Lib.cut line [32]).1).m:Int), .int .u8 ((ph (Lib.cut line [32]).1).v:Int),ov] 37)∧(cH dX 1 3 W W5.heap.size ov (iJ ((Lib.cut line [32]).2.1.take i)))∧(i≤(Lib.cut line [32]).2.1.length)∧(∀q,q<i→kX (gg (Lib.cut line [32]).2.1 q)=true)∧(True)) (λ(i,ov)=>(Lib.cut line [32]).2.1.length-i) ((0, .slice none 0 0)) trivial ⟨hB,d,av,c,cH.nil,(me _),eO,trivial⟩ ?_
 rintro⟨i,ov⟩ aW aX ⟨hB,d,hit,c,hov,hi,hq,_⟩ aY M
 refine Zr ?_
 refine gU (dd:=some 54) rfl rfl rfl (Kb rfl hit (λaZ=> ?_) (λab O a0 ax a1 ay B az=> ?_))
 refine Zv (rZ rfl)<|ct<|Zq<|dE rfl<|cT ?_
 replace hrd:=On hB hrd
 replace hlv:=Below.ow hB hlv
 replace hls:=gf.below hB hls
 replace hX:=Dx.trans hX (Dx.below hB)
 have hzs:=go hN0 (Below.size f)
 replace hov:=cH.mono hov hzs
 replace hB:=Below.trans f (Below.mono hB hzs)
 have hie:i=(Lib.cut line [32]).2.1.length:=by omega
 subst hie
 rw[aaY]at hov
 refine Zd (λa b=>a.grownBy b lv.ownBlock) λaA P=> ?_
 obtain⟨hrd,hlv,hls,hX⟩:=P.k4 hrd hlv hls hX
 replace hB:=cX hB P hN0
 obtain⟨c,hov⟩:=P.k2 c hov
 have aB:=hlv
 have hS:=World.grownBy.refl aA lv.ownBlock
 refine Tq 0 rfl rfl hS<|Tq 1 rfl rfl hS<|Tc 2 rfl rfl hS<|Tf 3 rfl rfl ib hS<|Tf 4 rfl rfl fW hS<|Tk 5 rfl (λ_ hq=>cD (v:=lv) rfl iU (At.cell (At.grownOw hrd aB hq Dd) rfl)) hS ?_
 refine iZ (dd:=some 82) 6 jW rfl rfl rfl rfl (Yd.val (cz rfl gk rfl c) ⟨.inl hS,?_⟩)
 refine To 7 rfl (ez (u:= .agg #[_,_,_]) rfl gZ oW rfl Dd Dd λaC a2 a3 p aD=>⟨.inl (cB hS (dA.grown p lv.ownBlock)),?_⟩)
 obtain⟨hrd,hlv,hls,hX⟩:=p.k4 hrd hlv hls hX
 replace hB:=cX hB p hN0
 replace hov:=p.ow hov
 replace hS:=cB hS (dA.grown p lv.ownBlock)
 refine To 8 rfl (dP (v:=lv) (v2:= .slice (some ⟨aC,0,none⟩) 1 1) rfl rfl gZ oW Dd hlv (eJ aD rfl) (pm (dr.one (cH.sl hov))) (m3 hB) Om Om λaE a4 h j=>⟨.inl (cB hS h),?_⟩)
 replace hS:=cB hS h
 replace j:=cH.snoc (enc:=il) (x:=⟨ph (Lib.cut line [32]).1,ov⟩) rfl rfl rfl rfl j
 replace hrd:=At.grownOw hrd hlv h Dd
 replace hls:=gf.grownOw hls hlv h Dd
 replace hX:=Dx.trans hX (Dx.row hlv h)
 replace hov:=cH.grownOw hov hlv h Dd
 refine Tc 9 rfl rfl hS<|Tf 10 rfl rfl ib hS<|Tf 11 rfl rfl fW hS<|To 12 rfl (de (v:=aE) rfl rfl iU (dr.one j.sl) hrd fF λa5 C aF=>⟨.inr jW,?_⟩)
 replace hls:=gf.grownAt hls hrd C Dd
 replace hX:=Dx.trans hX (Dx.grown C fF lob)
 replace hov:=cH.grownAt hov hrd C Dd
 replace j:=cH.grownAt j hrd C Dd
 replace hrd:=aF
 replace hrd:At _ _ #[_,_,_,_,_,_] _:=hrd
 refine Td<|Zr<|Zb rfl<|ct<|Zt<|cZ (v:= .bool true) rfl ?_
 exact⟨hX, .inl ⟨aaH g hcub2_1 K L hq,rfl,⟨_,_,hrd,j,gf.snoc (l:=pN line) hls rfl hov⟩⟩⟩
 replace hB:=Zg hB B aw
 replace d:=adM d hit B
 replace c:=adM c hit B
 replace hov:=ad6 hov hit B
 replace hit:=az
 refine Zv (gj rfl)<|ct<|Zq<|cN rfl<|cx<|cy<|Zr<|Zv (ik rfl)<|ZZ rfl<|Zr<|ZZ rfl ?_
 refine cy<|Zq<|Zr<|Zv (dO rfl rfl)<|Zb rfl<|ct<|ZQ rfl (λQ=> ?_) λQ=> ?_
 refine cx<|ZQ rfl (λs=> ?_) λs=> ?_
 refine cI<|Zf rfl g7<|ZL ov rfl fv c rfl<|Zi rfl<|Zv (Gb (n:=48) rfl rfl rfl Om Om)<|Zv (iP rfl Tryz.underlying21 Tryz.underlying3 pX)<|Zy (ez (u:= .int .i64 _) rfl cV eP rfl Dd Dd λR a6 a7 S U=> ?_)
 obtain⟨hB,d⟩:=S.k2 hB d
 replace hit:=S.itW hit
 obtain⟨c,hov⟩:=S.k2 c hov
 refine Zy (dP (v:=ov) (v2:= .slice (some ⟨R,0,none⟩) 1 1) rfl rfl cV eP Dd hov (eJ U rfl) rfl (m3 hB) xV xV λt a8 D e=> ?_)
 replace e:=cH.snoc (enc:=dX) (x:=_) rfl rfl rfl rfl e
 replace hB:=ZG hB D hov
 replace d:=At.grownOw d hov D Dd
 replace hit:=rp.grownOw hit hov D
 replace c:=At.grownOw c hov D Dd
 refine Zf rfl g7<|Zy (de (v:=t) rfl rfl fv (dr.one e.sl) c fF λa9 E aG=> ?_)
 replace hB:=Zg hB E A
 replace d:=At.grownAt d c E Dd
 replace hit:=rp.grownAt hit c E
 replace e:=cH.grownAt e c E Dd
 replace c:=aG
 replace c:At _ _ #[_,_,_] _:=c
 refine ct ?_
 have hbn:(gg (Lib.cut line [32]).2.1 i=49∨gg (Lib.cut line [32]).2.1 i=48∨gg (Lib.cut line [32]).2.1 i=45)∧O=i+1:=by omega
 obtain⟨y,hn⟩:=hbn
 subst hn
 refine M _ _ ((i+1,t)) ?_ ?_ ?_ ?_
 · repeat (first|exact dC.mask _ _ _|refine adc ?_ rfl _|refine ac5 ?_ _ rfl|refine acU rfl ?_)
 · exact trivial
 · exact⟨hB,d,hit,(by exact c),(by (rw[qJ (by omega) (QG (r:=ab) (by omega) (by omega))];exact e)),(by omega),(dT hq (Cx y)),trivial⟩
 · show (Lib.cut line [32]).2.1.length-(i+1)<(Lib.cut line [32]).2.1.length-i;omega
 exact absurd Q s
 refine cI<|Zv (dO rfl rfl)<|Zb rfl<|ct<|ZQ rfl (λs=> ?_) λs=> ?_
 refine cI<|Zf rfl g7<|ZL ov rfl fv c rfl<|Zi rfl<|Zv (Gb (n:=48) rfl rfl rfl Om Om)<|Zv (iP rfl Tryz.underlying21 Tryz.underlying3 pX)<|Zy (ez (u:= .int .i64 _) rfl cV eP rfl Dd Dd λR ba bb V U=> ?_)
 obtain⟨hB,d⟩:=V.k2 hB d
 replace hit:=V.itW hit
 obtain⟨c,hov⟩:=V.k2 c hov
 refine Zy (dP (v:=ov) (v2:= .slice (some ⟨R,0,none⟩) 1 1) rfl rfl cV eP Dd hov (eJ U rfl) rfl (m3 hB) xV xV λt bc F e=> ?_)
 replace e:=cH.snoc (enc:=dX) (x:=_) rfl rfl rfl rfl e
 replace hB:=ZG hB F hov
 replace d:=At.grownOw d hov F Dd
 replace hit:=rp.grownOw hit hov F
 replace c:=At.grownOw c hov F Dd
 refine Zf rfl g7<|Zy (de (v:=t) rfl rfl fv (dr.one e.sl) c fF λbd G aH=> ?_)
 replace hB:=Zg hB G A
 replace d:=At.grownAt d c G Dd
 replace hit:=rp.grownAt hit c G
 replace e:=cH.grownAt e c G Dd
 replace c:=aH
 replace c:At _ _ #[_,_,_] _:=c
 refine ct ?_
 have hbn:(gg (Lib.cut line [32]).2.1 i=49∨gg (Lib.cut line [32]).2.1 i=48∨gg (Lib.cut line [32]).2.1 i=45)∧O=i+1:=by omega
 obtain⟨y,hn⟩:=hbn
 subst hn
 refine M _ _ ((i+1,t)) ?_ ?_ ?_ ?_
 · repeat (first|exact dC.mask _ _ _|refine adc ?_ rfl _|refine ac5 ?_ _ rfl|refine acU rfl ?_)
 · exact trivial
 · exact⟨hB,d,hit,(by exact c),(by (rw[qJ (by omega) (QG (r:=ab) (by omega) (by omega))];exact e)),(by omega),(dT hq (Cx y)),trivial⟩
 · show (Lib.cut line [32]).2.1.length-(i+1)<(Lib.cut line [32]).2.1.length-i;omega
 refine Zr<|Zv (dO rfl rfl)<|Zb rfl<|ct<|ZQ rfl (λac=> ?_) λac=> ?_
 refine cI<|Zf rfl g7<|ZL ov rfl fv c rfl<|Zy (ez (u:= .int .i64 2) rfl cV eP rfl Dd Dd λaI bf bg X aJ=> ?_)
 obtain⟨hB,d⟩:=X.k2 hB d
 replace hit:=X.itW hit
 obtain⟨c,hov⟩:=X.k2 c hov
 refine Zy (dP (v:=ov) (v2:= .slice (some ⟨aI,0,none⟩) 1 1) rfl rfl cV eP Dd hov (eJ aJ rfl) rfl (m3 hB) xV xV λad bh H k=> ?_)
 replace k:=cH.snoc (enc:=dX) (x:=_) rfl rfl rfl rfl k
 replace hB:=ZG hB H hov
 replace d:=At.grownOw d hov H Dd
 replace hit:=rp.grownOw hit hov H
 replace c:=At.grownOw c hov H Dd
 refine Zf rfl g7<|Zy (de (v:=ad) rfl rfl fv (dr.one k.sl) c fF λbi I aK=> ?_)
 replace hB:=Zg hB I A
 replace d:=At.grownAt d c I Dd
 replace hit:=rp.grownAt hit c I
 replace k:=cH.grownAt k c I Dd
 replace c:=aK
 replace c:At _ _ #[_,_,_] _:=c
 refine ct ?_
 have hbn:(gg (Lib.cut line [32]).2.1 i=49∨gg (Lib.cut line [32]).2.1 i=48∨gg (Lib.cut line [32]).2.1 i=45)∧O=i+1:=by omega
 obtain⟨y,hn⟩:=hbn
 subst hn
 refine M _ _ ((i+1,ad)) ?_ ?_ ?_ ?_
 · repeat (first|exact dC.mask _ _ _|refine adc ?_ rfl _|refine ac5 ?_ _ rfl|refine acU rfl ?_)
 · exact trivial
 · exact⟨hB,d,hit,(by exact c),(by (rw[qJ (by omega) (Xq (by omega))];exact k)),(by omega),(dT hq (Cx y)),trivial⟩
 · show (Lib.cut line [32]).2.1.length-(i+1)<(Lib.cut line [32]).2.1.length-i;omega
 refine Zr<|Zb rfl<|ct ?_
 refine lV ?_
 replace hrd:=On hB hrd
 replace hlv:=Below.ow hB hlv
 replace hls:=gf.below hB hls
 replace hX:=Dx.trans hX (Dx.below hB)
 have hzs:=go hN0 (Below.size f)
 repeat (first|refine dZ ?_|refine dI ?_)
 refine cZ (v:= .bool false) rfl ?_
 refine⟨hX, .inr ⟨?_,rfl,⟨lv,vs,hrd,hlv,hls⟩⟩⟩
 exact WK ax (J5 ay s Q ac)
 rw[if_neg hcub2_1]at z
 obtain rfl:=z
 refine Zw (.tuple #[.agg #[_,_], .int .i64 2]) rfl<|Zv (c7 rfl)<|Zv (da rfl)<|Zy (cM gV rfl λZ bj aL aM d=> ?_)
 have J:=ZO aL hB
 replace hB:=Ze hB aM
 refine Zy (cA rfl rfl dh rfl d rfl rfl λbk aN bl=> ?_)
 replace hB:=Zg hB aN J
 refine ZZ rfl<|Zq<|Zr<|Zb rfl<|Zv (eK rfl)<|ZX rfl (λg=> ?_) λg=> ?_
 refine Zs<|Zs<|Zb rfl<|Zb rfl<|Zs<|Zs<|Zs<|Zs<|Zs<|Zs<|Zs<|Zs<|Zb rfl<|Zb rfl ?_
 refine Zs<|Zs<|Zs<|Zs<|Zs<|Zs<|Zs<|Zs<|Zb rfl<|ct<|cN rfl<|Zr<|Zb rfl<|ct ?_
 refine lV ?_
 replace hrd:=On hB hrd
 replace hlv:=Below.ow hB hlv
 replace hls:=gf.below hB hls
 replace hX:=Dx.trans hX (Dx.below hB)
 have hzs:=go hN0 (Below.size f)
 repeat (first|refine dZ ?_|refine dI ?_)
 refine cZ (v:= .bool false) rfl ?_
 refine⟨hX, .inr ⟨?_,rfl,⟨lv,vs,hrd,hlv,hls⟩⟩⟩
 exact Qw g
 refine Zi rfl<|Zv (eV rfl rfl)<|Zb rfl<|ZX rfl (λo=> ?_) λo=> ?_
 refine Zs<|Zs<|Zs<|Zs<|Zs<|Zs<|Zs<|Zs<|Zb rfl<|Zb rfl<|Zs<|Zs<|Zs<|Zs ?_
 refine Zs<|Zs<|Zs<|Zs<|Zb rfl<|ct<|cN rfl<|Zr<|Zb rfl<|ct ?_
 refine lV ?_
 replace hrd:=On hB hrd
 replace hlv:=Below.ow hB hlv
 replace hls:=gf.below hB hls
 replace hX:=Dx.trans hX (Dx.below hB)
 have hzs:=go hN0 (Below.size f)
 repeat (first|refine dZ ?_|refine dI ?_)
 refine cZ (v:= .bool false) rfl ?_
 refine⟨hX, .inr ⟨?_,rfl,⟨lv,vs,hrd,hlv,hls⟩⟩⟩
 exact VZ hcub2_1
 exact absurd o Dd
theorem rX (N br:Nat) (r:Rd) (line:List UInt8) (w:World) (hN0:N≤w.heap.size) (hgl:∀W,Below N w W→Gl W) (hl:line.length≤10000) (lob:N≤br) (h64:r.T.ls.length≤64) (hR:wJ 114 37 3 N w br (r)):
    lk Tryz.prog 59 #[.pointer (some ⟨br,0,none⟩),ea line] w λv w'=>Dx 37 N [br] w w'∧v= .int .i64 (fi r line).2∧wJ 114 37 3 N w' br ((fi r line).1):=by
 refine dL (n:=154) (N:=N) Tryz.func59 rfl rfl rfl λhB=> ?_
 have hX:Dx 37 N [br] w w:=Dx.refl
 obtain⟨lv,vs,hrd,hlv,hls⟩:=hR
 have hlen:=hls.len
 refine Zr<|ZZ rfl<|Zr<|Zw (.func (.func 123) #[] #[]) rfl<|ct<|Zq<|Zr<|Zp rfl<|Zc rfl<|Zf rfl ic<|Zl rfl cR hrd rfl<|ct<|cy ?_
 refine Zr<|Zv (dO rfl rfl)<|Zb rfl<|ct<|ZQ rfl (λa=> ?_) λa=> ?_
 refine Zr<|Zp rfl<|Zw (.string _) rfl<|ZC EB (qc _ _ _ _ _ (hgl _ hB) pr fF (by omega)) rfl λaw ax Q R=> ?_
 obtain⟨hrd,hlv,hls,hX⟩:=Q.k4 hrd hlv hls hX
 obtain rfl:=R
 refine Zc rfl<|Zf rfl ib<|Zf rfl f6<|Zy (de (v:= .int .i64 _) rfl rfl cR rfl hrd fF λay p S=> ?_)
 replace hlv:=cH.grownAt hlv hrd p Dd
 replace hls:=gf.grownAt hls hrd p Dd
 replace hX:=Dx.trans hX (Dx.grown p fF lob)
 replace hrd:=S
 replace hrd:At _ _ #[_,_,_,_,_,_] _:=hrd
 refine ct<|Zr<|Zp rfl<|Zc rfl<|Zf rfl ic<|Zl rfl cR hrd rfl<|Zv (d5 rfl rfl Om Om)<|Zc rfl<|Zf rfl ic<|Zy (de (v:= .int .i64 _) rfl rfl cR rfl hrd fF λaz s U=> ?_)
 replace hlv:=cH.grownAt hlv hrd s Dd
 replace hls:=gf.grownAt hls hrd s Dd
 replace hX:=Dx.trans hX (Dx.grown s fF lob)
 replace hrd:=U
 replace hrd:At _ _ #[_,_,_,_,_,_] _:=hrd
 refine ct<|Zr<|Zw (.func (.func 123) #[] #[]) rfl<|Zp rfl<|Zc rfl<|Zf rfl ib<|Zf rfl f6<|Zl rfl cR hrd rfl<|Zv (ky rfl rfl) ?_
 refine oM (dd:=some 38) rfl rfl rfl (iu (q:=123) (first:= #[]) (cap:= #[]) (vs:= #[.bool _]) rfl yw Hh) (ip _ _) (λaA aB V X=> ?_)
 obtain⟨hrd,hlv,hls,hX⟩:=V.k4 hrd hlv hls hX
 obtain rfl:=X
 refine ZZ rfl<|Zt<|cZ (v:= .int .i64 _) rfl ?_
 rw[Wh a]
 exact⟨hX,rfl,⟨lv,vs,hrd,hlv,hls⟩⟩
 refine Zr<|Zv (dO rfl rfl)<|Zb rfl<|ct<|ZQ rfl (λb=> ?_) λb=> ?_
 refine Zr<|Zp rfl<|Zw (.string _) rfl<|ZC EB (qc _ _ _ _ _ (hgl _ hB) pr fF (by omega)) rfl λaC aD Y Z=> ?_
 obtain⟨hrd,hlv,hls,hX⟩:=Y.k4 hrd hlv hls hX
 obtain rfl:=Z
 refine Zc rfl<|Zf rfl ib<|Zf rfl gN<|Zy (de (v:= .int .i64 _) rfl rfl cR rfl hrd fF λaE t aa=> ?_)
 replace hlv:=cH.grownAt hlv hrd t Dd
 replace hls:=gf.grownAt hls hrd t Dd
 replace hX:=Dx.trans hX (Dx.grown t fF lob)
 replace hrd:=aa
 replace hrd:At _ _ #[_,_,_,_,_,_] _:=hrd
 refine ct<|Zr<|Zp rfl<|Zc rfl<|Zf rfl ic<|Zl rfl cR hrd rfl<|Zv (d5 rfl rfl Om Om)<|Zc rfl<|Zf rfl ic<|Zy (de (v:= .int .i64 _) rfl rfl cR rfl hrd fF λaF u ab=> ?_)
 replace hlv:=cH.grownAt hlv hrd u Dd
 replace hls:=gf.grownAt hls hrd u Dd
 replace hX:=Dx.trans hX (Dx.grown u fF lob)
 replace hrd:=ab
 replace hrd:At _ _ #[_,_,_,_,_,_] _:=hrd
 refine ct<|Zr<|Zw (.func (.func 123) #[] #[]) rfl<|Zp rfl<|Zc rfl<|Zf rfl ib<|Zf rfl gN<|Zl rfl cR hrd rfl<|Zv (ky rfl rfl) ?_
 refine oM (dd:=some 61) rfl rfl rfl (iu (q:=123) (first:= #[]) (cap:= #[]) (vs:= #[.bool _]) rfl yw Hh) (ip _ _) (λaG aH ac ad=> ?_)
 obtain⟨hrd,hlv,hls,hX⟩:=ac.k4 hrd hlv hls hX
 obtain rfl:=ad
 refine ZZ rfl<|Zt<|cZ (v:= .int .i64 _) rfl ?_
 rw[Xd a b]
 exact⟨hX,rfl,⟨lv,vs,hrd,hlv,hls⟩⟩
 refine Zr<|Zv (dO rfl rfl)<|Zb rfl<|ct<|ZQ rfl (λc=> ?_) λc=> ?_
 refine Zr<|ZZ rfl<|Zt<|cZ (v:= .int .i64 2) rfl ?_
 rw[Y9 a b c]
 exact⟨hX,rfl,⟨lv,vs,hrd,hlv,hls⟩⟩
 refine cx ?_
 refine qD (σ:=(Unit)) [4,4,6,9,64,95] (λu_=>[]) (λW=>(At W br _ 114)∧(cH il 3 37 W N lv _)∧(gf 3 N W vs (r.T.ls))∧(Dx 37 N [br] w W)∧(Below N w W)∧(True)) ⟨hrd,hlv,hls,hX,hB,trivial⟩ (λu_ W=>(¬(Lib.hasPrefix line ie=true∧r.st=2))∧(True)) (λaI K=> ?_) ?_
 refine Zr<|Zw (.string _) rfl<|ZC Jr (nf _ _ _) rfl λaJ aK L ae=> ?_
 obtain⟨hrd,hlv,hls,hX⟩:=L.k4 hrd hlv hls hX
 replace hB:=cX hB L hN0
 obtain rfl:=ae
 refine Zw (.tuple #[.string _, .bool _]) rfl<|Zv (c7 rfl)<|Zv (da rfl)<|Zw (.string _) rfl<|Zb rfl<|ct<|Zr<|Zb rfl<|ZX rfl (λk=> ?_) λk=> ?_
 refine Zp rfl<|Zc rfl<|Zf rfl ic<|Zl rfl cR hrd rfl<|Zv (dO rfl rfl)<|Zb rfl<|ct<|ZQ rfl (λl=> ?_) λl=> ?_
 refine Zr<|Zp rfl<|Zc rfl<|Zf rfl ic<|Zy (de (v:= .int .i64 3) rfl rfl cR rfl hrd fF λaL m af=> ?_)
 replace hlv:=cH.grownAt hlv hrd m Dd
 replace hls:=gf.grownAt hls hrd m Dd
 replace hX:=Dx.trans hX (Dx.grown m fF lob)
 replace hB:=dg hB m hN0 (λj hj=>by cases hj;exact lob)
 replace hrd:=af
 replace hrd:At _ _ #[_,_,_,_,_,_] _:=hrd
 refine ct<|Zq<|Zr<|ZC PG (xg _) rfl λx aM M d=> ?_
 have ag:=(go hN0 (Below.size hB))
 obtain⟨hrd,hlv,hls,hX⟩:=M.k4 hrd hlv hls hX
 replace hB:=cX hB M hN0
 replace d:=cH.mono d ag
 refine Zv (db (v:=x) rfl d.sl jO)<|ZZ rfl<|cy ?_
 refine cW (σ:=(Nat)) [4,4,8,9,82,95] (λi=>[(82, .int .i64 (i:Int))]) (λi W=>(At W br _ 114)∧(cH il 3 37 W N lv _)∧(gf 3 N W vs (r.T.ls))∧(Dx 37 N [br] w W)∧(Below N w W)∧(cH ya 1 9 W N x _)∧(i≤4)∧(∀q,q<i→¬gr.getD q []=Lib.trimPrefix line ie)∧(True)) (λi=>4-i) (0) ⟨rfl,trivial⟩ ⟨hrd,hlv,hls,hX,hB,d,(me _),eO,trivial⟩ ?_
 rintro i aN aO ⟨hrd,hlv,hls,hX,hB,d,hi,hq,_⟩ aP ah
 refine Zr<|Zv (dq rfl rfl)<|ct<|Zq<|ZQ rfl (λy=> ?_) λy=> ?_
 refine cx<|Zq<|cy ?_
 rw[mp]at y
 refine Zr<|Zi rfl<|Zv (dp (v:=x) rfl d.sl rfl jO Om (by (simp only[mp];omega)))<|Zv (cD (v:= .string _) rfl lX (dr.cell d.sl iW [] Om (by (simp only[mp];omega)) 0 rfl))<|Zi rfl<|Zw (.string _) rfl<|ct<|Zr<|Zw (.string _) rfl<|Zw (.string _) rfl<|Zv (rq rfl rfl)<|ct<|ZQ rfl (λz=> ?_) λz=> ?_
 refine Zr<|Zp rfl<|Zi rfl<|Zc rfl<|Zf rfl ib<|Zf rfl mz<|Zy (de (v:= .int .i64 _) rfl rfl cR rfl hrd fF λaQ A ai=> ?_)
 replace hlv:=cH.grownAt hlv hrd A Dd
 replace hls:=gf.grownAt hls hrd A Dd
 replace hX:=Dx.trans hX (Dx.grown A fF lob)
 replace hrd:=ai
 replace hrd:At _ _ #[_,_,_,_,_,_] _:=hrd
 refine ct<|Zr<|ZZ rfl<|Zt<|cZ (v:= .int .i64 0) rfl ?_
 rw[WI (i:=i) a b c k l (by omega) z]
 exact⟨hX,rfl,⟨lv,vs,hrd,hlv,hls⟩⟩
 refine cx<|ZT rfl rfl rfl ?_
 exact ah _ _ (i+1) Za ⟨rfl,trivial⟩ ⟨hrd,hlv,hls,hX,hB,d,Om,(dT hq z),trivial⟩ Zo
 refine cT ?_
 rw[mp]at y
 refine Zr<|ZZ rfl<|Zt<|cZ (v:= .int .i64 2) rfl ?_
 rw[U3 a b c k l (λq hq'=>hq q (by omega))]
 exact⟨hX,rfl,⟨lv,vs,hrd,hlv,hls⟩⟩
 refine cx ?_
 refine K _ _ (()) ?_ ?_ ?_ ?_
 · repeat (first|exact dC.mask _ _ _|exact dC.refl _ _|refine adc ?_ rfl _|refine ac5 ?_ _ rfl|refine acU rfl ?_)
 · exact trivial
 · exact⟨hrd,hlv,hls,hX,hB,trivial⟩
 · exact⟨(λe=>l e.2),trivial⟩
 refine Zs<|Zs<|Zs<|Zs<|Zs<|Zb rfl<|ct<|dE rfl<|cx ?_
 refine K _ _ (()) ?_ ?_ ?_ ?_
 · repeat (first|exact dC.mask _ _ _|exact dC.refl _ _|refine adc ?_ rfl _|refine ac5 ?_ _ rfl|refine acU rfl ?_)
 · exact trivial
 · exact⟨hrd,hlv,hls,hX,hB,trivial⟩
 · exact⟨(λe=>Bool.noConfusion (k.symm.trans e.1)),trivial⟩
 rintro u_ aR aS ⟨hrd,hlv,hls,hX,hB,_⟩ ⟨hpn,_⟩
 refine qD (σ:=(Unit)) [4,4,10,10,96,113] (λu_=>[]) (λW=>(At W br _ 114)∧(cH il 3 37 W N lv _)∧(gf 3 N W vs (r.T.ls))∧(Dx 37 N [br] w W)∧(Below N w W)∧(True)) ⟨hrd,hlv,hls,hX,hB,trivial⟩ (λu_ W=>(¬(fJ line [46,112] 0 64≥0∧r.st≤3))∧(True)) (λaT O=> ?_) ?_
 refine Zr<|Zw (.string _) rfl<|ZC EB (qc _ _ _ _ _ (hgl _ hB) pr fF (by omega)) rfl λaU aV P aj=> ?_
 obtain⟨hrd,hlv,hls,hX⟩:=P.k4 hrd hlv hls hX
 replace hB:=cX hB P hN0
 obtain rfl:=aj
 refine ZZ rfl<|Zr<|Zi rfl<|Zv (ky rfl rfl)<|ZX rfl (λB=> ?_) λB=> ?_
 refine Zp rfl<|Zc rfl<|Zf rfl ic<|Zl rfl cR hrd rfl<|Zv (tW rfl rfl)<|Zb rfl<|ct<|ZQ rfl (λC=> ?_) λC=> ?_
 refine Zr<|Zp rfl<|Zp rfl<|Zi rfl<|Zc rfl<|Zf rfl uq<|Zy (de (v:= .int .i64 _) rfl rfl cR rfl hrd fF λaW D ak=> ?_)
 replace hlv:=cH.grownAt hlv hrd D Dd
 replace hls:=gf.grownAt hls hrd D Dd
 replace hX:=Dx.trans hX (Dx.grown D fF lob)
 replace hrd:=ak
 replace hrd:At _ _ #[_,_,_,_,_,_] _:=hrd
 refine Zc rfl<|Zf rfl ic<|Zy (de (v:= .int .i64 4) rfl rfl cR rfl hrd fF λaX E al=> ?_)
 replace hlv:=cH.grownAt hlv hrd E Dd
 replace hls:=gf.grownAt hls hrd E Dd
 replace hX:=Dx.trans hX (Dx.grown E fF lob)
 replace hrd:=al
 replace hrd:At _ _ #[_,_,_,_,_,_] _:=hrd
 refine ct<|Zr<|ZZ rfl<|Zt<|cZ (v:= .int .i64 0) rfl ?_
 (rw[WE a b c hpn B C];exact⟨hX,rfl,⟨lv,vs,hrd,hlv,hls⟩⟩)
 refine cx ?_
 refine O _ _ (()) ?_ ?_ ?_ ?_
 · repeat (first|exact dC.mask _ _ _|exact dC.refl _ _|refine adc ?_ rfl _|refine ac5 ?_ _ rfl|refine acU rfl ?_)
 · exact trivial
 · exact⟨hrd,hlv,hls,hX,hB,trivial⟩
 · exact⟨(λe=>C e.2),trivial⟩
 refine Zs<|Zs<|Zs<|Zs<|Zs<|Zb rfl<|ct<|dE rfl<|cx ?_
 refine O _ _ (()) ?_ ?_ ?_ ?_
 · repeat (first|exact dC.mask _ _ _|exact dC.refl _ _|refine adc ?_ rfl _|refine ac5 ?_ _ rfl|refine acU rfl ?_)
 · exact trivial
 · exact⟨hrd,hlv,hls,hX,hB,trivial⟩
 · exact⟨(λe=>B e.1),trivial⟩
 rintro u_ aY aZ ⟨hrd,hlv,hls,hX,hB,_⟩ ⟨hpp,_⟩
 refine Zr<|Zp rfl<|Zc rfl<|Zf rfl ic<|Zy (de (v:= .int .i64 4) rfl rfl cR rfl hrd fF λa0 o ao=> ?_)
 replace hlv:=cH.grownAt hlv hrd o Dd
 replace hls:=gf.grownAt hls hrd o Dd
 replace hX:=Dx.trans hX (Dx.grown o fF lob)
 replace hB:=dg hB o hN0 (λj hj=>by cases hj;exact lob)
 replace hrd:=ao
 replace hrd:At _ _ #[_,_,_,_,_,_] _:=hrd
 refine ct<|Zq<|Zr<|Zw (.string _) rfl<|Zv (rq rfl rfl)<|ct<|ZQ rfl (λg=> ?_) λg=> ?_
 refine Zr<|Zp rfl<|Zc rfl<|Zf rfl ic<|Zy (de (v:= .int .i64 5) rfl rfl cR rfl hrd fF λa1 F ap=> ?_)
 replace hlv:=cH.grownAt hlv hrd F Dd
 replace hls:=gf.grownAt hls hrd F Dd
 replace hX:=Dx.trans hX (Dx.grown F fF lob)
 replace hrd:=ap
 replace hrd:At _ _ #[_,_,_,_,_,_] _:=hrd
 refine ct<|Zd dA λaq ar=> ?_
 obtain⟨hrd,hlv,hls,hX⟩:=ar.k4 hrd hlv hls hX
 have hS:=dA.refl aq
 refine Tw 0 (.func (.func 123) #[] #[]) rfl rfl hS<|Tq 1 rfl rfl hS<|Tc 2 rfl rfl hS<|Tf 3 rfl rfl uq hS<|Tk 4 rfl (λ_ hq=>cD (v:= .int .i64 _) rfl cR (At.cell (hq.at hrd) rfl)) hS<|Tk 5 rfl (λ_ _=>dq rfl rfl) hS<|Tx 6 rfl (λ_ _=>jV (v:= .bool _) rfl) hS (λG=> ?_) λG=> ?_
 refine Tp 7 rfl hS<|Tp 8 rfl hS<|Tp 9 rfl hS<|Tp 10 rfl hS<|Tp 11 rfl hS<|Tp 12 rfl hS<|Tp 13 rfl hS<|Tp 14 rfl hS<|Tp 15 rfl hS<|Tp 16 rfl hS<|Tp 17 rfl hS<|Ty 18 rfl rfl hS<|To 19 rfl (Yd.call (iu (q:=123) (first:= #[]) (cap:= #[]) (vs:= #[.bool true]) rfl yw Hh) (ip _ _) λau a2 H I=>⟨.inl (hS.trans H),?_⟩)
 obtain⟨hrd,hlv,hls,hX⟩:=H.k4 hrd hlv hls hX
 replace hS:=hS.trans H
 obtain rfl:=I
 refine Ti 20 rfl rfl hS<|Td<|Zt<|cZ (v:= .int .i64 _) rfl ?_
 (rw[R8 a b c hpn hpp g];refine⟨hX,congrArg (Value.int .i64) ?_,⟨lv,vs,hrd,hlv,hls⟩⟩;(rw[decide_eq_true G];rfl))
 refine Tq 7 rfl rfl hS<|Tc 8 rfl rfl hS<|Tf 9 rfl rfl uq hS<|Tk 10 rfl (λ_ hq=>cD (v:= .int .i64 _) rfl cR (At.cell (hq.at hrd) rfl)) hS<|Tq 11 rfl rfl hS<|Tc 12 rfl rfl hS<|Tf 13 rfl rfl ib hS<|Tf 14 rfl rfl fW hS<|Tk 15 rfl (λ_ hq=>cD (v:=lv) rfl iU (At.cell (hq.at hrd) rfl)) hS<|Tk 16 rfl (λ_ hq=>db (v:=lv) rfl ((hq.ow hlv)).sl gZ) hS<|Tk 17 rfl (λ_ _=>dO rfl rfl) hS<|Ty 18 rfl rfl hS<|To 19 rfl (Yd.call (iu (q:=123) (first:= #[]) (cap:= #[]) (vs:= #[.bool _]) rfl yw Hh) (ip _ _) λau a3 J I=>⟨.inl (hS.trans J),?_⟩)
 obtain⟨hrd,hlv,hls,hX⟩:=J.k4 hrd hlv hls hX
 replace hS:=hS.trans J
 obtain rfl:=I
 refine Ti 20 rfl rfl hS<|Td<|Zt<|cZ (v:= .int .i64 _) rfl ?_
 (rw[R8 a b c hpn hpp g];refine⟨hX,congrArg (Value.int .i64) ?_,⟨lv,vs,hrd,hlv,hls⟩⟩;(rw[decide_eq_false G,Bool.false_or,←hlen];rfl))
 refine cx<|Zr<|Zp rfl<|Zc rfl<|Zf rfl ib<|Zf rfl fW<|ZL lv rfl iU hrd rfl<|Zv (db (v:=lv) rfl hlv.sl gZ)<|Zv (dO rfl rfl)<|Zb rfl<|ct<|Zq<|Zr ?_
 refine Zp rfl<|Zw (.string _) rfl<|ZH ST (tI N br ⟨r.T,4,r.told⟩ line _ (go hN0 (Below.size hB)) (λ_ h=>hgl _ (Below.trans hB h)) hl lob h64 ⟨lv,vs,hrd,hlv,hls⟩) rfl λa4 a5 f=> ?_
 obtain⟨hX33_2,f⟩:=f
 replace hX:=hX.trans hX33_2
 rcases f with f|f
 obtain⟨hrk33_2,rfl,hR33_2⟩:=f
 refine Zv (eK rfl)<|ct<|dE rfl<|cx<|Zq<|Zr<|Zb rfl<|ct<|ZQ rfl (λav=> ?_) λav=> ?_
 refine Zr<|ZZ rfl<|Zt<|cZ (v:= .int .i64 3) rfl ?_
 (rw[S0 a b c hpn hpp g hrk33_2];refine⟨hX,congrArg (Value.int .i64) ?_,hR33_2⟩;exact(if_pos (by omega)).symm)
 refine cx<|Zr<|ZZ rfl<|Zt<|cZ (v:= .int .i64 0) rfl ?_
 (rw[S0 a b c hpn hpp g hrk33_2];refine⟨hX,congrArg (Value.int .i64) ?_,hR33_2⟩;exact(if_neg (by omega)).symm)
 obtain⟨hrk33_2,rfl,hR33_2⟩:=f
 refine Zv (eK rfl)<|ct<|cN rfl<|Zr<|ZZ rfl<|Zt<|cZ (v:= .int .i64 2) rfl ?_
 (rw[K8 a b c hpn hpp g hrk33_2];exact⟨hX,rfl,hR33_2⟩)
theorem oT (s:List UInt8) (w:World) (hgl:Gl w) (hsl:s.length≤100000):
    Fn Tryz.prog 15 #[ea s] w λv w'=>∃lv vs,v= .tuple #[.agg #[.int .i64 (cF s).1.kind, .int .i64 (cF s).1.ni, .int .i64 (cF s).1.no,lv], .int .i64 ((cF s).2.1:Int), .int .i64 (cF s).2.2]∧cH il 3 37 w' w.heap.size lv vs∧gf 3 w.heap.size w' vs (cF s).1.ls:=by
 refine cK (n:=68) Tryz.func15 rfl rfl rfl λhB=> ?_
 have hlc:=xD s
 obtain⟨n,hn⟩:∃n,(cQ s).length=n+1:=⟨(cQ s).length-1,by have:=ads.2 (mm s);omega⟩
 refine Zr<|Zy (cM pn rfl λA W3 B C a=> ?_)
 have j:=ZO B hB
 replace hB:=Ze hB C
 refine Zi rfl<|ZZ rfl<|Zq<|Zr<|Zw (.string _) rfl<|Zv (m4 rfl Tryz.underlying9)<|Zv (gQ rfl rfl)<|ct<|ZQ rfl (λD=> ?_) λD=> ?_
 refine Zr<|Zv (gW)<|Zy (cA rfl rfl dV rfl a rfl rfl λV E F=> ?_)
 replace hB:=Zg hB E j
 replace a:=F
 refine Zi rfl<|ZZ rfl<|Zt<|jM rfl dV a rfl (v1:= .int .i64 0) rfl (v2:= .int .i64 3) rfl ⟨hB,?_⟩
 rw[Ax (by omega)]
 exact⟨_,[],rfl,cH.nil,gf.nil⟩
 refine cx<|Zr<|Zv (vK (h0:=rfl) (k0:=rfl) (c0_0:= .int .i64 1))<|Zv (xW (h0:=rfl) (h1:=rfl) (k1:=rfl) (c1_0:= .int .i64 _))<|Zy (du (c:= #[_,_,_,_,_,_]) rfl rfl λp G H I J=> ?_)
 have K:=ZO H hB
 obtain⟨hB,a⟩:=I.k2 hB a
 refine Zp rfl<|ct ?_
 have hR:wJ 114 37 3 w.heap.size G p (HE):=⟨_,[],J,cH.nil,gf.nil⟩
 refine Zr<|Zw (.string _) rfl<|ZC XO (x9 _ _ (Gl.below hB hgl) (by omega)) rfl λb L z d=> ?_
 have M:=(Below.size hB)
 obtain⟨hB,a⟩:=z.k2 hB a
 replace hR:=wJ.ext z hR
 replace d:=cH.mono d M
 refine Zw b rfl<|ct<|Zr<|Zw b rfl<|Zv (db (v:=b) rfl d.sl jO)<|Zv (VU rfl rfl hn Om)<|ZZ rfl<|Zq ?_
 have hC:(cQ s).length≤jn b:=(Sl.eqv (cH.sl d)).2.1
 refine Zr<|Zw b rfl<|Zi rfl<|Zv (BU (v:=b) rfl d.sl jO rfl Om Om) ?_
 have e:dr ya 1 L (fY 1 b 0 n (jn b)) (((cQ s).drop 0).take (n-0)):=ady iW d.sl (by omega) (by omega) (by omega) (by omega)
 refine Zv (db (v:=fY 1 b 0 n (jn b)) rfl e jO)<|ZZ rfl<|cy ?_
 refine cW (σ:=(Nat)) [3,4,8,10,27,47] (λk=>[(27, .int .i64 (k:Int))]) (λk W=>(Below w.heap.size w W)∧(At W A _ 24)∧(cH ya 1 9 W w.heap.size b _)∧(dr ya 1 W (fY 1 b 0 n (jn b)) _)∧(wJ 114 37 3 w.heap.size W p (iD (cQ s) k))∧(k≤n)∧(∀q,q<k→lx (iD (cQ s) q) ((cQ s).getD q [])=0)∧(True)) (λk=>n-k) (0) ⟨rfl,trivial⟩ ⟨hB,a,d,e,hR,(me _),eO,trivial⟩ ?_
 rintro k X Y ⟨hB,a,d,e,hR,hk,herr,_⟩ Z r
 refine Zr<|Zv (dq rfl rfl)<|ct<|Zq<|ZQ rfl (λt=> ?_) λt=> ?_
 refine cx<|Zq<|cy ?_
 have hpl:=E2 (ls:=cQ s) hn
 rw[hpl]at t
 refine Zr<|Zi rfl<|Zv (dp (v:=fY 1 b 0 n (jn b)) rfl e rfl jO Om (by omega))<|Zv (cD (v:= .string _) rfl lX (dr.cell e iW [] Om (by omega) 0 rfl))<|Zi rfl<|Zw (.string _) rfl<|ct<|Zq ?_
 have hline:(((cQ s).drop 0).take (n-0)).getD (k:Int).toNat []=(cQ s).getD k []:=Lt _ (by omega)
 rw[hline]
 refine Zr<|Zw (.string _) rfl<|Zv (rq rfl rfl)<|ZX rfl (λf=> ?_) λf=> ?_
 refine Zs<|Zs<|Zs<|Zb rfl<|ct<|cN rfl<|cT<|ZT rfl rfl rfl ?_
 exact r _ _ (k+1) Za ⟨rfl,trivial⟩ ⟨hB,a,d,e,(by rw[mM Om];(rw[(jd (vE f)).1];exact hR)),Om,(dT herr (by exact(jd (vE f)).2)),trivial⟩ Zo
 refine Zw (.string _) rfl<|Zv (l3 (i:=0) rfl rfl Tryz.underlying9 (by exact ads.2 f))<|Zv (dO rfl rfl)<|Zb rfl<|ct<|ZQ rfl (λg=> ?_) λg=> ?_
 refine cT<|ZT rfl rfl rfl ?_
 exact r _ _ (k+1) Za ⟨rfl,trivial⟩ ⟨hB,a,d,e,(by rw[mM Om];(rw[(jd (s9 g)).1];exact hR)),Om,(dT herr (by exact(jd (s9 g)).2)),trivial⟩ Zo
 refine cx<|Zr<|Zp rfl<|Zw (.string _) rfl<|ZH Xh (rX w.heap.size p (iD (cQ s) k) ((cQ s).getD k []) _ (Below.size hB) (λ_ h=>Gl.below (Below.trans hB h) hgl) (by have:=IF s k;omega) K (QC herr Om) hR) rfl λaa ab N=> ?_
 obtain⟨hX10_2,rfl,hR10_2⟩:=N
 replace hB:=Below.dx hB (am _) (am _) hX10_2
 replace a:=At.rd hR hX10_2 a Dd Dd
 replace d:=cH.rd hR hX10_2 d Dd Dd
 replace e:=ady (l:=0) (h:=n) (m:=jn b) iW (cH.sl d) (me _) Om Om (am _)
 replace hR:=hR10_2
 refine ZZ rfl<|Zr<|Zi rfl<|Zv (eV rfl rfl)<|ct<|ZQ rfl (λu=> ?_) λu=> ?_
 refine Zr<|Zv (gW)<|Zi rfl<|Zi rfl<|Zy (cA rfl rfl dV rfl a rfl rfl λac O P=> ?_)
 replace hB:=Zg hB O j
 replace a:=P
 refine Zi rfl<|ZZ rfl<|Zt<|jM rfl dV a rfl (v1:= .int .i64 _) rfl (v2:= .int .i64 _) rfl ⟨hB,?_⟩
 rw[Kj (k:=k) (by omega) hn (by omega) herr (by rw[(fQ (mY f g)).2];exact u),(fQ (mY f g)).2]
 exact⟨_,[],rfl,cH.nil,gf.nil⟩
 refine cx<|ZT rfl rfl rfl ?_
 exact r _ _ (k+1) Za ⟨rfl,trivial⟩ ⟨hB,a,d,e,(by rw[mM Om];(rw[(fQ (mY f g)).1];exact hR)),Om,(dT herr (by exact(fQ (mY f g)).2.trans (aaS u))),trivial⟩ Zo
 refine cT<|Zq<|cy ?_
 obtain⟨lv,vs,hrd,hlv,hls⟩:=hR
 rw[E2 hn]at t
 obtain rfl:k=n:=by omega
 refine Zr<|Zw b rfl<|Zi rfl<|Zv (dp (v:=b) rfl d.sl rfl jO Om (by omega))<|Zv (cD (v:= .string _) rfl lX (dr.cell d.sl iW [] Om (by omega) 0 rfl))<|Zv (Hk rfl rfl)<|Zb rfl<|ct<|ZQ rfl (λo=> ?_) λo=> ?_
 refine Zr<|Zv (gW)<|Zi rfl<|Zy (cA rfl rfl dV rfl a rfl rfl λad Q R=> ?_)
 replace hB:=Zg hB Q j
 replace a:=R
 refine Zi rfl<|ZZ rfl<|Zt<|jM rfl dV a rfl (v1:= .int .i64 _) rfl (v2:= .int .i64 2) rfl ⟨hB,?_⟩
 rw[zK (by omega) hn herr o]
 exact⟨_,[],rfl,cH.nil,gf.nil⟩
 refine Zr<|Zp rfl<|Zc rfl<|Zf rfl ic<|Zl rfl cR hrd rfl<|Zv (eV rfl rfl)<|Zb rfl<|ct<|ZQ rfl (λx=> ?_) λx=> ?_
 refine Zr<|Zv (gW)<|Zi rfl<|Zy (cA rfl rfl dV rfl a rfl rfl λae S T=> ?_)
 replace hB:=Zg hB S j
 replace a:=T
 refine Zi rfl<|ZZ rfl<|Zt<|jM rfl dV a rfl (v1:= .int .i64 _) rfl (v2:= .int .i64 7) rfl ⟨hB,?_⟩
 rw[y7 (by omega) hn herr (aaS o) x]
 exact⟨_,[],rfl,cH.nil,gf.nil⟩
 refine cx<|Zr<|Zp rfl<|Zc rfl<|Zf rfl ib<|Zv (eI rfl dV (At.cell hrd rfl) (At.cell hrd rfl) (At.cell hrd rfl) (At.cell hrd rfl))<|Zy (cA rfl rfl dV rfl a rfl (by exact pl (dr.one (cH.sl hlv))) λaf y U=> ?_)
 replace hB:=Zg hB y j
 replace hlv:=cH.grownAt hlv a y Dd
 replace hls:=gf.grownAt hls a y Dd
 replace a:=U
 refine Zi rfl<|ZZ rfl<|Zt<|jM rfl dV a rfl (v1:= .int .i64 0) rfl (v2:= .int .i64 0) rfl ⟨hB,?_⟩
 rw[Ds (by omega) hn herr (aaS o) (aaS x)]
 exact⟨lv,vs,rfl,hlv,hls⟩
end
section
theorem zH:cY Tryz.prog 18=true:=by kernel_rfl
theorem po:cY Tryz.prog 79=true:=by kernel_rfl
theorem D3:cY Tryz.prog 236=true:=by kernel_rfl
theorem yH:cY Tryz.prog 198=true:=by kernel_rfl
theorem eH:fj Tryz.prog 212=some (34,2,2):=by kernel_rfl
theorem Rj:cY Tryz.prog 276=true:=by kernel_rfl
theorem jL:(d4 Tryz.prog 34).map (λz=>z.cells.size)=some 2:=by kernel_rfl
theorem n7 (m u s:Nat) (n:Int) (w:World) (hm:m<256) (hv:u<256):
    Fn Tryz.prog 236 #[.agg #[.int .u8 (m:Int), .int .u8 (u:Int)],el s, .int .i64 n] w λv w'=>v= .bool (tV m u s n):=by
 refine cK (n:=22) Tryz.func236 rfl rfl rfl λhB=> ?_
 refine Zr<|Zy (du (c:= #[_,_]) rfl rfl λz W3 A h d=> ?_)
 replace hB:=Ze hB h
 refine Zy (du (c:= #[_,_,_,_]) rfl rfl λB W6 C i a=> ?_)
 obtain⟨hB,d⟩:=i.k2 hB d
 refine Zb rfl<|ct<|Zr<|Zv (cz rfl dh rfl d)<|Zi rfl<|ZC (vs:=[.agg #[_,_], .int .i64 _]) zH (kx _ _ _ _ pr pr) rfl λD E j k=> ?_
 obtain⟨hB,a⟩:=j.k2 hB a
 obtain⟨sa,er,rfl,hhP1_2⟩:=wu k
 refine Zw (.tuple #[.agg #[_,_,_,_], .int .i64 _]) rfl<|Zv (c7 rfl)<|Zv (da rfl)<|Zy (cM ep rfl λl o f p b=> ?_)
 have q:=ZO f hB
 have r:=Zn f a.lt
 obtain⟨hB,a⟩:=p.k2 hB a
 replace b:At o l #[wv 0 0,wv 0 1,wv 0 2,wv 0 3] 40:=b
 refine Zy (cA rfl rfl cC rfl b rfl rfl λF g t=> ?_)
 replace hB:=Zg hB g q
 replace a:=At.grownNe a r g
 replace b:=t
 refine ZZ rfl<|Zr<|Zi rfl<|Zv (dO rfl rfl)<|ZX rfl (λe=> ?_) λe=> ?_
 refine Zv (cz rfl cC rfl b)<|Zv (cz rfl cC rfl a)<|ZC (vs:=[.agg #[_,_,_,_], .agg #[_,_,_,_]]) po (gS _ _ _) rfl λG H x y=> ?_
 replace hB:=Ze hB x
 obtain rfl:=y
 refine Zb rfl<|Zb rfl<|ct<|Zt<|cZ (v:= .bool _) rfl ⟨hB,?_⟩
 exact congrArg Value.bool (WG hhP1_2 e)
 refine Zs<|Zs<|Zs<|Zb rfl<|Zb rfl<|ct<|Zt<|cZ (v:= .bool false) rfl ⟨hB,?_⟩
 exact congrArg Value.bool (Uu hhP1_2 e)
theorem Df (c:Cb) (s:Nat) (n:Int) (w:World) (hm:c.m<256∧c.v<256):
    Fn Tryz.prog 196 #[.agg #[.int .u8 (c.m:Int), .int .u8 (c.v:Int)],el s, .int .i64 n] w λv w'=>v=if tV c.m c.v s n=true then .tuple #[.agg #[.int .u8 ((lD s n c).m:Int), .int .u8 ((lD s n c).v:Int)], .int .i64 0]else .tuple #[.agg #[.int .u8 0, .int .u8 0], .int .i64 1]:=by
 refine cK (n:=30) Tryz.func196 rfl rfl rfl λhB=> ?_
 refine Zr<|Zy (du (c:= #[_,_]) rfl rfl λt W3 u x a=> ?_)
 have y:=ZO u hB
 replace hB:=Ze hB x
 refine Zy (du (c:= #[_,_,_,_]) rfl rfl λz W6 T A d=> ?_)
 obtain⟨hB,a⟩:=A.k2 hB a
 refine Zy (cM gV rfl λB W9 l C b=> ?_)
 have o:=ZO l hB
 have p:=Zn l a.lt
 obtain⟨hB,a,d⟩:=C.k3 hB a d
 refine ZZ rfl<|Zq<|Zr<|Zv (cz rfl dh rfl a)<|Zv (cz rfl cC rfl d)<|Zi rfl<|ZC (vs:=[.agg #[_,_], .agg #[_,_,_,_], .int .i64 _]) D3 (n7 _ _ _ _ _ (by omega) (by omega)) rfl λU V D E=> ?_
 obtain⟨hB,a,d,b⟩:=D.k4 hB a d b
 obtain rfl:=E
 refine Zv (eK rfl)<|ct<|ZQ rfl (λg=> ?_) λg=> ?_
 refine Zr<|Zv (jR)<|Zy (cA rfl rfl dh rfl b rfl rfl λX F G=> ?_)
 replace hB:=Zg hB F o
 replace b:=G
 refine ZZ rfl<|Zt<|ex rfl dh b rfl (v1:= .int .i64 1) rfl ⟨hB,?_⟩
 rw[if_neg (by simpa using g)]
 refine cx<|Zq ?_
 have hw:tV c.m c.v s n=true:=by simpa using g
 obtain⟨hn0,hn8,_,_⟩:=dB.1 (w7 hw)
 refine Zr<|Zi rfl<|ZZ rfl<|cy ?_
 refine cW (σ:=(Nat)) [8,9,17,28] (λi=>[(17, .int .i64 (i:Int))]) (λi W=>(Below w.heap.size w W)∧(At W z _ 40)∧(At W B _ 34)∧(At W t #[.int .u8 ((fc s n c i).m:Int), .int .u8 ((fc s n c i).v:Int)] 34)∧(i≤n.toNat)∧(True)) (λi=>n.toNat-i) (0) ⟨rfl,trivial⟩ ⟨hB,d,b,a,(me _),trivial⟩ ?_
 rintro i Y Z ⟨hB,d,b,a,hi,_⟩ aa q
 refine Zr<|Zv (dq rfl rfl)<|ct<|Zq<|ZQ rfl (λH=> ?_) λH=> ?_
 refine cx<|Zq<|cy<|Zr<|Zi rfl<|ZZ rfl ?_
 have hg:=Co (s:=s) (n:=n) hm i
 have hle:=zR (fc s n c i).m (i:Int)
 have hle2:(fc s n c i).v &&& lK (fc s n c i).m (i:Int)≤(fc s n c i).v:=Nat.and_le_left
 refine Zr<|Zv (cz rfl dh rfl a)<|Zi rfl<|ZC (vs:=[.agg #[_,_], .int .i64 _]) yH (lN _ _ _ _ (by omega) (by omega)) rfl λab ac I J=> ?_
 obtain⟨hB,d,b,a⟩:=I.k4 hB d b a
 obtain rfl:=J
 refine Zy (cM gV rfl λad ae h K e=> ?_)
 have L:=ZO h hB
 have M:=Zn h b.lt
 have N:=Zn h a.lt
 obtain⟨hB,d,b,a⟩:=K.k4 hB d b a
 refine Zy (cA rfl rfl dh rfl e rfl rfl λaf f O=> ?_)
 replace hB:=Zg hB f L
 replace d:=At.grownAt d e f Dd
 replace b:=At.grownNe b M f
 replace a:=At.grownNe a N f
 replace e:=O
 refine ct<|Zr<|Zv (cz rfl dh rfl e)<|Zv (cz rfl cC rfl d)<|Zi rfl<|ZC (vs:=[.agg #[_,_], .agg #[_,_,_,_], .int .i64 _]) D3 (n7 _ _ _ _ _ (by omega) (by omega)) rfl λag ah P Q=> ?_
 obtain⟨hB,d,b,a,e⟩:=P.k5 hB d b a e
 obtain rfl:=Q
 refine ct<|ZQ rfl (λj=> ?_) λj=> ?_
 refine cI<|Zv (cz rfl dh rfl e)<|Zy (cA rfl rfl dh rfl a rfl rfl λai k R=> ?_)
 replace hB:=Zg hB k y
 replace d:=At.grownAt d a k Dd
 replace b:=At.grownNe b (Ne.symm p) k
 replace a:=R
 refine ct<|ZT rfl rfl rfl ?_
 exact q _ _ (i+1) Za ⟨rfl,trivial⟩ ⟨hB,d,b,(by (rw[GI j];exact a)),Om,trivial⟩ Zo
 refine cx<|ZT rfl rfl rfl ?_
 exact q _ _ (i+1) Za ⟨rfl,trivial⟩ ⟨hB,d,b,(by (rw[G9 j];exact a)),Om,trivial⟩ Zo
 refine cT<|Zr<|Zv (cz rfl dh rfl a)<|Zy (cA rfl rfl dh rfl b rfl rfl λaj r S=> ?_)
 replace hB:=Zg hB r o
 replace a:=At.grownNe a p r
 replace b:=S
 refine ZZ rfl<|Zt<|ex rfl dh b rfl (v1:= .int .i64 0) rfl ⟨hB,?_⟩
 have hin:i=n.toNat:=by omega
 subst hin
 rw[if_pos hw]
 rfl
theorem wC (b m u m2 u2:Nat) (w:World) (hb:At w b #[.int .u8 (m2:Int), .int .u8 (u2:Int)] 34):
    Fn Tryz.prog 276 #[.agg #[.int .u8 (m:Int), .int .u8 (u:Int)], .pointer (some ⟨b,0,none⟩)] w λv w'=>v= .bool (z7 ⟨m,u⟩ ⟨m2,u2⟩):=by
 refine cK (n:=23) Tryz.func276 rfl rfl rfl λhB=> ?_
 refine Zr<|Zy (du (c:= #[_,_]) rfl rfl λg W3 h f d=> ?_)
 replace hB:=Ze hB f
 refine Zb rfl<|ct<|Zr<|Zf rfl ey<|Zl rfl dN d rfl<|Zf rfl ey<|Zl rfl dN (On hB hb) rfl<|Zv (dq rfl rfl)<|ZX rfl (λa=> ?_) λa=> ?_
 refine Zs<|Zs<|Zs<|Zs<|Zs<|Zs<|Zs<|Zs<|Zs<|Zs<|Zs<|Zs<|Zb rfl<|Zb rfl ?_
 refine ct<|Zt<|cZ (v:= .bool true) rfl ⟨hB,?_⟩
 exact congrArg Value.bool (YF a)
 refine Zf rfl ey<|Zl rfl dN d rfl<|Zf rfl ey<|Zl rfl dN (On hB hb) rfl<|Zv (dO rfl rfl)<|ZX rfl (λe=> ?_) λe=> ?_
 refine Zf rfl fO<|Zl rfl dN d rfl<|Zf rfl fO<|Zl rfl dN (On hB hb) rfl<|Zv (dq rfl rfl)<|Zb rfl<|Zb rfl<|Zb rfl<|ct<|Zt<|cZ (v:= .bool _) rfl ⟨hB,?_⟩
 exact congrArg Value.bool (Yo a e)
 refine Zs<|Zs<|Zs<|Zs<|Zs<|Zb rfl<|Zb rfl<|Zb rfl<|ct<|Zt<|cZ (v:= .bool false) rfl ⟨hB,?_⟩
 exact congrArg Value.bool (ZM a e)
theorem Ao (x:Value) (l:List Cb) (c:Cb) (w:World) (hl:dr iI 2 w x l) (hn:l.length≤70000):
    Fn Tryz.prog 262 #[x, .agg #[.int .u8 (c.m:Int), .int .u8 (c.v:Int)]] w λv w'=>cH iI 2 34 w' w.heap.size v (DF l c):=by
 refine cK (n:=35) Tryz.func262 rfl rfl rfl λhB=> ?_
 have hC:l.length≤jn x:=(Sl.eqv hl).2.1
 refine Zr<|Zy (du (c:= #[_,_]) rfl rfl λh W3 U K b=> ?_)
 replace hB:=Ze hB K
 refine Zw (.slice none 0 0) rfl<|ct<|Zr<|Zv (eU (vs:= #[.pointer (some ⟨h,0,none⟩)]) Bi)<|Zw (.func (.func 276) #[] #[.pointer (some ⟨h,0,none⟩)]) rfl<|ct<|Zr<|Zw x rfl<|Zv (db (v:=x) rfl (Below.slT hB hl) eH)<|ZZ rfl<|Zq<|cy ?_
 refine cW (σ:=(Nat)) [6,6,10,23] (λi=>[(6, .int .i64 (i:Int))]) (λi W=>(Below w.heap.size w W)∧(At W h _ 34)∧(i≤l.length)∧(oG l c l.length=oG l c i)∧(True)) (λi=>i) (l.length) ⟨rfl,trivial⟩ ⟨hB,b,(am _),rfl,trivial⟩ ?_
 rintro i V X ⟨hB,b,hi,hp,_⟩ Y L
 refine Zq<|Zr<|Zi rfl<|Zv (gQ rfl rfl)<|ZX rfl (λM=> ?_) λM=> ?_
 refine Zw (.func (.func 276) #[] #[.pointer (some ⟨h,0,none⟩)]) rfl<|Zw x rfl<|Zi rfl<|Zv (jY rfl rfl Om Om)<|Zv (dp (v:=x) rfl (Below.slT hB hl) rfl eH Om (by omega))<|Zv (io rfl dh (dr.cell (Below.slT hB hl) gx ⟨0,0⟩ Om (by omega) 0 rfl) (dr.cell (Below.slT hB hl) gx ⟨0,0⟩ Om (by omega) 1 rfl)) ?_
 refine oM (dd:=some 19) rfl rfl rfl (iu (q:=276) (first:= #[]) (cap:= #[.pointer (some ⟨h,0,none⟩)]) (vs:= #[.agg #[_,_], .pointer (some ⟨h,0,none⟩)]) rfl Rj Hh) (wC _ _ _ _ _ _ b) (λZ aa O P=> ?_)
 obtain⟨hB,b⟩:=O.k2 hB b
 obtain rfl:=P
 refine Zv (eK rfl)<|Zb rfl<|ct<|ZQ rfl (λp=> ?_) λp=> ?_
 refine cx<|cy<|cI<|Zi rfl<|Zv (jY rfl rfl Om Om)<|ZZ rfl ?_
 exact L _ _ (i-1) Za ⟨congrArg (Value.int .i64) (by omega:(i:Int)-1=((i-1:Nat):Int)),trivial⟩ ⟨hB,b,Om,(hp.trans (Oj Om p)),trivial⟩ Zo
 refine cT ?_
 have hpos:oG l c l.length=i:=hp.trans (Ji (by exact .inr p))
 have hil:((i:Nat):Int).toNat=i:=rfl
 refine Zd dA λQ R=> ?_
 obtain⟨hB,b⟩:=R.k2 hB b
 have hS:=dA.refl Q
 refine Tw 0 x rfl rfl hS<|Ti 1 rfl rfl hS<|Ti 2 rfl rfl hS<|Tk 3 rfl (λ_ hq=>nM (v:=x) rfl (hq.slT (Below.slT hB hl)) eH rfl rfl Om Om Om) hS ?_
 have r:dr iI 2 w (fY 2 x 0 i i) ((l.drop 0).take (i-0)):=ady gx hl (by omega) (by omega) (by omega) (by omega)
 refine Tk 4 rfl (λ_ hq=>cz rfl dh rfl (hq.at b)) hS<|Tw 6 x rfl rfl hS<|Ti 7 rfl rfl hS<|Tk 8 rfl (λ_ hq=>nL (v:=x) rfl (hq.slT (Below.slT hB hl)) eH rfl Om Om) hS ?_
 have s:dr iI 2 w (fY 2 x i l.length (jn x)) ((l.drop i).take (l.length-i)):=ady gx hl (by omega) (by omega) (by omega) (by omega)
 refine To 5 rfl (ez (u:= .agg #[_,_]) rfl eH jL rfl Dd Dd λg ab G t y=>⟨.inl (hS.trans t),?_⟩)
 have z:=ZO G hB
 have k:=go (dA.size hS) (aaR G.symm)
 replace hB:=Ze hB t
 replace hS:=hS.trans t
 have H:=jf (enc:=iI) (a:=c) y rfl rfl z
 refine To 9 rfl (dP (v:= .slice (some ⟨g,0,none⟩) 1 1) (v2:=fY 2 x i l.length (jn x)) rfl rfl eH jL Dd H (Below.slT hB s) (qi) (m3 hB) ix ix λA ac B d=>⟨.inl (dg hS B (am _) (λj hj=>by have e:g=j:=aaK hj;rw[←e];exact k)),?_⟩)
 replace hS:dA _ _:=dg hS B (am _) (λj hj=>by have e:g=j:=aaK hj;rw[←e];exact k)
 replace d:=cH.app (enc:=iI) rfl rfl rfl rfl d
 replace hB:=ZG hB B H
 refine To 10 rfl (ke (N:=w.heap.size) (v:=fY 2 x 0 i i) (v2:=A) rfl rfl eH jL (Below.slT hB r) (tj ix) d.sl fF (Below.size hB) ix ix λo ad C f=>⟨.inl (hS.trans C),?_⟩)
 replace f:=cH.app (enc:=iI) rfl rfl rfl rfl f
 obtain⟨hB,d⟩:=C.k2 hB d
 replace hS:=hS.trans C
 refine Tw 11 o rfl rfl hS<|Td<|Zt<|cZ (v:=o) rfl ⟨hB,?_⟩
 have e:(l.drop i).take (l.length-i)=l.drop i:=acR fF
 rw[e]at f
 rw[DF,hpos]
 simpa using f
 refine Zs<|Zs<|Zs<|Zs<|Zs<|Zs<|Zs<|Zs<|Zb rfl<|ct<|dE rfl<|cT ?_
 have hpos:oG l c l.length=i:=hp.trans (Ji (by exact .inl (by omega)))
 have hil:((i:Nat):Int).toNat=i:=rfl
 refine Zd dA λS T=> ?_
 obtain⟨hB,b⟩:=T.k2 hB b
 have hS:=dA.refl S
 refine Tw 0 x rfl rfl hS<|Ti 1 rfl rfl hS<|Ti 2 rfl rfl hS<|Tk 3 rfl (λ_ hq=>nM (v:=x) rfl (hq.slT (Below.slT hB hl)) eH rfl rfl Om Om Om) hS ?_
 have r:dr iI 2 w (fY 2 x 0 i i) ((l.drop 0).take (i-0)):=ady gx hl (by omega) (by omega) (by omega) (by omega)
 refine Tk 4 rfl (λ_ hq=>cz rfl dh rfl (hq.at b)) hS<|Tw 6 x rfl rfl hS<|Ti 7 rfl rfl hS<|Tk 8 rfl (λ_ hq=>nL (v:=x) rfl (hq.slT (Below.slT hB hl)) eH rfl Om Om) hS ?_
 have s:dr iI 2 w (fY 2 x i l.length (jn x)) ((l.drop i).take (l.length-i)):=ady gx hl (by omega) (by omega) (by omega) (by omega)
 refine To 5 rfl (ez (u:= .agg #[_,_]) rfl eH jL rfl Dd Dd λg ae I D y=>⟨.inl (hS.trans D),?_⟩)
 have z:=ZO I hB
 have k:=go (dA.size hS) (aaR I.symm)
 replace hB:=Ze hB D
 replace hS:=hS.trans D
 have J:=jf (enc:=iI) (a:=c) y rfl rfl z
 refine To 9 rfl (dP (v:= .slice (some ⟨g,0,none⟩) 1 1) (v2:=fY 2 x i l.length (jn x)) rfl rfl eH jL Dd J (Below.slT hB s) (qi) (m3 hB) ix ix λA af E d=>⟨.inl (dg hS E (am _) (λj hj=>by have e:g=j:=aaK hj;rw[←e];exact k)),?_⟩)
 replace hS:dA _ _:=dg hS E (am _) (λj hj=>by have e:g=j:=aaK hj;rw[←e];exact k)
 replace d:=cH.app (enc:=iI) rfl rfl rfl rfl d
 replace hB:=ZG hB E J
 refine To 10 rfl (ke (N:=w.heap.size) (v:=fY 2 x 0 i i) (v2:=A) rfl rfl eH jL (Below.slT hB r) (tj ix) d.sl fF (Below.size hB) ix ix λo ag F f=>⟨.inl (hS.trans F),?_⟩)
 replace f:=cH.app (enc:=iI) rfl rfl rfl rfl f
 obtain⟨hB,d⟩:=F.k2 hB d
 replace hS:=hS.trans F
 refine Tw 11 o rfl rfl hS<|Td<|Zt<|cZ (v:=o) rfl ⟨hB,?_⟩
 have e:(l.drop i).take (l.length-i)=l.drop i:=acR fF
 rw[e]at f
 rw[DF,hpos]
 simpa using f
end
section
theorem wO:cY Tryz.prog 80=true:=by kernel_rfl
theorem kz:na Tryz.prog 258=some (34,4):=by kernel_rfl
theorem oh:qV Tryz.prog 34 (λv=>∃a:Cb,v=jo a):=by
  refine pD Tryz.underlying34 ?_ ?_ ?_ ?_
  · rintro w _ _ ⟨a,rfl⟩ ⟨c,rfl⟩
    have hg:Tryz.prog.eqGuardType Tryz.prog.depth 34=false:=by kernel_rfl
    exact⟨_,sO hg (TX rfl rfl),by rw[decide_eq_true_eq];constructor<;>intro h<;>simpa [jo] using h⟩
  · rintro _ _ ⟨a,rfl⟩ ⟨c,rfl⟩
    exact .inl rfl
  · rintro w em _ ⟨a,rfl⟩
    have h2:∀k,(Instr.checkKey em (k+1+1+1) 34 (jo a)).run Tryz.prog w= .ok () w:=λk=>by
      simp[jo,Instr.checkKey,part,isAgg,run_underlying Tryz.underlying34,run_underlying Tryz.underlying5]
    exact h2 9997
  · rintro _ ⟨a,rfl⟩
    simp[jo,Instr.sameBits]
theorem TT:cY Tryz.prog 262=true:=by kernel_rfl
theorem Gs (s:Nat) (n:Int) (w:World):
    Fn Tryz.prog 227 #[el s, .int .i64 n] w λv w'=>if yv s n=true then ∃x,v= .tuple #[x, .int .i64 0]∧cH iI 2 34 w' w.heap.size x (eE s n)else v= .tuple #[.slice none 0 0, .int .i64 1]:=by
 refine cK (n:=105) Tryz.func227 rfl rfl rfl λhB=> ?_
 refine Zr<|Zy (du (c:= #[_,_,_,_]) rfl rfl λQ W3 bD aI e=> ?_)
 replace hB:=Ze hB aI
 refine Zw (.slice none 0 0) rfl<|ZZ rfl<|Zr<|Zi rfl<|ZC wO (nQ _ _) rfl λbE W8 aJ aK=> ?_
 obtain⟨hB,e⟩:=aJ.k2 hB e
 obtain⟨sa,er,rfl,hhP1_1⟩:=sM aK
 refine Zw (.tuple #[.agg #[_,_,_,_], .int .i64 _]) rfl<|Zv (c7 rfl)<|Zv (da rfl)<|Zy (cM ep rfl λO aL aq aM f=> ?_)
 have aN:=ZO aq hB
 have aO:=Zn aq e.lt
 obtain⟨hB,e⟩:=aM.k2 hB e
 replace f:At aL O #[wv 0 0,wv 0 1,wv 0 2,wv 0 3] 40:=f
 refine Zy (cA rfl rfl cC rfl f rfl rfl λbF ar aP=> ?_)
 replace hB:=Zg hB ar aN
 replace e:=At.grownNe e aO ar
 replace f:=aP
 refine ZZ rfl<|Zq<|Zr<|Zi rfl<|Zv (eV rfl rfl)<|ZX rfl (λV=> ?_) λV=> ?_
 refine Zs<|Zs<|Zs<|Zs<|Zb rfl<|ct<|cN rfl<|Zr<|Zw (.slice none 0 0) rfl<|ZZ rfl<|Zt<|dH (v:= .slice none 0 0) rfl (v1:= .int .i64 1) rfl ⟨hB,?_⟩
 rw[if_neg (J1 hhP1_1 V)]
 refine Zv (cz rfl cC rfl e)<|Zv (cz rfl cC rfl f)<|ZC (vs:=[.agg #[_,_,_,_], .agg #[_,_,_,_]]) po (gS _ _ _) rfl λbG bH aQ aR=> ?_
 obtain⟨hB,e,f⟩:=aQ.k3 hB e f
 obtain rfl:=aR
 refine Zv (eK rfl)<|Zb rfl<|ct<|ZQ rfl (λab=> ?_) λab=> ?_
 refine Zr<|Zw (.slice none 0 0) rfl<|ZZ rfl<|Zt<|dH (v:= .slice none 0 0) rfl (v1:= .int .i64 1) rfl ⟨hB,?_⟩
 rw[if_neg (KK hhP1_1 V ab)]
 refine cx ?_
 have hof:yv s n=true:=Nw hhP1_1 V ab
 obtain⟨hn0,hn8⟩:=lf hof
 have hll:=mv s
 refine Zr<|Zy (hU (enc:=jo) (encV:=Value.bool) λX bI aS aT y=> ?_)
 have aU:=ZO aS hB
 obtain⟨hB,e,f⟩:=aT.k3 hB e f
 replace y:dy jo Value.bool _ _ (fC []):=y
 refine Zw (.map (some X)) rfl<|ct<|Zq<|Zr<|Zv (cz rfl cC rfl e)<|ZC (vs:=[.agg #[_,_,_,_]]) uP (n4 _ _) rfl λM bJ aV h=> ?_
 have aW:=(Below.size hB)
 obtain⟨hB,e,f,y⟩:=aV.k4 hB e f y
 replace h:=cH.mono h aW
 refine Zv (db (v:=M) rfl h.sl cV)<|ZZ rfl<|cy ?_
 refine cW (σ:=(Nat)×(List Cb)) [10,10,35,46] (λ(k,ks)=>[(35, .int .i64 (k:Int))]) (λsg W=>match sg with|(k,ks)=>(Below w.heap.size w W)∧(At W Q _ 40)∧(At W O _ 40)∧(cH dX 1 3 W w.heap.size M _)∧(dy jo Value.bool W X (fC ks))∧(k≤(ej s).length)∧(∀c,c∈ks↔∃j,j<k∧c=⟨2^n.toNat-1,((ej s).getD j 0).toNat⟩)∧(True)) (λ(k,ks)=>(ej s).length-k) ((0,[])) ⟨rfl,trivial⟩ ⟨hB,e,f,h,y,(me _),(λc=>by simp),trivial⟩ ?_
 rintro⟨k,ks⟩ bK bL ⟨hB,e,f,h,y,hk,hks,_⟩ bM aX
 refine Zr<|Zv (dq rfl rfl)<|ct<|Zq<|ZQ rfl (λaY=> ?_) λaY=> ?_
 refine cx<|Zq<|cy<|Zr<|Zv (dp (v:=M) rfl h.sl rfl cV Om (by omega))<|Zv (cD (v:= .int .i64 _) rfl cR (dr.cell h.sl eD 0 Om (by omega) 0 rfl))<|ZZ rfl ?_
 obtain⟨p,bN,bO,au⟩:=mq (s:=s) (i:=k) (by omega)
 refine cI<|Zw (.map (some X)) rfl<|Zi rfl<|Zv (XG rfl rfl hn0)<|Zv (Vn rfl rfl hn0 hn8)<|Zi rfl<|Zv (iP (m:=p) (congrArg (Value.int .i64) au) Tryz.underlying3 Tryz.underlying5 pX)<|Zv (oC (h0:=rfl) (k0:=rfl) (h1:=rfl) (k1:=rfl) (c0_0:= .int .u8 _) (c1_0:= .int .u8 _)) ?_
 refine gU (dd:=none) rfl rfl rfl (fN (enc:=jo) (encV:=Value.bool) (k:=⟨_,_⟩) (v:=true) rfl rfl rfl kz oh (λa=>⟨a,rfl⟩) nW y (λbP Y aZ=> ?_))
 replace hB:=Zg hB Y aU
 replace e:=At.grownMap e y Y
 replace f:=At.grownMap f y Y
 replace h:=cH.grownMap h y Y
 replace y:=aZ
 rw[kb]at y
 refine ct<|ZT rfl rfl rfl ?_
 exact aX _ _ ((k+1,jm ks ⟨2^n.toNat-1,p⟩)) Za ⟨rfl,trivial⟩ ⟨hB,e,f,h,y,Om,(Mq hks au),trivial⟩ (by show (ej s).length-(k+1)<(ej s).length-k;omega)
 refine cT<|Zr<|Zw (.slice none 0 0) rfl<|ct<|Zq<|cy ?_
 refine cW (σ:=(Nat)×(List Cb)×(Value)×(List Cb)×(Nat)) [8,8,11,17,47,103] (λ(bn,now,v0,out,t)=>[(8, .map (some bn)),(11,v0)]) (λsg W=>match sg with|(bn,now,v0,out,t)=>(Below w.heap.size w W)∧(At W Q _ 40)∧(At W O _ 40)∧(cH dX 1 3 W w.heap.size M _)∧(dy jo Value.bool W bn (fC now))∧(cH iI 2 34 W w.heap.size v0 (out))∧(pY s n t now)∧(Au s n t out)∧(jq out)∧(t≤n.toNat+1)∧(True)) (λ(bn,now,v0,out,t)=>t) ((X,ks, .slice none 0 0,[],n.toNat+1)) ⟨rfl,rfl,trivial⟩ ⟨hB,e,f,h,y,cH.nil,(Fz hof (Ok hks Om)),P8,List.Pairwise.nil,(am _),trivial⟩ ?_
 rintro⟨bn,now,v0,out,t⟩ bQ bR ⟨hB,e,f,h,hmN,ho,hLv,hOut,hRis,ht,_⟩ bS a0
 refine Zq<|Zr<|Zw (.map (some bn)) rfl<|Zv (PH rfl kz hmN)<|Zv (gQ rfl rfl)<|ct<|ZQ rfl (λac=> ?_) λac=> ?_
 refine cx<|cy ?_
 obtain⟨t',rfl⟩:=LH hLv ac
 refine Zr<|Zy (hU (enc:=jo) (encV:=Value.bool) λA bT av a1 g=> ?_)
 have aw:=ZO av hB
 have Z:=Zn av hmN.lt
 obtain⟨hB,e,f,h,hmN,ho⟩:=a1.k6 hB e f h hmN ho
 replace g:dy jo Value.bool _ _ (fC []):=g
 refine Zy (hU (enc:=jo) (encV:=Value.bool) λP bU ad a2 l=> ?_)
 have a3:=ZO ad hB
 have ax:=Zn ad hmN.lt
 have ae:=Zn ad g.lt
 obtain⟨hB,e,f,h,hmN,ho,g⟩:=a2.k7 hB e f h hmN ho g
 replace l:dy jo Value.bool _ _ (fC []):=l
 refine Zw (.map (some A)) rfl<|Zw (.map (some P)) rfl<|ct<|Zq<|Zr<|Zw (.map (some bn)) rfl<|Zy (D1 rfl kz hmN λay bV a4 a5 o=> ?_)
 have a6:=ZO a4 hB
 obtain⟨hB,e,f,h,hmN,ho,g,l⟩:=a5.k8 hB e f h hmN ho g l
 refine ct<|cy ?_
 refine cW (σ:=(List Cb)×(List Cb)×(List Cb)) [14,16,54,89] (λ(seen,nl,ml)=>[]) (λsg W=>match sg with|(seen,nl,ml)=>(Below w.heap.size w W)∧(At W Q _ 40)∧(At W O _ 40)∧(cH dX 1 3 W w.heap.size M _)∧(dy jo Value.bool W bn _)∧(cH iI 2 34 W w.heap.size v0 _)∧(eT jo Value.bool W ay bn (fC now) seen)∧(dy jo Value.bool W A (fC nl))∧(dy jo Value.bool W P (fC ml))∧(∀d,d∈nl↔jX now n seen d)∧(∀d,d∈ml↔gC now n seen d)∧(True)) (λ(seen,nl,ml)=>(fC now).length-seen.length) (([],[],[])) trivial ⟨hB,e,f,h,hmN,ho,o,g,l,HN,C8,trivial⟩ ?_
 rintro⟨seen,nl,ml⟩ bW bX ⟨hB,e,f,h,hmN,ho,o,g,l,hN,hM,_⟩ bY a7
 refine Zr ?_
 refine gU (dd:=some 54) rfl rfl rfl (HP rfl o (λa8=> ?_) (λz bZ b0 az b1 K a9=> ?_))
 refine Zv (rZ rfl)<|ct<|Zq<|dE rfl<|cT<|Zq ?_
 have hseen:=Fa o a8
 have hN':=MD hN hseen
 have hM':=GQ hM hseen
 refine Zr<|Zw (.map (some bn)) rfl<|Zy (D1 rfl kz hmN λba b2 bb af u=> ?_)
 have bc:=ZO bb hB
 obtain⟨hB,e,f,h,hmN,ho⟩:=af.k6 hB e f h hmN ho
 replace o:=af.iterT o
 obtain⟨g,l⟩:=af.k2 g l
 refine ct<|cy ?_
 refine cW (σ:=(List Cb)×(Value)×(List Cb)) [11,11,17,17,92,102] (λ(seen2,v2,out2)=>[(11,v2)]) (λsg W=>match sg with|(seen2,v2,out2)=>(Below w.heap.size w W)∧(At W Q _ 40)∧(At W O _ 40)∧(cH dX 1 3 W w.heap.size M _)∧(dy jo Value.bool W bn _)∧(dy jo Value.bool W A _)∧(dy jo Value.bool W P _)∧(eT jo Value.bool W ba bn (fC now) seen2)∧(cH iI 2 34 W w.heap.size v2 (out2))∧(∀c,c∈out2↔c∈out∨(c∈seen2∧c∉ml))∧(jq out2)∧(True)) (λ(seen2,v2,out2)=>(fC now).length-seen2.length) (([],v0,out)) ⟨rfl,trivial⟩ ⟨hB,e,f,h,hmN,g,l,u,ho,XQ,hRis,trivial⟩ ?_
 rintro⟨seen2,v2,out2⟩ b3 b4 ⟨hB,e,f,h,hmN,g,l,u,B,R,hR2,_⟩ b5 aA
 refine Zr ?_
 refine gU (dd:=some 92) rfl rfl rfl (HP rfl u (λbd=> ?_) (λN b6 b7 aB bf L bg=> ?_))
 refine Zv (rZ rfl)<|ct<|Zq<|dE rfl<|cT ?_
 have hseen2:=Fa u bd
 refine cI<|Zw (.map (some A)) rfl<|Zw (.map (some A)) rfl<|ct ?_
 exact a0 _ _ ((A,nl,v2,out2,t')) Za ⟨rfl,rfl,trivial⟩ ⟨hB,e,f,h,g,(by exact B),(Hr hn8 hLv Om hN'),(Oe hLv hOut hM' (Rl R hseen2)),hR2,Om,trivial⟩ (by show t'<t'+1;omega)
 replace hB:=Zg hB L bc
 replace e:=adI e u L
 replace f:=adI f u L
 replace h:=adL h u L
 replace hmN:=adC hmN u L
 replace g:=adC g u L
 replace l:=adC l u L
 replace B:=adL B u L
 replace u:=bg
 refine Zv (gj rfl)<|ct<|Zq<|cN rfl<|cx<|cy ?_
 have hkn:=(F4 aB).1
 obtain⟨hkm,hkv⟩:=yV hLv hn8 hkn
 refine Zr<|Zv (Et rfl u aB)<|Zv (c7 rfl)<|Zy (cM gV rfl λbh b8 aC ag C=> ?_)
 have bi:=ZO aC hB
 have bj:=acm (b:=bh) B (aaR aC.symm)
 obtain⟨hB,e,f,h,hmN,g,l⟩:=ag.k7 hB e f h hmN g l
 replace u:=ag.iterT u
 replace B:=ag.ow B
 refine Zy (cA rfl rfl dh rfl C rfl rfl λb9 H bk=> ?_)
 replace hB:=Zg hB H bi
 replace e:=At.grownAt e C H Dd
 replace f:=At.grownAt f C H Dd
 replace h:=cH.grownAt h C H Dd
 replace hmN:=dy.grownAt hmN C H
 replace g:=dy.grownAt g C H
 replace l:=dy.grownAt l C H
 replace u:=eT.grownAt u C H
 replace B:=ab3 B bj H
 replace C:=bk
 refine ct<|Zr<|Zw (.map (some P)) rfl<|Zv (cz rfl dh rfl C)<|Zv (fX (enc:=jo) (encV:=Value.bool) (v0:=false) (k:=⟨N.m,N.v⟩) rfl rfl kz oh (λa=>⟨a,rfl⟩) nW rg rfl l)<|Zv (eK rfl)<|ct<|ZQ rfl (λah=> ?_) λah=> ?_
 have hsm:=Qv hLv hn8 hOut R (λc hc=>G0 u c (abe _ hc)) hR2
 refine cI<|Zw v2 rfl<|Zv (cz rfl dh rfl C)<|ZC (vs:=[v2, .agg #[_,_]]) TT (Ao _ _ _ _ B.sl (by omega)) rfl λaD ca aE ai=> ?_
 have cb:=adi B
 have bl:=(Below.size hB)
 obtain⟨hB,e,f,h,hmN,g,l⟩:=aE.k7 hB e f h hmN g l
 replace u:=aE.iterT u
 replace ai:=cH.mono ai bl
 refine Zw aD rfl<|ct ?_
 exact aA _ _ ((N::seen2,aD,DF out2 N)) Za ⟨rfl,trivial⟩ ⟨hB,e,f,h,hmN,g,l,u,(by exact ai),(TE R (N5 ah)),(F1 hR2 (WY hLv hOut R hkn bf)),trivial⟩ (by have hle:=adE u;show (fC now).length-(N::seen2).length<(fC now).length-seen2.length;simp only[aaW]at hle ⊢;omega)
 refine cx ?_
 exact aA _ _ ((N::seen2,v2,out2)) Za ⟨rfl,trivial⟩ ⟨hB,e,f,h,hmN,g,l,u,(by exact B),(SR R (Qt ah)),hR2,trivial⟩ (by have hle:=adE u;show (fC now).length-(N::seen2).length<(fC now).length-seen2.length;simp only[aaW]at hle ⊢;omega)
 replace hB:=Zg hB K a6
 replace e:=adI e o K
 replace f:=adI f o K
 replace h:=adL h o K
 replace hmN:=adC hmN o K
 replace ho:=adL ho o K
 replace g:=adC g o K
 replace l:=adC l o K
 replace o:=a9
 refine Zv (gj rfl)<|ct<|Zq<|cN rfl<|cx<|cy ?_
 have hkn:=(F4 az).1
 obtain⟨hkm,hkv⟩:=yV hLv hn8 hkn
 refine Zr<|Zv (Et rfl o az)<|Zv (c7 rfl)<|Zy (cM gV rfl λaF cc aG aj r=> ?_)
 have bm:=ZO aG hB
 have bo:=acm (b:=aF) ho (aaR aG.symm)
 obtain⟨hB,e,f,h,hmN,ho⟩:=aj.k6 hB e f h hmN ho
 replace o:=aj.iterT o
 obtain⟨g,l⟩:=aj.k2 g l
 refine Zy (cA rfl rfl dh rfl r rfl rfl λcd I bp=> ?_)
 replace hB:=Zg hB I bm
 replace e:=At.grownAt e r I Dd
 replace f:=At.grownAt f r I Dd
 replace h:=cH.grownAt h r I Dd
 replace hmN:=dy.grownAt hmN r I
 replace ho:=ab3 ho bo I
 replace o:=eT.grownAt o r I
 replace g:=dy.grownAt g r I
 replace l:=dy.grownAt l r I
 replace r:=bp
 refine ct<|Zr<|Zi rfl<|ZZ rfl<|cy ?_
 refine cW (σ:=(Nat)×(List Cb)×(List Cb)) [15,16,59,89] (λ(i,nl2,ml2)=>[(59, .int .i64 (i:Int))]) (λsg W=>match sg with|(i,nl2,ml2)=>(Below w.heap.size w W)∧(At W Q _ 40)∧(At W O _ 40)∧(cH dX 1 3 W w.heap.size M _)∧(dy jo Value.bool W bn _)∧(cH iI 2 34 W w.heap.size v0 _)∧(eT jo Value.bool W ay bn _ _)∧(At W aF _ 34)∧(dy jo Value.bool W A (fC nl2))∧(dy jo Value.bool W P (fC ml2))∧((i:Int)≤n)∧(∀d,d∈nl2↔jX now n seen d∨∃q,q<i∧jz now z q∧d=jI z q)∧(∀d,d∈ml2↔gC now n seen d∨(d=z∧∃q,q<i∧jz now z q))∧(True)) (λ(i,nl2,ml2)=>n.toNat-i) ((0,nl,ml)) ⟨rfl,trivial⟩ ⟨hB,e,f,h,hmN,ho,o,r,g,l,Om,(L8 hN),(GM hM),trivial⟩ ?_
 rintro⟨i,nl2,ml2⟩ ce cf ⟨hB,e,f,h,hmN,ho,o,r,g,l,hi,hN2,hM2,_⟩ cg ak
 refine Zr<|Zv (dq rfl rfl)<|ct<|Zq<|ZQ rfl (λbq=> ?_) λbq=> ?_
 refine cx<|Zq<|cy<|Zr<|Zi rfl<|ZZ rfl ?_
 have h7:=Eb (show i<8 by omega)
 have hd:z.m/2^i≤z.m:=acz _ _
 refine Zd dA λbr al=> ?_
 obtain⟨hB,e,f,h,hmN,ho⟩:=al.k6 hB e f h hmN ho
 replace o:=al.iterT o
 obtain⟨r,g,l⟩:=al.k3 r g l
 have hS:=dA.refl br
 refine Tf 0 rfl rfl ey hS<|Tk 1 rfl (λ_ hq=>cD (v:= .int .u8 _) rfl dN (At.cell (hq.at r) rfl)) hS<|Tf 2 rfl rfl fO hS<|Tk 3 rfl (λ_ hq=>cD (v:= .int .u8 _) rfl dN (At.cell (hq.at r) rfl)) hS<|Ti 4 rfl rfl hS<|Tk 5 rfl (λ_ _=>jK (m:=1) rfl rfl Om (by simp only[IntKind.bits];omega) yW) hS<|Tk 6 rfl (λ_ _=>P4 (n:=_) rfl rfl rfl pr yW) hS<|Tk 7 rfl (λ_ _=>oC (h0:=rfl) (k0:=rfl) (h1:=rfl) (k1:=rfl) (c0_0:= .int .u8 _) (c1_0:= .int .u8 _)) hS<|To 8 rfl (cM gV rfl λbs ch ao aa E=>⟨.inl (hS.trans aa),?_⟩)
 have bt:=ZO ao hB
 have bu:=acm (b:=bs) ho (aaR ao.symm)
 have bv:=Zn ao r.lt
 obtain⟨hB,e,f,h,hmN,ho⟩:=aa.k6 hB e f h hmN ho
 replace o:=aa.iterT o
 obtain⟨r,g,l⟩:=aa.k3 r g l
 refine To 9 rfl (cA rfl rfl dh rfl E rfl rfl λci F bw=>⟨.inr jW,?_⟩)
 replace hB:=Zg hB F bt
 replace e:=At.grownAt e E F Dd
 replace f:=At.grownAt f E F Dd
 replace h:=cH.grownAt h E F Dd
 replace hmN:=dy.grownAt hmN E F
 replace ho:=ab3 ho bu F
 replace o:=eT.grownAt o E F
 replace r:=At.grownNe r bv F
 replace g:=dy.grownAt g E F
 replace l:=dy.grownAt l E F
 replace E:=bw
 refine Td<|Zr<|Zf rfl ey<|Zl rfl dN r rfl<|Zi rfl<|Zv (ra rfl rfl Om (by simp only[IntKind.bits];omega))<|Zv (nh (n:=1) rfl rfl rfl Wp vl)<|Zv (dO rfl rfl)<|ZX rfl (λS=> ?_) λS=> ?_
 refine Zw (.map (some bn)) rfl<|Zv (cz rfl dh rfl E)<|Zv (fX (enc:=jo) (encV:=Value.bool) (v0:=false) (k:=⟨z.m,z.v ^^^ 1*2^((i:Nat):Int).toNat⟩) rfl rfl kz oh (λa=>⟨a,rfl⟩) nW rg rfl hmN)<|Zb rfl<|ct<|ZQ rfl (λT=> ?_) λT=> ?_
 refine eR (λa b=>a.grownBy b (some A)) fx (λbx ap=> ?_)
 obtain⟨hB,e,f,h,hmN,ho⟩:=ap.k6 hB e f h hmN ho
 replace o:=ap.iterT o
 obtain⟨r,g,l⟩:=ap.k3 r g l
 have aH:=g
 have hS:=World.grownBy.refl bx (some A)
 refine Tw 0 (.map (some A)) rfl rfl hS<|Tk 1 rfl (λ_ hq=>cz rfl dh rfl (At.grownMap r aH hq)) hS<|Ti 2 rfl rfl hS<|Tw 4 (.map (some P)) rfl rfl hS<|Tk 5 rfl (λ_ hq=>cz rfl dh rfl (At.grownMap r aH hq)) hS<|To 3 rfl (TC (vs:=[.agg #[_,_], .int .i64 _]) yH (lN _ _ _ _ pr pr) rfl λcj ck U bz=>⟨.inl (cB hS (dA.grown U (some A))),?_⟩)
 obtain⟨hB,e,f,h,hmN,ho⟩:=U.k6 hB e f h hmN ho
 replace o:=U.iterT o
 obtain⟨r,g,l⟩:=U.k3 r g l
 replace hS:=cB hS (dA.grown U (some A))
 obtain rfl:=bz
 refine To 6 rfl (HC (enc:=jo) (encV:=Value.bool) (v0:=false) (k:=(jI z i)) rfl rfl kz oh (λa=>⟨a,rfl⟩) nW rg rfl g λcl cm D bA=>⟨.inl (cB hS D),?_⟩)
 replace hS:=cB hS D
 replace hB:=Zg hB D aw
 replace e:=At.grownMap e g D
 replace f:=At.grownMap f g D
 replace h:=cH.grownMap h g D
 replace hmN:=dy.grownNe hmN Z D
 replace ho:=cH.grownMap ho g D
 replace o:=eT.grownMap o g Z D
 replace r:=At.grownMap r g D
 replace l:=dy.grownNe l (Ne.symm ae) D
 replace g:=bA
 refine Tk 7 rfl (λ_ _=>da rfl) hS<|To 8 rfl (Eo (encV:=Value.bool) (v:=true) rfl rfl rfl g λcn G bB=>⟨.inl (cB hS G),?_⟩)
 replace hB:=Zg hB G aw
 replace e:=adP e g G
 replace f:=adP f g G
 replace h:=adX h g G
 replace hmN:=dy.grownNe hmN Z G
 replace ho:=adX ho g G
 replace o:=ad4 o g Z G
 replace r:=adP r g G
 replace l:=dy.grownNe l (Ne.symm ae) G
 replace g:=bB
 rw[kb]at g
 refine To 9 rfl (fN (enc:=jo) (encV:=Value.bool) (k:=z) (v:=true) rfl rfl rfl kz oh (λa=>⟨a,rfl⟩) nW l λco J bC=>⟨.inr jW,?_⟩)
 replace hB:=Zg hB J a3
 replace e:=At.grownMap e l J
 replace f:=At.grownMap f l J
 replace h:=cH.grownMap h l J
 replace hmN:=dy.grownNe hmN ax J
 replace ho:=cH.grownMap ho l J
 replace o:=eT.grownMap o l ax J
 replace r:=At.grownMap r l J
 replace g:=dy.grownNe g ae J
 replace l:=bC
 rw[kb]at l
 refine Td<|ZT rfl rfl rfl ?_
 exact ak _ _ ((i+1,jm nl2 (jI z i),jm ml2 z)) Za ⟨rfl,trivial⟩ ⟨hB,e,f,h,hmN,ho,o,r,g,l,Om,(Ob hN2 (Cj S T)),(Ht hM2 (Cj S T)),trivial⟩ (by show n.toNat-(i+1)<n.toNat-i;omega)
 refine cx<|ZT rfl rfl rfl ?_
 exact ak _ _ ((i+1,nl2,ml2)) Za ⟨rfl,trivial⟩ ⟨hB,e,f,h,hmN,ho,o,r,g,l,Om,(Cr hN2 (CA T)),(xP hM2 (CA T)),trivial⟩ (by show n.toNat-(i+1)<n.toNat-i;omega)
 refine Zs<|Zs<|Zs<|Zb rfl<|ct<|dE rfl<|cx<|ZT rfl rfl rfl ?_
 exact ak _ _ ((i+1,nl2,ml2)) Za ⟨rfl,trivial⟩ ⟨hB,e,f,h,hmN,ho,o,r,g,l,Om,(Cr hN2 (Cw S)),(xP hM2 (Cw S)),trivial⟩ (by show n.toNat-(i+1)<n.toNat-i;omega)
 refine cT ?_
 refine a7 _ _ ((z::seen,nl2,ml2)) ?_ ?_ ?_ ?_
 · repeat (first|exact dC.mask _ _ _|refine adc ?_ rfl _|refine ac5 ?_ _ rfl|refine acU rfl ?_)
 · exact trivial
 · exact⟨hB,e,f,h,hmN,ho,o,g,l,(OT hN2 (by omega)),(HJ hM2 (by omega)),trivial⟩
 · have hle:=adE o;show (fC now).length-(z::seen).length<(fC now).length-seen.length;simp only[aaW]at hle ⊢;omega
 refine cT<|Zr<|Zw v0 rfl<|Zw v0 rfl<|ZZ rfl<|Zt<|dH (v:=v0) rfl (v1:= .int .i64 0) rfl ⟨hB,?_⟩
 obtain rfl:now=[]:=IW ac
 rw[if_pos hof]
 exact⟨_,rfl,by rw[←TB ht hLv hOut hRis];exact ho⟩
end
end Go.Proofs.YtedeonkjellcpaaGreatDoor
