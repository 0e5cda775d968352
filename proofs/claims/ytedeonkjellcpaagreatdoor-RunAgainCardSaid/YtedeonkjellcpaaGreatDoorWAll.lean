/- The walks of texts that are written. What a deed with memory of its own leaves as it was. No program in it. How a text is read: line by line, by stages. The lines that a reader has, as they lie. No program in it. The walks of the reader. The walks of package prime, but for the function All. The walk -/
import Derived.Test.YtedeonkjellcpaaGreatDoorWPla3
namespace Go.Proofs.YtedeonkjellcpaaGreatDoor
set_option linter.unusedVariables false
set_option linter.unusedSimpArgs false
section
open Go Go.RowKit
theorem YR:dW Tryz.prog 5=some (.int .u8 0):=by kernel_rfl
theorem kM:eJ Tryz.prog 9=true:=by kernel_rfl
theorem UP:cX Tryz.prog 88=true:=by kernel_rfl
theorem Ux:cX Tryz.prog 89=true:=by kernel_rfl
theorem dX:kf Tryz.prog 24=some 4:=by kernel_rfl
theorem Nb:cX Tryz.prog 54=true:=by kernel_rfl
theorem MT:cX Tryz.prog 56=true:=by kernel_rfl
theorem UD:cX Tryz.prog 57=true:=by kernel_rfl
theorem FO (m u:Nat) (n:Int) (w:World) (hm:m<256) (hv:u<256):
    Fn Tryz.prog 57 #[.agg #[.int .u8 (m:Int), .int .u8 (u:Int)], .int .i64 n] w λv w'=>v=if dP m u n=true then .tuple #[dY (qx m u n.toNat), .int .i64 0]else .tuple #[dY [], .int .i64 1]:=by
 refine cM (n:=45) Tryz.func57 rfl rfl rfl λhB=> ?_
 refine Zr<|Zy (dw (c:= #[_,_]) rfl rfl λs W3 D t b=> ?_)
 replace hB:=Ze hB t
 refine Zw (.string _) rfl<|ZZ rfl<|Zq<|Zr<|Zv (cz rfl dh rfl b)<|Zi rfl<|ZC (vs:=[.agg #[_,_], .int .i64 _]) Ct (nq _ _ _ _ pN pN) rfl λE F x y=> ?_
 obtain⟨hB,b⟩:=x.k2 hB b
 obtain rfl:=y
 refine Zv (eR rfl)<|ct<|ZQ rfl (λg=> ?_) λg=> ?_
 refine Zr<|Zw (.string _) rfl<|ZZ rfl<|Zt<|dG (v:= .string _) rfl (v1:= .int .i64 1) rfl ⟨hB,?_⟩
 rw[if_neg (by simpa using g)];rfl
 refine cx ?_
 have hr:dP m u n=true:=by simpa using g
 obtain⟨hn0,hn8,hmn,hvm⟩:=du.1 hr
 obtain⟨q,rfl⟩:=abj hn0
 have hq8:q≤8:=by omega
 refine Zr<|Zi rfl<|Zy (UG (n:=q) (N:=w.heap.size) rfl rfl kw YR Om (by simp[maxLen];omega) (Below.size hB) λd G z e=> ?_)
 replace e:=cH.made vh 0 rfl Dd e
 obtain⟨hB,b⟩:=z.k2 hB b
 rw[LS m u q]at e
 refine Zw d rfl<|ct<|Zq<|Zr<|Zw d rfl<|Zv (de (v:=d) rfl e.sl kw)<|ZZ rfl<|cy ?_
 refine cY (σ:=(Nat)) [7,7,16,42] (λk=>[(16, .int .i64 (k:Int))]) (λk W=>(Below w.heap.size w W)∧(At W s _ 34)∧(cH xx 1 5 W w.heap.size d (uA m u q k))∧(k≤q)∧(True)) (λk=>q-k) (0) ⟨rfl,trivial⟩ ⟨hB,b,e,(my _),trivial⟩ ?_
 rintro k H I ⟨hB,b,ho,hk,_⟩ J h
 refine Zr<|Zv (dq rfl rfl)<|ct<|Zq<|ZQ rfl (λi=> ?_) λi=> ?_
 refine cx<|Zq<|cy ?_
 rw[Ab]at i
 refine Zr<|Zi rfl<|ZZ rfl<|cy ?_
 have hdm:=abr (abV m (2^k)) hm
 refine Zr<|Zf rfl eo<|Zl rfl dN b rfl<|Zi rfl<|Zv (qQ rfl rfl Om (by simp only[IntKind.bits];omega))<|Zv (m5 (n:=1) rfl rfl rfl (by simp only[iA];simp only[so];omega) vP)<|Zv (dJ rfl rfl)<|Zb rfl<|ct<|ZQ rfl (λf=> ?_) λf=> ?_
 refine cI<|Zw d rfl<|Zi rfl<|Zv (dm (v:=d) rfl ho.sl rfl kw Om OD)<|Zy (yT (v:=d) (u:= .int .u8 45) (a:=45) (j:=_) rfl rfl (.inl ⟨dN,rfl⟩) vh rfl rfl ho Om OD λK o A=> ?_)
 replace hB:=ZG hB o ho
 replace b:=At.grownOw b ho o Dd
 replace ho:=A
 rw[so,zY (by omega) (SM (k:=k) f)]at ho
 refine ct<|ZT rfl rfl rfl ?_
 exact h _ _ (k+1) Za ⟨rfl,trivial⟩ ⟨hB,b,(by exact ho),Om,trivial⟩ Om
 have hdu:=abr (abV u (2^k)) hv
 refine Zr<|Zf rfl fM<|Zl rfl dN b rfl<|Zi rfl<|Zv (qQ rfl rfl Om (by simp only[IntKind.bits];omega))<|Zv (m5 (n:=1) rfl rfl rfl (by simp only[iA];simp only[so];omega) vP)<|Zv (dJ rfl rfl)<|Zb rfl<|ct<|ZQ rfl (λl=> ?_) λl=> ?_
 refine cI<|Zw d rfl<|Zi rfl<|Zv (dm (v:=d) rfl ho.sl rfl kw Om OD)<|Zy (yT (v:=d) (u:= .int .u8 48) (a:=48) (j:=_) rfl rfl (.inl ⟨dN,rfl⟩) vh rfl rfl ho Om OD λL p B=> ?_)
 replace hB:=ZG hB p ho
 replace b:=At.grownOw b ho p Dd
 replace ho:=B
 rw[so,zY (by omega) (aaU (k:=k) f l)]at ho
 refine ct<|ZT rfl rfl rfl ?_
 exact h _ _ (k+1) Za ⟨rfl,trivial⟩ ⟨hB,b,(by exact ho),Om,trivial⟩ Om
 refine cI<|Zw d rfl<|Zi rfl<|Zv (dm (v:=d) rfl ho.sl rfl kw Om OD)<|Zy (yT (v:=d) (u:= .int .u8 49) (a:=49) (j:=_) rfl rfl (.inl ⟨dN,rfl⟩) vh rfl rfl ho Om OD λM r C=> ?_)
 replace hB:=ZG hB r ho
 replace b:=At.grownOw b ho r Dd
 replace ho:=C
 rw[so,zY (by omega) (aap (k:=k) f l)]at ho
 refine ct<|ZT rfl rfl rfl ?_
 exact h _ _ (k+1) Za ⟨rfl,trivial⟩ ⟨hB,b,(by exact ho),Om,trivial⟩ Om
 refine cT<|Zr<|Zw d rfl<|Zv (qq (v:=d) rfl ho.sl Tryz.underlying177 Tryz.underlying5 Tryz.underlying9)<|Zw (dY _) rfl<|ZZ rfl<|Zt<|dG (v:=dY _) rfl (v1:= .int .i64 0) rfl ⟨hB,?_⟩
 have hkq:k=q:=by rw[Ab]at i;omega
 subst hkq
 rw[if_pos hr,MQ];rfl
theorem FD (T:Tb) (lv:Value) (vs:List AA) (w:World) (hgl:Gl w) (hlv:dp ik 3 w lv vs) (hls:qW w vs T.ls) (hmb:∀i,i<T.ls.length→(T.ls.getD i jE).c.m<256∧(T.ls.getD i jE).c.v<256):
    Fn Tryz.prog 14 #[.agg #[.int .i64 T.kind, .int .i64 T.ni, .int .i64 T.no,lv]] w λv w'=>v=if fy T=true then .tuple #[dY (iV T), .int .i64 0]else .tuple #[dY [], .int .i64 1]:=by
 refine cM (n:=75) Tryz.func14 rfl rfl rfl λhB=> ?_
 have hle:=hls.len
 refine Zr<|Zy (dw (c:= #[_,_,_,_]) rfl rfl λp W3 Z F b=> ?_)
 replace hB:=Ze hB F
 refine Zw (.string _) rfl<|ZZ rfl<|Zq<|Zr<|Zv (cz rfl dX rfl b)<|ZC (vs:=[.agg #[_,_,_,_]]) Nb (w5 _ _ _ _ (Below.slT hB hlv) (qW.below hB hls) pN) rfl λaa ab G H=> ?_
 obtain⟨hB,b⟩:=G.k2 hB b
 obtain rfl:=H
 refine Zv (eR rfl)<|ct<|ZQ rfl (λh=> ?_) λh=> ?_
 refine Zr<|Zw (.string _) rfl<|ZZ rfl<|Zt<|dG (v:= .string _) rfl (v1:= .int .i64 1) rfl ⟨hB,?_⟩
 rw[if_neg (by simpa using h)];rfl
 refine cx ?_
 refine qn (σ:=(Unit)) [4,4,14,36] (λu_=>[(4,dY (jb T 0))]) (λW=>(Below w.heap.size w W)∧(At W p _ 24)∧(True)) ⟨hB,b,trivial⟩ (λu_ W=>(True)) (λac r=> ?_) ?_
 have hr:fy T=true:=by simpa using h
 obtain⟨hk0,hk3,hi0,hi8,hno1,hno4,hl64⟩:=iR hr
 have hd1:=yv hi0 (by omega)
 have hd2:=yv (n:=T.no) (by omega) (by omega)
 have hd3:=yv (n:=(vs.length:Int)) (by omega) (by omega)
 have hd4:=wl T.kind.toNat
 refine eP dC fC (λI J=> ?_)
 obtain⟨hB,b⟩:=J.k2 hB b
 have hS:=dC.refl I
 refine Tf 0 rfl rfl fT hS<|Tk 1 rfl (λ_ hq=>cD (v:= .int .i64 _) rfl cR (At.cell (hq.at b) rfl)) hS<|Tf 5 rfl rfl gD hS<|Tk 6 rfl (λ_ hq=>cD (v:= .int .i64 _) rfl cR (At.cell (hq.at b) rfl)) hS<|Tf 11 rfl rfl mn hS<|Tk 12 rfl (λ_ hq=>cD (v:= .int .i64 _) rfl cR (At.cell (hq.at b) rfl)) hS<|Tf 17 rfl rfl fW hS<|Tk 18 rfl (λ_ hq=>cD (v:=lv) rfl iU (At.cell (hq.at b) rfl)) hS<|Tk 19 rfl (λ_ hq=>de (v:=lv) rfl (hq.slT (Below.slT hB hlv)) gY) hS<|To 2 rfl (TC wx (jj _ _ (Gl.below hB hgl) (by omega) (by omega)) rfl λad ae s K=>⟨.inl (hS.trans s),?_⟩)
 obtain⟨hB,b⟩:=s.k2 hB b
 replace hS:=hS.trans s
 obtain rfl:=K
 refine Tk 3 rfl (λ_ _=>gK rfl rfl CB) hS<|Tk 4 rfl (λ_ _=>gK rfl rfl CB) hS<|To 7 rfl (TC wx (jj _ _ (Gl.below hB hgl) (by omega) (by omega)) rfl λaf ag t L=>⟨.inl (hS.trans t),?_⟩)
 obtain⟨hB,b⟩:=t.k2 hB b
 replace hS:=hS.trans t
 obtain rfl:=L
 refine Tk 8 rfl (λ_ _=>gK rfl rfl CB) hS<|Tk 9 rfl (λ_ _=>gK rfl rfl CB) hS<|To 10 rfl (TC MT (wU _) rfl λA ah u e=>⟨.inl (hS.trans u),?_⟩)
 have M:=(Below.size hB)
 obtain⟨hB,b⟩:=u.k2 hB b
 replace hS:=hS.trans u
 replace e:=cH.mono e M
 refine v8 13 20 ka rfl rfl rfl rfl rfl rfl rfl rfl (Yd.val (dm (v:=A) rfl e.sl rfl jO Om OD) ⟨.inl hS,?_⟩) (Yd.call (JB wx (v0:= .int .i64 _) rfl) (jj _ _ (Gl.below hB hgl) (by omega) (by omega)) (λB ai x g=>⟨.inl (hS.trans x),?_⟩))
 refine v8 14 20 ka rfl rfl rfl rfl rfl rfl rfl rfl (Yd.val (cD (v:= .string _) rfl kM (dp.cell e.sl iN [] Om OD 0 rfl)) ⟨.inl hS,?_⟩) (Yd.call (JB wx (v0:= .int .i64 _) rfl) (jj _ _ (Gl.below hB hgl) (by omega) (by omega)) (λB aj y g=>⟨.inl (hS.trans y),?_⟩))
 refine Tk 15 rfl (λ_ _=>gK rfl rfl CB) hS<|Tk 16 rfl (λ_ _=>gK rfl rfl CB) hS<|To 20 rfl (TC wx (jj _ _ (Gl.below hB hgl) (by omega) (by omega)) rfl λB ak z g=>⟨.inl (hS.trans z),?_⟩)
 obtain⟨hB,b⟩:=z.k2 hB b
 replace hS:=hS.trans z
 obtain rfl:=g
 refine Tk 21 rfl (λ_ _=>gK rfl rfl CB) hS<|Tk 22 rfl (λ_ _=>gK rfl rfl CB) hS<|Tw 23 (.string _) rfl rfl hS<|Td ?_
 exact r _ _ (()) Za ⟨GW hle hi0 Om Om Om Om,trivial⟩ ⟨hB,b,trivial⟩ (by exact trivial)
 obtain⟨hB,b,e⟩:=y.k3 hB b e
 replace hS:=hS.trans y
 obtain rfl:=g
 refine iY (dd:=some 28) 14 ka rfl rfl rfl rfl (Yd.val (cD (v:= .string _) rfl kM (dp.cell e.sl iN [] Om OD 0 rfl)) ⟨.inl hS,?_⟩)
 refine Tk 15 rfl (λ_ _=>gK rfl rfl CB) hS<|Tk 16 rfl (λ_ _=>gK rfl rfl CB) hS<|Tk 21 rfl (λ_ _=>gK rfl rfl CB) hS<|Tk 22 rfl (λ_ _=>gK rfl rfl CB) hS<|Tw 23 (.string _) rfl rfl hS<|Td ?_
 exact r _ _ (()) Za ⟨GW hle hi0 Om Om Om Om,trivial⟩ ⟨hB,b,trivial⟩ (by exact trivial)
 obtain⟨hB,b,e⟩:=x.k3 hB b e
 replace hS:=hS.trans x
 obtain rfl:=g
 refine iY (dd:=some 27) 13 ka rfl rfl rfl rfl (Yd.val (dm (v:=A) rfl e.sl rfl jO Om OD) ⟨.inl hS,?_⟩)
 refine iY (dd:=some 28) 14 ka rfl rfl rfl rfl (Yd.val (cD (v:= .string _) rfl kM (dp.cell e.sl iN [] Om OD 0 rfl)) ⟨.inl hS,?_⟩)
 refine Tk 15 rfl (λ_ _=>gK rfl rfl CB) hS<|Tk 16 rfl (λ_ _=>gK rfl rfl CB) hS<|Tk 21 rfl (λ_ _=>gK rfl rfl CB) hS<|Tk 22 rfl (λ_ _=>gK rfl rfl CB) hS<|Tw 23 (.string _) rfl rfl hS<|Td ?_
 exact r _ _ (()) Za ⟨GW hle hi0 Om Om Om Om,trivial⟩ ⟨hB,b,trivial⟩ (by exact trivial)
 rintro u_ al ao ⟨hB,b,_⟩ ⟨_⟩
 have hr:fy T=true:=by simpa using h
 obtain⟨hk0,hk3,hi0,hi8,hno1,hno4,hl64⟩:=iR hr
 refine Zq<|Zr<|Zf rfl fW<|ZL lv rfl iU b rfl<|Zv (de (v:=lv) rfl (Below.slT hB hlv) gY)<|ZZ rfl<|cy ?_
 refine cY (σ:=(Nat)) [4,4,6,8,10,10,40,72] (λk=>[(40, .int .i64 (k:Int)),(4,dY (jb T k))]) (λk W=>(Below w.heap.size w W)∧(At W p _ 24)∧(k≤T.ls.length)∧(True)) (λk=>T.ls.length-k) (0) ⟨rfl,rfl,trivial⟩ ⟨hB,b,(my _),trivial⟩ ?_
 rintro k ap aq ⟨hB,b,hk,_⟩ ar N
 refine Zr<|Zv (dq rfl rfl)<|ct<|Zq<|ZQ rfl (λO=> ?_) λO=> ?_
 refine cx<|Zq<|cy ?_
 have hpl:=oH hr k (by omega)
 have hck:=hls.c k (by omega)
 have hbk:=hmb k (by omega)
 have hln:=pr hr (show k<T.ls.length by omega)
 have hll:=Jn hln hi8 hno4
 obtain⟨hr1,hr2,hr3⟩:=nJ.1 hln
 have C:(vs.getD k nG).c.m<256∧(vs.getD k nG).c.v<256:=by rw[hck];exact hbk
 unfold vS at hll
 rw[←hck]at hll
 have hrb:dP (vs.getD k nG).c.m (vs.getD k nG).c.v T.ni=true:=by rw[hck];exact hr1
 unfold Ay at hll
 simp only[An,aa5,abU,lE,pf]at hll
 refine Zr<|Zv (dm (v:=lv) rfl (Below.slT hB hlv) rfl gY Om (by omega))<|Zv (jc rfl f7 (dp.cell (Below.slT hB hlv) kd nG Om (by omega) 0 rfl) (dp.cell (Below.slT hB hlv) kd nG Om (by omega) 1 rfl) (dp.cell (Below.slT hB hlv) kd nG Om (by omega) 2 rfl)) ?_
 have l:dp dT 1 w ((vs.getD k nG).o) ((T.ls.getD k jE).os):=hls.o k (by omega)
 refine Zy (cK oZ rfl λP au Q R f=> ?_)
 have S:=ZO Q hB
 obtain⟨hB,b⟩:=R.k2 hB b
 refine Zy (cA rfl rfl f7 rfl f rfl (by exact oV (dp.one l)) λav D U=> ?_)
 replace hB:=Zg hB D S
 replace b:=At.grownAt b f D Dd
 replace f:=U
 refine ct<|Zr<|Zf rfl wj<|Zv (iq rfl dh (At.cell f rfl) (At.cell f rfl))<|Zf rfl fT<|Zl rfl cR b rfl<|ZC (vs:=[.agg #[_,_], .int .i64 _]) UD (FO (vs.getD k nG).c.m (vs.getD k nG).c.v _ _ C.1 C.2) rfl λaw ax V E=> ?_
 obtain⟨hB,b,f⟩:=V.k3 hB b f
 rw[if_pos hrb]at E
 obtain rfl:=E
 refine Zw (.tuple #[.string _, .int .i64 0]) rfl<|Zv (cZ rfl)<|Zv (c7 rfl)<|Zw (.string _) rfl<|ZZ rfl<|Zr<|Zw (.string _) rfl<|Zw (.string _) rfl<|Zv (gK rfl rfl VK)<|Zv (gK rfl rfl VK)<|Zw (.string _) rfl<|ct<|Zq ?_
 refine Zr<|Zf rfl gX<|ZL ((vs.getD k nG).o) rfl fp f rfl<|Zv (de (v:=(vs.getD k nG).o) rfl (Below.slT hB l) cV)<|ZZ rfl<|cy ?_
 refine cY (σ:=(Nat)) [4,4,10,10,59,69] (λj=>[(59, .int .i64 (j:Int)),(4,dY ((jb T k++(qx (vs.getD k nG).c.m (vs.getD k nG).c.v T.ni.toNat++[32]))++lH ((T.ls.getD k jE).os.take j)))]) (λj W=>(Below w.heap.size w W)∧(At W p _ 24)∧(At W P _ 37)∧(j≤(T.ls.getD k jE).os.length)∧(True)) (λj=>(T.ls.getD k jE).os.length-j) (0) ⟨rfl,Wn,trivial⟩ ⟨hB,b,f,(my _),trivial⟩ ?_
 rintro j ay az ⟨hB,b,f,hj,_⟩ aA X
 refine Zr<|Zv (dq rfl rfl)<|ct<|Zq<|ZQ rfl (λY=> ?_) λY=> ?_
 refine cx<|Zq<|cy<|Zr<|Zv (dm (v:=(vs.getD k nG).o) rfl (Below.slT hB l) rfl cV Om (by omega))<|Zv (cD (v:= .int .i64 _) rfl cR (dp.cell (Below.slT hB l) ez 0 Om (by omega) 0 rfl))<|ZZ rfl ?_
 have hx:0≤(T.ls.getD k jE).os.getD (j:Int).toNat 0∧(T.ls.getD k jE).os.getD (j:Int).toNat 0<3:=hr3 _ (ph (d:=0) (show j<(T.ls.getD k jE).os.length by omega))
 obtain⟨q,hq⟩:=abj hx.1
 have hq1:(T.ls.getD k jE).os.getD (j:Int).toNat 0+1=((q+1:Nat):Int):=by omega
 have hq3:q<3:=by omega
 have hol2:=Ad (os:=(T.ls.getD k jE).os) (k:=j)
 refine cI<|Zw (.string _) rfl<|Zi rfl<|Zi rfl<|Zv (eB rfl rfl Om Om)<|Zv (zu (a:=[48,49,45]) (i:=q) (j:=q+1) rfl (congrArg (Value.int .i64) hq) (congrArg (Value.int .i64) hq1) Tryz.underlying9 Om iw)<|Zv (gK rfl rfl (by simp only[An,aa5,abU,lE,aa4,abw];omega))<|Zw (.string _) rfl<|ct<|ZT rfl rfl rfl ?_
 exact X _ _ (j+1) Za ⟨rfl,GP Om hq hq3,trivial⟩ ⟨hB,b,f,Om,trivial⟩ Zo
 refine cT ?_
 have hol2:=Ad (os:=(T.ls.getD k jE).os) (k:=j)
 refine cI<|Zw (.string _) rfl<|Zv (gK rfl rfl VK)<|Zw (.string _) rfl<|ct<|ZT rfl rfl rfl ?_
 exact N _ _ (k+1) Za ⟨rfl,FT hck Om,trivial⟩ ⟨hB,b,Om,trivial⟩ Zo
 refine cT ?_
 have hpl:=oH hr k (by omega)
 refine Zr<|Zw (.string _) rfl<|Zv (gK rfl rfl CB)<|Zw (.string _) rfl<|ZZ rfl<|Zt<|dG (v:= .string _) rfl (v1:= .int .i64 0) rfl ⟨hB,?_⟩
 obtain rfl:k=T.ls.length:=by omega
 rw[if_pos hr];rfl
end
section
open Go Go.RowKit
structure Dx (Tn:TypeId) (N:Nat) (xs:List Nat) (w w':World):Prop where
 os:w'.os=w.os
 tape:w'.tape=w.tape
 output:w'.output=w.output
 size:w.heap.size≤w'.heap.size
 block:∀k,k<w.heap.size→(k<N∨(k∉xs∧∀c fr,w.heap[k]?≠some (.cells c Tn fr)))→w'.heap[k]? =w.heap[k]?
section
variable {Tn T:TypeId} {N:Nat} {xs:List Nat} {w w' w'':World}
theorem Dx.refl:Dx Tn N xs w w:=⟨rfl,rfl,rfl,am _,λ_ _ _=>rfl⟩
theorem Dx.trans (h:Dx Tn N xs w w') (k:Dx Tn N xs w' w''):Dx Tn N xs w w'':=by
 refine⟨k.os.trans h.os,k.tape.trans h.tape,k.output.trans h.output,go h.size k.size,λj hj hc=> ?_⟩
 have e:=h.block j hj hc
 rw[k.block j (abe hj h.size) (hc.imp id λ⟨a,b⟩=>⟨a,λc fr=>by rw[e];exact b c fr⟩),e]
theorem Dx.ext (h:dC w w'):Dx Tn N xs w w':=⟨Below.os h,Below.tape h,Below.output h,Below.size h,λk hk _=>Below.block h k hk⟩
instance {Tn:TypeId} {N:Nat} {xs:List Nat} {w0 w w':World}:Kp w w' (Dx Tn N xs w0 w) (Dx Tn N xs w0 w'):=⟨λh k=>Dx.trans k (Dx.ext h)⟩
theorem Dx.grown {b:Nat} (h:w.grownBy w' (some b)) (hb:b∈xs) (hN:N≤b):Dx Tn N xs w w':=by
 refine⟨h.os,h.tape,h.output,h.size,λk hk hc=>h.block k hk λe=> ?_⟩
 cases e
 rcases hc with hc|⟨hc,_⟩
 ·omega
 ·exact hc hb
theorem Dx.row {α:Type} {enc:α→List Value} {sz:Nat} {v:Value} {l:List α} (k:cH enc sz Tn w N v l) (h:w.grownBy w' v.ownBlock):Dx Tn N xs w w':=by
 refine⟨h.os,h.tape,h.output,h.size,λj hj hc=>h.block j hj λe=> ?_⟩
 obtain⟨_,h2|⟨g,cap,cur,h3,hg,hh,_⟩⟩:=k
 ·rw[h2.1]at e;cases e
 ·rw[h3]at e
  obtain rfl:j=g:=aaY e
  rcases hc with hc|⟨_,hc⟩
  ·omega
  ·exact hc _ _ hh
theorem Dx.mono {ys:List Nat} (h:Dx Tn N xs w w') (hs:∀x,x∈xs→x∈ys):Dx Tn N ys w w':=⟨h.os,h.tape,h.output,h.size,λk hk hc=>h.block k hk (hc.imp id λ⟨a,b⟩=>⟨λq=>a (hs k q),b⟩)⟩
theorem Dx.new {b:Nat} (h:Dx Tn N xs w w') (hb:w.heap.size≤b) (k:Dx Tn N (b::xs) w' w''):Dx Tn N xs w w'':=by
 refine⟨k.os.trans h.os,k.tape.trans h.tape,k.output.trans h.output,go h.size k.size,λj hj hc=> ?_⟩
 have e:=h.block j hj hc
 rw[k.block j (abe hj h.size) (hc.imp id λ⟨a,q⟩=>⟨λm=>(abl.1 m).elim (λe=>by omega) a,λc fr=>by rw[e];exact q c fr⟩),e]
theorem Below.dx {B:Nat} {w0:World} (hB:Go.RowKit.Below B w0 w) (hN:B≤N) (hs:B≤w0.heap.size) (h:Dx Tn N xs w w'):Go.RowKit.Below B w0 w':=
 ⟨h.os.trans hB.os,h.tape.trans hB.tape,h.output.trans hB.output,go hB.size h.size,λk hk=>(h.block k (by have:=hB.size;omega) (.inl (by omega))).trans (hB.block k hk)⟩
end
section
variable {Tn T:TypeId} {N:Nat} {xs:List Nat} {w w' w'':World}
theorem Dx.below (h:Go.RowKit.Below w.heap.size w w'):Dx Tn N xs w w':=⟨h.os,h.tape,h.output,h.size,λk hk _=>h.block k hk⟩
end
end
section
open Go Go.RowKit
structure f6 (Ti:TypeId) (N:Nat) (w:World) (vs:List AA) (ls:List Ln):Prop where
 len:vs.length=ls.length
 c:∀i,i<ls.length→(vs.getD i nG).c=(ls.getD i jE).c
 o:∀i,i<ls.length→cH dT 1 Ti w N (vs.getD i nG).o (ls.getD i jE).os
section
variable {Ti T':TypeId} {N N':Nat} {w w' W:World} {vs:List AA} {ls:List Ln}
theorem f6.nil:f6 Ti N w [] []:=⟨rfl,λi hi=>(by cases hi),λi hi=>(by cases hi)⟩
theorem f6.at (k:f6 Ti N w vs ls):qW w vs ls:=⟨k.len,k.c,λi hi=>(k.o i hi).sl⟩
theorem f6.ext (h:dC w w') (k:f6 Ti N w vs ls):f6 Ti N w' vs ls:=⟨k.len,k.c,λi hi=>h.ow (k.o i hi)⟩
instance {w w':World}:Kp w w' (f6 Ti N w vs ls) (f6 Ti N w' vs ls):=⟨f6.ext⟩
theorem f6.mono (k:f6 Ti N w vs ls) (h:N'≤N):f6 Ti N' w vs ls:=⟨k.len,k.c,λi hi=>(k.o i hi).mono h⟩
theorem f6.below (h:Go.RowKit.Below w.heap.size w W) (k:f6 Ti N w vs ls):f6 Ti N W vs ls:=⟨k.len,k.c,λi hi=>Below.ow h (k.o i hi)⟩
theorem f6.grownAt {b:Nat} {c:Array Value} (k:f6 Ti N w vs ls) (hm:At w b c T') (hG:w.grownBy w' (some b)) (hT:T'≠Ti):f6 Ti N w' vs ls:=⟨k.len,k.c,λi hi=>(k.o i hi).grownAt hm hG hT⟩
theorem f6.grownOw {α:Type} {enc:α→List Value} {sz:Nat} {v:Value} {l:List α} (k:f6 Ti N w vs ls) (h:cH enc sz T' w N' v l) (hG:w.grownBy w' v.ownBlock) (hT:T'≠Ti):f6 Ti N w' vs ls:=⟨k.len,k.c,λi hi=>(k.o i hi).grownOw h hG hT.symm⟩
theorem f6.snoc {x:AA} {l:Ln} (k:f6 Ti N w vs ls) (hc:x.c=l.c) (ho:cH dT 1 Ti w N x.o l.os):f6 Ti N w (vs++[x]) (ls++[l]):=by
 have hl:=k.len
 refine⟨by simp[hl],λi hi=> ?_,λi hi=> ?_⟩
 all_goals
  rw[An,abp]at hi
  by_cases h1:i<ls.length
  ·have e1:(vs++[x]).getD i nG=vs.getD i nG:=by simp only[me];rw[abL (by omega)]
   have e2:(ls++[l]).getD i jE=ls.getD i jE:=by simp only[me];rw[abL (by omega)]
   rw[e1,e2]
   first|exact k.c i h1|exact k.o i h1
  ·obtain rfl:i=ls.length:=by omega
   have e1:(vs++[x]).getD ls.length nG=x:=by simp only[me];rw[abz (by omega),hl,Nat.sub_self];rfl
   have e2:(ls++[l]).getD ls.length jE=l:=by simp only[me];rw[abz (by omega),Nat.sub_self];rfl
   rw[e1,e2]
   first|exact hc|exact ho
theorem qW.ext (h:dC w w') (k:qW w vs ls):qW w' vs ls:=⟨k.len,k.c,λi hi=>h.slT (k.o i hi)⟩
end
theorem qv {a b c:Int} {v:Value} (h:v.oneCell'=true):(#[Value.int .i64 a, .int .i64 b, .int .i64 c,v]:Array Value).toList.all Value.oneCell'=true:=by
 simp only[ab1,acD,h]
 rfl
def rV (b:Nat):Int:=if b=45 then 2 else (b:Int)-48
def iE (s:List UInt8):List Int:=s.map λb=>rV b.toNat
def gw (ni no:Int) (line:List UInt8):Bool:=
 (Lib.cut line [32]).2.2&&(jy (Lib.cut line [32]).1&&(decide (((Lib.cut line [32]).1.length:Int)=ni)&&(decide (((Lib.cut line [32]).2.1.length:Int)=no)&&(List.range (Lib.cut line [32]).2.1.length).all λi=>kh (fZ (Lib.cut line [32]).2.1 i))))
def pH (line:List UInt8):Ln:=⟨pb (Lib.cut line [32]).1,iE (Lib.cut line [32]).2.1⟩
section
variable {P:Program} {f:Nat→Value} {w:World} {d:Option Nat} {ty:TypeId} {ps:String} {af:Array Edge} {g:Option (Nat×Bool)} {x y:Operand} {t t2:TypeId}
theorem F4 {m n:Nat} {b:Int} (hx:dk f x= .int .i32 (m:Int)) (hy:dk f y= .int .i32 b) (hb:b=(n:Int)) (h:n≤m) (hm:m<2147483648):
  (execOp (dk f) ⟨d, .binOp .sub t x y t2,ty,ps,af,g⟩).run P w= .ok (.value (.int .i32 ((m-n:Nat):Int))) w:=by
 subst hb
 rw[Pk hx hy,show (m:Int)-(n:Int)=((m-n:Nat):Int)by omega,ky (show m-n<iA .i32 by simp only[iA];omega)]
theorem UN {m n:Nat} (hx:dk f x= .int .i64 (m:Int)) (hy:dk f y= .int .i64 1) (hm:m=n+1) (hn:n<9223372036854775807):
  (execOp (dk f) ⟨d, .binOp .sub t x y t2,ty,ps,af,g⟩).run P w= .ok (.value (.int .i64 (n:Int))) w:=by
 rw[jS hx hy (by omega) (by omega),show (m:Int)-1=(n:Int)by omega]
end
section
variable {s line:List UInt8} {i r:Nat} {x ni no:Int}
theorem QX (s p:List UInt8):(Lib.cut s p).1.length≤s.length∧(Lib.cut s p).2.1.length≤s.length:=by
 unfold Lib.cut
 split
 ·simp only[aa4,abw];omega
 ·exact⟨am _,my _⟩
theorem mf (s:List UInt8):(iE s).length=s.length:=by simp[iE]
theorem qg (h:i<s.length) (hx:x=rV (fZ s i)):iE (s.take (i+1))=iE (s.take i)++[x]:=by
 unfold iE
 rw[abt,we h,ace,hx]
 unfold fZ
 rw[me,we h]
 rfl
theorem NB (h:fZ s i=48∨fZ s i=49) (hr:r=fZ s i):((r-48:Nat):Int)=rV (fZ s i):=by
 unfold rV;rw[if_neg (by omega)];omega
theorem Vm (h:fZ s i=45):(2:Int)=rV (fZ s i):=by rw[h];rfl
theorem L9 (h:(!(Lib.cut line [32]).2.2)=true):gw ni no line=false:=by
 unfold gw
 cases h2:(Lib.cut line [32]).2.2 with
 |false=>rfl
 |true=>rw[h2]at h;cases h
theorem WA (h:¬jy (Lib.cut line [32]).1=true):gw ni no line=false:=by
 unfold gw
 rw[aa0.2 h,abD,abq]
theorem V2 (h:¬((Lib.cut line [32]).1.length:Int)=ni):gw ni no line=false:=by
 unfold gw
 rw[decide_eq_false h,abD,abq,abq]
theorem Vb (h:¬((Lib.cut line [32]).2.1.length:Int)=no):gw ni no line=false:=by
 unfold gw
 rw[decide_eq_false h,abD,abq,abq,abq]
theorem Vw (hi:i<(Lib.cut line [32]).2.1.length) (h:kh (fZ (Lib.cut line [32]).2.1 i)=false):gw ni no line=false:=by
 unfold gw
 have e:((List.range (Lib.cut line [32]).2.1.length).all λi=>kh (fZ (Lib.cut line [32]).2.1 i))=false:=aa0.2 λk=>by
  rw[aa2.1 k i (aba.2 hi)]at h
  cases h
 rw[e,abq,abq,abq,abq]
theorem YC (h1:(!(Lib.cut line [32]).2.2)=false) (h2:jy (Lib.cut line [32]).1=true) (h3:¬¬((Lib.cut line [32]).1.length:Int)=ni) (h4:¬¬((Lib.cut line [32]).2.1.length:Int)=no) (h5:∀q,q<(Lib.cut line [32]).2.1.length→kh (fZ (Lib.cut line [32]).2.1 q)=true):gw ni no line=true:=by
 unfold gw
 rw[h2,decide_eq_true (aaN h3),decide_eq_true (aaN h4),aa2.2 λq hq=>h5 q (aba.1 hq)]
 simpa using h1
theorem sK:gw ni no line=true↔(Lib.cut line [32]).2.2=true∧jy (Lib.cut line [32]).1=true∧((Lib.cut line [32]).1.length:Int)=ni∧((Lib.cut line [32]).2.1.length:Int)=no∧∀q,q<(Lib.cut line [32]).2.1.length→kh (fZ (Lib.cut line [32]).2.1 q)=true:=by
 unfold gw
 simp[aa2]
end
structure Rd where
 T:Tb
 st:Int
 told:Int
def P3:Tb:=⟨0,0,0,[]⟩
def Ik:Rd:=⟨⟨1,0,0,[]⟩,0,-1⟩
def JS (b:Bool):Int:=if b=true then 0 else 2
def gT:List UInt8:=[46,116,121,112,101,32]
def Ar (s:List UInt8):Option Nat:=if s=[102]then some 0 else if s=[102,100]then some 1 else if s=[102,114]then some 2 else if s=[102,100,114]then some 3 else none
def ff (r:Rd) (l:List UInt8):Rd×Int:=
 if r.st=0 then (⟨{r.T with ni:=fG l [46,105] 0 8},r.st+1,r.told⟩,JS (decide (fG l [46,105] 0 8≥0)))
 else if r.st=1 then (⟨{r.T with no:=fG l [46,111] 1 4},r.st+1,r.told⟩,JS (decide (fG l [46,111] 1 4≥0)))
 else if r.st=5 then (r,2)
 else if Lib.hasPrefix l gT=true∧r.st=2 then
  match Ar (Lib.trimPrefix l gT)with
  |some k=>(⟨{r.T with kind:=k},3,r.told⟩,0)
  |none=>(⟨r.T,3,r.told⟩,2)
 else if fG l [46,112] 0 64≥0∧r.st≤3 then (⟨r.T,4,fG l [46,112] 0 64⟩,0)
 else if l=[46,101]then (⟨r.T,5,r.told⟩,JS (decide (r.told<0)||decide (r.told=(r.T.ls.length:Int))))
 else if gw r.T.ni r.T.no l=true then (⟨{r.T with ls:=r.T.ls++[pH l]},4,r.told⟩,if r.T.ls.length=64 then 3 else 0)
 else (⟨r.T,4,r.told⟩,2)
section
variable {r:Rd} {l:List UInt8} {i k:Nat}
theorem Uy (h:r.st=0):ff r l=(⟨{r.T with ni:=fG l [46,105] 0 8},r.st+1,r.told⟩,JS (decide (fG l [46,105] 0 8≥0))):=by unfold ff;rw[if_pos h]
theorem VB (h0:¬r.st=0) (h:r.st=1):ff r l=(⟨{r.T with no:=fG l [46,111] 1 4},r.st+1,r.told⟩,JS (decide (fG l [46,111] 1 4≥0))):=by unfold ff;rw[if_neg h0,if_pos h]
theorem Yq (h0:¬r.st=0) (h1:¬r.st=1) (h:r.st=5):ff r l=(r,2):=by unfold ff;rw[if_neg h0,if_neg h1,if_pos h]
theorem HF (hi:i<4) (h:gn.getD i []=l):Ar l=some i:=by
 subst h
 match i,hi with
 |0,_|1,_|2,_|3,_=>decide
theorem GU (h:∀q,q<4→¬gn.getD q []=l):Ar l=none:=by
 unfold Ar
 rw[if_neg λe=>h 0 (by decide) e.symm,if_neg λe=>h 1 (by decide) e.symm,if_neg λe=>h 2 (by decide) e.symm,if_neg λe=>h 3 (by decide) e.symm]
theorem Vf (h0:¬r.st=0) (h1:¬r.st=1) (h5:¬r.st=5) (hp:Lib.hasPrefix l gT=true) (h2:r.st=2) (hi:i<4) (hk:gn.getD i []=Lib.trimPrefix l gT):ff r l=(⟨{r.T with kind:=(i:Int)},3,r.told⟩,0):=by
 unfold ff;rw[if_neg h0,if_neg h1,if_neg h5,if_pos ⟨hp,h2⟩,HF hi hk]
theorem Uj (h0:¬r.st=0) (h1:¬r.st=1) (h5:¬r.st=5) (hp:Lib.hasPrefix l gT=true) (h2:r.st=2) (hk:∀q,q<4→¬gn.getD q []=Lib.trimPrefix l gT):ff r l=(⟨r.T,3,r.told⟩,2):=by
 unfold ff;rw[if_neg h0,if_neg h1,if_neg h5,if_pos ⟨hp,h2⟩,GU hk]
theorem Vt (h0:¬r.st=0) (h1:¬r.st=1) (h5:¬r.st=5) (hp:¬(Lib.hasPrefix l gT=true∧r.st=2)) (hn:fG l [46,112] 0 64≥0) (h3:r.st≤3):ff r l=(⟨r.T,4,fG l [46,112] 0 64⟩,0):=by
 unfold ff;rw[if_neg h0,if_neg h1,if_neg h5,if_neg hp,if_pos ⟨hn,h3⟩]
theorem Rn (h0:¬r.st=0) (h1:¬r.st=1) (h5:¬r.st=5) (hp:¬(Lib.hasPrefix l gT=true∧r.st=2)) (hn:¬(fG l [46,112] 0 64≥0∧r.st≤3)) (he:l=[46,101]):ff r l=(⟨r.T,5,r.told⟩,JS (decide (r.told<0)||decide (r.told=(r.T.ls.length:Int)))):=by
 unfold ff;rw[if_neg h0,if_neg h1,if_neg h5,if_neg hp,if_neg hn,if_pos he]
theorem Qc (h0:¬r.st=0) (h1:¬r.st=1) (h5:¬r.st=5) (hp:¬(Lib.hasPrefix l gT=true∧r.st=2)) (hn:¬(fG l [46,112] 0 64≥0∧r.st≤3)) (he:¬l=[46,101]) (hr:gw r.T.ni r.T.no l=true):ff r l=(⟨{r.T with ls:=r.T.ls++[pH l]},4,r.told⟩,if r.T.ls.length=64 then 3 else 0):=by
 unfold ff;rw[if_neg h0,if_neg h1,if_neg h5,if_neg hp,if_neg hn,if_neg he,if_pos hr]
theorem Jy (h0:¬r.st=0) (h1:¬r.st=1) (h5:¬r.st=5) (hp:¬(Lib.hasPrefix l gT=true∧r.st=2)) (hn:¬(fG l [46,112] 0 64≥0∧r.st≤3)) (he:¬l=[46,101]) (hr:gw r.T.ni r.T.no l=false):ff r l=(⟨r.T,4,r.told⟩,2):=by
 unfold ff;rw[if_neg h0,if_neg h1,if_neg h5,if_neg hp,if_neg hn,if_neg he,if_neg (by rw[hr];decide)]
theorem R9:(ff r l).1.T.ls=r.T.ls∨(ff r l).1.T.ls=r.T.ls++[pH l]∧(gw r.T.ni r.T.no l=true∧(ff r l).2=if r.T.ls.length=64 then 3 else 0):=by
 unfold ff
 by_cases h0:r.st=0;· rw[if_pos h0];exact .inl rfl
 rw[if_neg h0]
 by_cases h1:r.st=1;· rw[if_pos h1];exact .inl rfl
 rw[if_neg h1]
 by_cases h5:r.st=5;· rw[if_pos h5];exact .inl rfl
 rw[if_neg h5]
 by_cases hp:Lib.hasPrefix l gT=true∧r.st=2;· rw[if_pos hp];cases Ar (Lib.trimPrefix l gT)<;>exact .inl rfl
 rw[if_neg hp]
 by_cases hn:fG l [46,112] 0 64≥0∧r.st≤3;· rw[if_pos hn];exact .inl rfl
 rw[if_neg hn]
 by_cases he:l=[46,101];· rw[if_pos he];exact .inl rfl
 rw[if_neg he]
 by_cases hr:gw r.T.ni r.T.no l=true
 ·rw[if_pos hr];exact .inr ⟨rfl,hr,rfl⟩
 ·rw[if_neg hr];exact .inl rfl
theorem E6 (h:r.T.ls.length≤64) (he:(ff r l).2=0):(ff r l).1.T.ls.length≤64:=by
 rcases R9 (r:=r) (l:=l)with h1|⟨h1,_,h2⟩
 ·rw[h1];exact h
 ·rw[h2]at he
  split at he
  ·cases he
  ·rw[h1,An,abp];omega
end
def ws (Tr Tl Ti:TypeId) (N:Nat) (w:World) (br:Nat) (r:Rd):Prop:=
 ∃lv vs,At w br #[.int .i64 r.T.kind, .int .i64 r.T.ni, .int .i64 r.T.no,lv, .int .i64 r.st, .int .i64 r.told] Tr∧cH ik 3 Tl w N lv vs∧f6 Ti N w vs r.T.ls
section
variable {Tr Tl Ti T':TypeId} {N N' br:Nat} {w w' W:World} {r:Rd}
theorem ws.ext (h:dC w w') (k:ws Tr Tl Ti N w br r):ws Tr Tl Ti N w' br r:=by
 obtain⟨lv,vs,h1,h2,h3⟩:=k
 exact⟨lv,vs,h.at h1,h.ow h2,h3.ext h⟩
theorem At.rd {b:Nat} {c:Array Value} {T:TypeId} (hR:ws Tr Tl Ti N w br r) (hX:Dx Tl N [br] w w') (k:At w b c T) (h1:T≠Tl) (h2:T≠Tr):At w' b c T:=by
 obtain⟨lv,vs,a1,_,_⟩:=hR
 have hne:=ac6 k a1 h2
 unfold At at*
 rw[hX.block b (gQ k) (.inr ⟨by simpa using hne,λc' fr e=>by rw[k]at e;simp at e;exact h1 e.2.1⟩)]
 exact k
theorem cH.rd {α:Type} {enc:α→List Value} {sz:Nat} {T:TypeId} {v:Value} {l:List α} (hR:ws Tr Tl Ti N w br r) (hX:Dx Tl N [br] w w') (ho:cH enc sz T w N' v l) (h1:T≠Tl) (h2:T≠Tr):cH enc sz T w' N' v l:=by
 obtain⟨q1,q2|⟨g,cap,cur,q3,hg,hh,q⟩⟩:=ho
 ·exact⟨q1, .inl q2⟩
 ·exact⟨q1, .inr ⟨g,cap,cur,q3,hg,At.rd (c:=cur) hR hX hh h1 h2,q⟩⟩
end
def oO (l:List UInt8):Bool:=decide (l=[])||decide (fZ l 0=35)
def kX (r:Rd) (l:List UInt8):Rd:=if oO l=true then r else (ff r l).1
def lx (r:Rd) (l:List UInt8):Int:=if oO l=true then 0 else (ff r l).2
def iz (ls:List (List UInt8)) (k:Nat):Rd:=(ls.take k).foldl kX Ik
def Cx (ls:List (List UInt8)) (n:Nat):Option Nat:=(List.range n).find? λk=>decide (lx (iz ls k) (ls.getD k [])≠0)
def cF (s:List UInt8):Tb×Nat×Int:=
 if 8000<s.length then (P3,0,3)
 else match Cx (cN s) ((cN s).length-1)with
  |some k=>(P3,k,lx (iz (cN s) k) ((cN s).getD k []))
  |none=>if (cN s).getD ((cN s).length-1) []≠[]then (P3,(cN s).length-1,2)
   else if (iz (cN s) ((cN s).length-1)).st≠5 then (P3,(cN s).length-1,7)
   else ((iz (cN s) ((cN s).length-1)).T,0,0)
section
variable {ls:List (List UInt8)} {s:List UInt8} {k n:Nat} {r:Rd} {l:List UInt8}
theorem EY:iz ls 0=Ik:=rfl
theorem mD (h:k<ls.length):iz ls (k+1)=kX (iz ls k) (ls.getD k []):=by
 unfold iz
 rw[abt,we h,List.foldl_append,me,we h]
 rfl
theorem jh (h:oO l=true):kX r l=r∧lx r l=0:=by unfold kX lx;rw[if_pos h,if_pos h];exact⟨rfl,rfl⟩
theorem fH (h:oO l=false):kX r l=(ff r l).1∧lx r l=(ff r l).2:=by unfold kX lx;rw[if_neg (by rw[h];decide),if_neg (by rw[h];decide)];exact⟨rfl,rfl⟩
theorem uS (h:l=[]):oO l=true:=by rw[h];rfl
theorem su (h:((fZ l 0:Nat):Int)=35):oO l=true:=by unfold oO;rw[decide_eq_true (show fZ l 0=35 by omega),Bool.or_true]
theorem mR (h:¬l=[]) (h2:¬((fZ l 0:Nat):Int)=35):oO l=false:=by unfold oO;rw[decide_eq_false h,decide_eq_false (show ¬fZ l 0=35 by omega)];rfl
theorem NL (hk:k<n) (h:∀q,q<k→lx (iz ls q) (ls.getD q [])=0) (he:¬lx (iz ls k) (ls.getD k [])=0):Cx ls n=some k:=by
 unfold Cx
 rw[List.find?_range_eq_some]
 refine⟨by simpa using he,aba.2 hk,λj hj=> ?_⟩
 simpa using h j hj
theorem yX (h:∀q,q<n→lx (iz ls q) (ls.getD q [])=0):Cx ls n=none:=by
 unfold Cx
 rw[List.find?_eq_none]
 intro k hk
 simpa using h k (aba.1 hk)
theorem K4 (h:Cx ls n=none):∀q,q<n→lx (iz ls q) (ls.getD q [])=0:=by
 intro q hq
 unfold Cx at h
 rw[List.find?_eq_none]at h
 simpa using h q (aba.2 hq)
theorem Pc (h:∀q,q<k→lx (iz ls q) (ls.getD q [])=0) (hk:k≤ls.length):(iz ls k).T.ls.length≤64:=by
 induction k with
 |zero=>rw[EY];decide
 |succ k ih=>
  rw[mD (by omega)]
  have h1:=ih (λq hq=>h q (by omega)) (by omega)
  have h2:=h k (by omega)
  cases hs:oO (ls.getD k [])with
  |true=>rw[(jh hs).1];exact h1
  |false=>rw[(fH hs).1];rw[(fH hs).2]at h2;exact E6 h1 h2
theorem Bj:∀(s l:List UInt8),l∈cN s→l.length≤s.length
 |[],l,h=>by
  rw[cN,aaL]at h
  rw[h];exact am _
 |b::r,l,h=>by
  have ih:=Bj r
  unfold cN at h
  by_cases hb:b=10
  ·rw[if_pos hb]at h
   rcases abl.1 h with rfl|h
   ·exact my _
   ·have:=ih l h;simp only[aa5];omega
  ·rw[if_neg hb]at h
   cases hl:cN r with
   |nil=>exact absurd hl (l7 r)
   |cons a t=>
    rw[hl]at h ih
    simp only at h
    rcases abl.1 h with rfl|h
    ·have:=ih a (aa9);simp only[aa5];omega
    ·have:=ih l (abf _ h);simp only[aa5];omega
theorem Hp (s:List UInt8) (k:Nat):((cN s).getD k []).length≤s.length:=by
 rw[me]
 cases h:(cN s)[k]? with
 |none=>exact my _
 |some l=>exact Bj s l (List.mem_of_getElem? h)
theorem wO (s:List UInt8):(cN s).length≤s.length+1:=by
 induction s with
 |nil=>exact am _
 |cons b r ih=>
  unfold cN
  by_cases hb:b=10
  ·rw[if_pos hb];simp only[aa5];omega
  ·rw[if_neg hb]
   cases hl:cN r with
   |nil=>exact absurd hl (l7 r)
   |cons a t=>rw[hl]at ih;simp only[aa5]at*;omega
theorem yt (h:8000<s.length):cF s=(P3,0,3):=by unfold cF;rw[if_pos h]
theorem IU (h:¬8000<s.length) (hn:(cN s).length=n+1) (hk:k<n) (hq:∀q,q<k→lx (iz (cN s) q) ((cN s).getD q [])=0) (he:¬lx (iz (cN s) k) ((cN s).getD k [])=0):cF s=(P3,k,lx (iz (cN s) k) ((cN s).getD k [])):=by
 unfold cF
 rw[if_neg h,show (cN s).length-1=n by omega,NL hk hq he]
theorem zM (h:¬8000<s.length) (hn:(cN s).length=n+1) (hq:∀q,q<n→lx (iz (cN s) q) ((cN s).getD q [])=0) (he:¬(cN s).getD n []=[]):cF s=(P3,n,2):=by
 unfold cF
 rw[if_neg h,show (cN s).length-1=n by omega,yX hq]
 simp only[]
 rw[if_pos he]
theorem yr (h:¬8000<s.length) (hn:(cN s).length=n+1) (hq:∀q,q<n→lx (iz (cN s) q) ((cN s).getD q [])=0) (he:(cN s).getD n []=[]) (h5:¬(iz (cN s) n).st=5):cF s=(P3,n,7):=by
 unfold cF
 rw[if_neg h,show (cN s).length-1=n by omega,yX hq]
 simp only[]
 rw[if_neg (λe=>e he),if_pos h5]
theorem Dv (h:¬8000<s.length) (hn:(cN s).length=n+1) (hq:∀q,q<n→lx (iz (cN s) q) ((cN s).getD q [])=0) (he:(cN s).getD n []=[]) (h5:(iz (cN s) n).st=5):cF s=((iz (cN s) n).T,0,0):=by
 unfold cF
 rw[if_neg h,show (cN s).length-1=n by omega,yX hq]
 simp only[]
 rw[if_neg (λe=>e he),if_neg (λe=>e h5)]
theorem FQ (h:ls.length=n+1):((ls.drop 0).take (n-0)).length=n:=by simp;omega
theorem KY (l:List (List UInt8)) (h:k<n):((l.drop 0).take (n-0)).getD k []=l.getD k []:=by
 rw[List.drop_zero,acC,me,me,List.getElem?_take_of_lt h]
end
end
section
open Go Go.RowKit
theorem Uv:cX Tryz.prog 91=true:=by kernel_rfl
theorem RZ:cX Tryz.prog 166=true:=by kernel_rfl
theorem ia:d5 Tryz.prog 114 0=some 0:=by kernel_rfl
theorem pn:(Tryz.prog.info? 34).map (·.size)=some 2:=by kernel_rfl
theorem sx:(Tryz.prog.info? 35).map (·.size)=some 1:=by kernel_rfl
theorem qm {f:Nat→Value} {w:World} {d:Option Nat} {ty:TypeId} {ps:String} {af:Array Edge} {g:Option (Nat×Bool)} {x0:Operand} {c0_0 c0_1:Value} (h0:dk f x0= .agg #[c0_0,c0_1]):
    (execOp (dk f) ⟨d, .build 37 #[(0,x0)],ty,ps,af,g⟩).run Tryz.prog w= .ok (.value (.agg #[c0_0,c0_1, .slice none 0 0])) w:=by
  obtain⟨i0,hi0,hz0⟩:=Do.1 (show (Tryz.prog.info? 37).bind (·.zero)=_ from oZ)
  obtain⟨j34,hj34,hs34⟩:=an.1 pn
  obtain⟨j35,hj35,hs35⟩:=an.1 sx
  simp[execOp,h0,Instr.build,zeroValue,typeInfo,sizeOf,hi0,hz0,run_underlying Tryz.underlying37,Instr.fill,d7,hj34,hs34,hj35,hs35]
theorem oQ:(dW Tryz.prog 37).map (λz=>z.cells.size)=some 3:=by kernel_rfl
theorem hU:d5 Tryz.prog 114 1=some 4:=by kernel_rfl
theorem D0:cX Tryz.prog 124=true:=by kernel_rfl
theorem yn:cX Tryz.prog 123=true:=by kernel_rfl
theorem t7:d5 Tryz.prog 114 2=some 5:=by kernel_rfl
theorem QZ:cX Tryz.prog 126=true:=by kernel_rfl
theorem qu:dW Tryz.prog 24=some (.agg #[.int .i64 0, .int .i64 0, .int .i64 0, .slice none 0 0]):=by kernel_rfl
theorem fN:(Tryz.prog.info? 3).map (·.size)=some 1:=by kernel_rfl
theorem wn:(Tryz.prog.info? 22).map (·.size)=some 1:=by kernel_rfl
theorem gS {f:Nat→Value} {w:World} {d:Option Nat} {ty:TypeId} {ps:String} {af:Array Edge} {g:Option (Nat×Bool)}:
    (execOp (dk f) ⟨d, .build 24 #[],ty,ps,af,g⟩).run Tryz.prog w= .ok (.value (.agg #[.int .i64 0, .int .i64 0, .int .i64 0, .slice none 0 0])) w:=by
  obtain⟨i0,hi0,hz0⟩:=Do.1 (show (Tryz.prog.info? 24).bind (·.zero)=_ from qu)
  obtain⟨j3,hj3,hs3⟩:=an.1 fN
  obtain⟨j22,hj22,hs22⟩:=an.1 wn
  simp[execOp,Instr.build,zeroValue,typeInfo,sizeOf,hi0,hz0,run_underlying Tryz.underlying24,Instr.fill,d7,hj3,hs3,hj22,hs22]
theorem uV {f:Nat→Value} {w:World} {d:Option Nat} {ty:TypeId} {ps:String} {af:Array Edge} {g:Option (Nat×Bool)} {x0:Operand} {c0_0:Value} (h0:dk f x0=c0_0) (k0:c0_0.cells= #[c0_0]):
    (execOp (dk f) ⟨d, .build 24 #[(0,x0)],ty,ps,af,g⟩).run Tryz.prog w= .ok (.value (.agg #[c0_0, .int .i64 0, .int .i64 0, .slice none 0 0])) w:=by
  obtain⟨i0,hi0,hz0⟩:=Do.1 (show (Tryz.prog.info? 24).bind (·.zero)=_ from qu)
  obtain⟨j3,hj3,hs3⟩:=an.1 fN
  obtain⟨j22,hj22,hs22⟩:=an.1 wn
  simp[execOp,h0,k0,Instr.build,zeroValue,typeInfo,sizeOf,hi0,hz0,run_underlying Tryz.underlying24,Instr.fill,d7,hj3,hs3,hj22,hs22]
theorem Qn:dW Tryz.prog 114=some (.agg #[.int .i64 0, .int .i64 0, .int .i64 0, .slice none 0 0, .int .i64 0, .int .i64 0]):=by kernel_rfl
theorem Bn:(Tryz.prog.info? 24).map (·.size)=some 4:=by kernel_rfl
theorem xy {f:Nat→Value} {w:World} {d:Option Nat} {ty:TypeId} {ps:String} {af:Array Edge} {g:Option (Nat×Bool)} {x0 x1:Operand} {c0_0 c0_1 c0_2 c0_3 c1_0:Value} (h0:dk f x0= .agg #[c0_0,c0_1,c0_2,c0_3]) (h1:dk f x1=c1_0) (k1:c1_0.cells= #[c1_0]):
    (execOp (dk f) ⟨d, .build 114 #[(0,x0),(2,x1)],ty,ps,af,g⟩).run Tryz.prog w= .ok (.value (.agg #[c0_0,c0_1,c0_2,c0_3, .int .i64 0,c1_0])) w:=by
  obtain⟨i0,hi0,hz0⟩:=Do.1 (show (Tryz.prog.info? 114).bind (·.zero)=_ from Qn)
  obtain⟨j3,hj3,hs3⟩:=an.1 fN
  obtain⟨j24,hj24,hs24⟩:=an.1 Bn
  simp[execOp,h0,h1,k1,Instr.build,zeroValue,typeInfo,sizeOf,hi0,hz0,run_underlying Tryz.underlying114,Instr.fill,d7,hj3,hs3,hj24,hs24]
theorem UA:cX Tryz.prog 58=true:=by kernel_rfl
theorem UF:cX Tryz.prog 59=true:=by kernel_rfl
theorem sY (N br:Nat) (r:Rd) (line:List UInt8) (w:World) (hN0:N≤w.heap.size) (hgl:∀W,Below N w W→Gl W) (hl:line.length≤10000) (lob:N≤br) (h64:r.T.ls.length≤64) (hR:ws 114 37 3 N w br (r)):
    lc Tryz.prog 126 #[.pointer (some ⟨br,0,none⟩),dY line] w λv w'=>Dx 37 N [br] w w'∧((gw r.T.ni r.T.no line=true∧v= .bool true∧ws 114 37 3 N w' br (⟨{r.T with ls:=r.T.ls++[pH line]},r.st,r.told⟩))∨(gw r.T.ni r.T.no line=false∧v= .bool false∧ws 114 37 3 N w' br (r))):=by
 refine dK (n:=88) (N:=N) Tryz.func126 rfl rfl rfl λhB=> ?_
 have hX:Dx 37 N [br] w w:=Dx.refl
 obtain⟨lv,vs,hrd,hlv,hls⟩:=hR
 have hlen:=hls.len
 have hbl:=(QX line [32]).2
 refine Zr<|Zb rfl<|ct<|Zr<|Zw (.string _) rfl<|ZC Uv (AU _ _ _ (hgl _ hB) (by omega)) rfl λaO W5 Y ae=> ?_
 obtain⟨hrd,hlv,hls,hX⟩:=Y.k4 hrd hlv hls hX
 replace hB:=cW hB Y hN0
 obtain rfl:=ae
 refine Zw (.tuple #[.string _, .string _, .bool _]) rfl<|Zv (gR rfl)<|Zv (jm rfl)<|Zv (iQ rfl)<|Zw (.string _) rfl<|Zw (.string _) rfl<|Zb rfl<|ct ?_
 have f:=hB
 replace hB:=Below.refl W5.heap.size W5
 refine Zr<|Zw (.string _) rfl<|ZC RZ (CL _ _) rfl λaP aQ af z=> ?_
 replace hB:=Ze hB af
 by_cases hcub2_1:jy (Lib.cut line [32]).1=true
 rw[if_pos hcub2_1]at z
 obtain rfl:=z
 refine Zw (.tuple #[.agg #[_,_], .int .i64 0]) rfl<|Zv (cZ rfl)<|Zv (c7 rfl)<|Zy (cK gU rfl λZ aR ag ah d=> ?_)
 have J:=ZO ag hB
 replace hB:=Ze hB ah
 refine Zy (cA rfl rfl dh rfl d rfl rfl λaS ai aj=> ?_)
 replace hB:=Zg hB ai J
 replace d:=aj
 refine ZZ rfl<|Zq<|Zr<|Zb rfl<|Zv (eR rfl)<|ZX rfl (λg=> ?_) λg=> ?_
 refine Zs<|Zs<|Zb rfl<|Zb rfl<|Zs<|Zs<|Zs<|Zs<|Zs<|Zs<|Zs<|Zs<|Zb rfl<|Zb rfl ?_
 refine Zs<|Zs<|Zs<|Zs<|Zs<|Zs<|Zs<|Zs<|Zb rfl<|ct<|cQ rfl<|Zr<|Zb rfl<|ct ?_
 refine nX ?_
 replace hrd:=On hB hrd
 replace hlv:=Below.ow hB hlv
 replace hls:=f6.below hB hls
 replace hX:=Dx.trans hX (Dx.below hB)
 have hzs:=go hN0 (Below.size f)
 repeat (first|refine d9 ?_|refine dO ?_)
 refine df (v:= .bool false) rfl ?_
 refine⟨hX, .inr ⟨?_,rfl,⟨lv,vs,hrd,hlv,hls⟩⟩⟩
 exact L9 g
 refine Zi rfl<|Zv (e7 rfl rfl)<|Zb rfl<|ZX rfl (λo=> ?_) λo=> ?_
 exact(o rfl).elim
 refine Zw (.string _) rfl<|Zv (mZ rfl Tryz.underlying9)<|Zp rfl<|Zc rfl<|Zf rfl ia<|Zf rfl fT<|Zl rfl cR (On hB hrd) rfl<|Zv (e7 rfl rfl)<|Zb rfl<|ZX rfl (λK=> ?_) λK=> ?_
 refine Zs<|Zs<|Zs<|Zs<|Zs<|Zs<|Zs<|Zs<|Zb rfl<|ct<|cQ rfl<|Zr<|Zb rfl<|ct ?_
 refine nX ?_
 replace hrd:=On hB hrd
 replace hlv:=Below.ow hB hlv
 replace hls:=f6.below hB hls
 replace hX:=Dx.trans hX (Dx.below hB)
 have hzs:=go hN0 (Below.size f)
 repeat (first|refine d9 ?_|refine dO ?_)
 refine df (v:= .bool false) rfl ?_
 refine⟨hX, .inr ⟨?_,rfl,⟨lv,vs,hrd,hlv,hls⟩⟩⟩
 exact V2 K
 refine Zw (.string _) rfl<|Zv (mZ rfl Tryz.underlying9)<|Zp rfl<|Zc rfl<|Zf rfl ia<|Zf rfl gD<|Zl rfl cR (On hB hrd) rfl<|Zv (e7 rfl rfl)<|Zb rfl<|ct<|ZQ rfl (λL=> ?_) λL=> ?_
 refine Zr<|Zb rfl<|ct ?_
 refine nX ?_
 replace hrd:=On hB hrd
 replace hlv:=Below.ow hB hlv
 replace hls:=f6.below hB hls
 replace hX:=Dx.trans hX (Dx.below hB)
 have hzs:=go hN0 (Below.size f)
 repeat (first|refine d9 ?_|refine dO ?_)
 refine df (v:= .bool false) rfl ?_
 refine⟨hX, .inr ⟨?_,rfl,⟨lv,vs,hrd,hlv,hls⟩⟩⟩
 exact Vb L
 refine cx<|Zr<|Zv (cz rfl dh rfl d)<|Zv (qm (h0:=rfl))<|Zy (cK oZ rfl λak aT al ao c=> ?_)
 have A:=ZO al hB
 obtain⟨hB,d⟩:=ao.k2 hB d
 refine Zy (cA rfl rfl f7 rfl c rfl rfl λaU aa ap=> ?_)
 replace hB:=Zg hB aa A
 replace d:=At.grownAt d c aa Dd
 replace c:=ap
 refine ct<|Zq<|Zr<|Zw (.string _) rfl<|Zy (FU rfl Tryz.underlying9 λaq aV ar au av=> ?_)
 have aw:=ZO ar hB
 obtain⟨hB,d,c⟩:=au.k3 hB d c
 refine ct<|cy ?_
 refine cY (σ:=(Nat)×(Value)) [4,4,12,12,54,75] (λ(i,ov)=>[]) (λsg W=>match sg with|(i,ov)=>(Below W5.heap.size W5 W)∧(At W Z _ 34)∧(qZ W aq (Lib.cut line [32]).2.1 i)∧(At W ak #[.int .u8 ((pb (Lib.cut line [32]).1).m:Int), .int .u8 ((pb (Lib.cut line [32]).1).v:Int),ov] 37)∧(cH dT 1 3 W W5.heap.size ov (iE ((Lib.cut line [32]).2.1.take i)))∧(i≤(Lib.cut line [32]).2.1.length)∧(∀q,q<i→kh (fZ (Lib.cut line [32]).2.1 q)=true)∧(True)) (λ(i,ov)=>(Lib.cut line [32]).2.1.length-i) ((0, .slice none 0 0)) trivial ⟨hB,d,av,c,cH.nil,(my _),eT,trivial⟩ ?_
 rintro⟨i,ov⟩ aW aX ⟨hB,d,hit,c,hov,hi,hq,_⟩ aY M
 refine Zr ?_
 refine gM (dd:=some 54) rfl rfl rfl (IQ rfl hit (λaZ=> ?_) (λab O a0 ax a1 ay B az=> ?_))
 refine Zv (sd rfl)<|ct<|Zq<|dH rfl<|cT ?_
 replace hrd:=On hB hrd
 replace hlv:=Below.ow hB hlv
 replace hls:=f6.below hB hls
 replace hX:=Dx.trans hX (Dx.below hB)
 have hzs:=go hN0 (Below.size f)
 replace hov:=cH.mono hov hzs
 replace hB:=Below.trans f (Below.mono hB hzs)
 have hie:i=(Lib.cut line [32]).2.1.length:=by omega
 subst hie
 rw[aa7]at hov
 refine Zd (λa b=>a.grownBy b lv.ownBlock) λaA P=> ?_
 obtain⟨hrd,hlv,hls,hX⟩:=P.k4 hrd hlv hls hX
 replace hB:=cW hB P hN0
 obtain⟨c,hov⟩:=P.k2 c hov
 have aB:=hlv
 have hS:=World.grownBy.refl aA lv.ownBlock
 refine Tq 0 rfl rfl hS<|Tq 1 rfl rfl hS<|Tc 2 rfl rfl hS<|Tf 3 rfl rfl ia hS<|Tf 4 rfl rfl fW hS<|Tk 5 rfl (λ_ hq=>cD (v:=lv) rfl iU (At.cell (At.grownOw hrd aB hq Dd) rfl)) hS ?_
 refine iY (dd:=some 82) 6 ka rfl rfl rfl rfl (Yd.val (cz rfl f7 rfl c) ⟨.inl hS,?_⟩)
 refine To 7 rfl (eC (u:= .agg #[_,_,_]) rfl gY oQ rfl Dd Dd λaC a2 a3 p aD=>⟨.inl (cB hS (dC.grown p lv.ownBlock)),?_⟩)
 obtain⟨hrd,hlv,hls,hX⟩:=p.k4 hrd hlv hls hX
 replace hB:=cW hB p hN0
 replace hov:=p.ow hov
 replace hS:=cB hS (dC.grown p lv.ownBlock)
 refine To 8 rfl (dR (v:=lv) (v2:= .slice (some ⟨aC,0,none⟩) 1 1) rfl rfl gY oQ Dd hlv (eK aD rfl) (oV (dp.one (cH.sl hov))) (mV hB) Om Om λaE a4 h j=>⟨.inl (cB hS h),?_⟩)
 replace hS:=cB hS h
 replace j:=cH.snoc (enc:=ik) (x:=⟨pb (Lib.cut line [32]).1,ov⟩) rfl rfl rfl rfl j
 replace hrd:=At.grownOw hrd hlv h Dd
 replace hls:=f6.grownOw hls hlv h Dd
 replace hX:=Dx.trans hX (Dx.row hlv h)
 replace hov:=cH.grownOw hov hlv h Dd
 refine Tc 9 rfl rfl hS<|Tf 10 rfl rfl ia hS<|Tf 11 rfl rfl fW hS<|To 12 rfl (db (v:=aE) rfl rfl iU (dp.one j.sl) hrd fD λa5 C aF=>⟨.inr ka,?_⟩)
 replace hls:=f6.grownAt hls hrd C Dd
 replace hX:=Dx.trans hX (Dx.grown C fD lob)
 replace hov:=cH.grownAt hov hrd C Dd
 replace j:=cH.grownAt j hrd C Dd
 replace hrd:=aF
 replace hrd:At _ _ #[_,_,_,_,_,_] _:=hrd
 refine Td<|Zr<|Zb rfl<|ct<|Zt<|df (v:= .bool true) rfl ?_
 exact⟨hX, .inl ⟨YC g hcub2_1 K L hq,rfl,⟨_,_,hrd,j,f6.snoc (l:=pH line) hls rfl hov⟩⟩⟩
 replace hB:=Zg hB B aw
 replace d:=ac3 d hit B
 replace c:=ac3 c hit B
 replace hov:=ado hov hit B
 replace hit:=az
 refine Zv (gR rfl)<|ct<|Zq<|cQ rfl<|cx<|cy<|Zr<|Zv (iQ rfl)<|ZZ rfl<|Zr<|ZZ rfl ?_
 refine cy<|Zq<|Zr<|Zv (dJ rfl rfl)<|Zb rfl<|ct<|ZQ rfl (λQ=> ?_) λQ=> ?_
 refine cx<|ZQ rfl (λs=> ?_) λs=> ?_
 refine cI<|Zf rfl gX<|ZL ov rfl fp c rfl<|Zi rfl<|Zv (F4 (n:=48) rfl rfl rfl Om Om)<|Zv (i7 rfl Tryz.underlying21 Tryz.underlying3 pZ)<|Zy (eC (u:= .int .i64 _) rfl cV eL rfl Dd Dd λR a6 a7 S U=> ?_)
 obtain⟨hB,d⟩:=S.k2 hB d
 replace hit:=S.itW hit
 obtain⟨c,hov⟩:=S.k2 c hov
 refine Zy (dR (v:=ov) (v2:= .slice (some ⟨R,0,none⟩) 1 1) rfl rfl cV eL Dd hov (eK U rfl) rfl (mV hB) xo xo λt a8 D e=> ?_)
 replace e:=cH.snoc (enc:=dT) (x:=_) rfl rfl rfl rfl e
 replace hB:=ZG hB D hov
 replace d:=At.grownOw d hov D Dd
 replace hit:=qZ.grownOw hit hov D
 replace c:=At.grownOw c hov D Dd
 refine Zf rfl gX<|Zy (db (v:=t) rfl rfl fp (dp.one e.sl) c fD λa9 E aG=> ?_)
 replace hB:=Zg hB E A
 replace d:=At.grownAt d c E Dd
 replace hit:=qZ.grownAt hit c E
 replace e:=cH.grownAt e c E Dd
 replace c:=aG
 replace c:At _ _ #[_,_,_] _:=c
 refine ct ?_
 have hbn:(fZ (Lib.cut line [32]).2.1 i=49∨fZ (Lib.cut line [32]).2.1 i=48∨fZ (Lib.cut line [32]).2.1 i=45)∧O=i+1:=by omega
 obtain⟨y,hn⟩:=hbn
 subst hn
 refine M _ _ ((i+1,t)) ?_ ?_ ?_ ?_
 · repeat (first|exact dD.mask _ _ _|refine acx ?_ rfl _|refine aco ?_ _ rfl|refine acg rfl ?_)
 · exact trivial
 · exact⟨hB,d,hit,(by exact c),(by (rw[qg (by omega) (NB (r:=ab) (by omega) (by omega))];exact e)),(by omega),(d6 hq (BE y)),trivial⟩
 · show (Lib.cut line [32]).2.1.length-(i+1)<(Lib.cut line [32]).2.1.length-i;omega
 exact absurd Q s
 refine cI<|Zv (dJ rfl rfl)<|Zb rfl<|ct<|ZQ rfl (λs=> ?_) λs=> ?_
 refine cI<|Zf rfl gX<|ZL ov rfl fp c rfl<|Zi rfl<|Zv (F4 (n:=48) rfl rfl rfl Om Om)<|Zv (i7 rfl Tryz.underlying21 Tryz.underlying3 pZ)<|Zy (eC (u:= .int .i64 _) rfl cV eL rfl Dd Dd λR ba bb V U=> ?_)
 obtain⟨hB,d⟩:=V.k2 hB d
 replace hit:=V.itW hit
 obtain⟨c,hov⟩:=V.k2 c hov
 refine Zy (dR (v:=ov) (v2:= .slice (some ⟨R,0,none⟩) 1 1) rfl rfl cV eL Dd hov (eK U rfl) rfl (mV hB) xo xo λt bc F e=> ?_)
 replace e:=cH.snoc (enc:=dT) (x:=_) rfl rfl rfl rfl e
 replace hB:=ZG hB F hov
 replace d:=At.grownOw d hov F Dd
 replace hit:=qZ.grownOw hit hov F
 replace c:=At.grownOw c hov F Dd
 refine Zf rfl gX<|Zy (db (v:=t) rfl rfl fp (dp.one e.sl) c fD λbd G aH=> ?_)
 replace hB:=Zg hB G A
 replace d:=At.grownAt d c G Dd
 replace hit:=qZ.grownAt hit c G
 replace e:=cH.grownAt e c G Dd
 replace c:=aH
 replace c:At _ _ #[_,_,_] _:=c
 refine ct ?_
 have hbn:(fZ (Lib.cut line [32]).2.1 i=49∨fZ (Lib.cut line [32]).2.1 i=48∨fZ (Lib.cut line [32]).2.1 i=45)∧O=i+1:=by omega
 obtain⟨y,hn⟩:=hbn
 subst hn
 refine M _ _ ((i+1,t)) ?_ ?_ ?_ ?_
 · repeat (first|exact dD.mask _ _ _|refine acx ?_ rfl _|refine aco ?_ _ rfl|refine acg rfl ?_)
 · exact trivial
 · exact⟨hB,d,hit,(by exact c),(by (rw[qg (by omega) (NB (r:=ab) (by omega) (by omega))];exact e)),(by omega),(d6 hq (BE y)),trivial⟩
 · show (Lib.cut line [32]).2.1.length-(i+1)<(Lib.cut line [32]).2.1.length-i;omega
 refine Zr<|Zv (dJ rfl rfl)<|Zb rfl<|ct<|ZQ rfl (λac=> ?_) λac=> ?_
 refine cI<|Zf rfl gX<|ZL ov rfl fp c rfl<|Zy (eC (u:= .int .i64 2) rfl cV eL rfl Dd Dd λaI bf bg X aJ=> ?_)
 obtain⟨hB,d⟩:=X.k2 hB d
 replace hit:=X.itW hit
 obtain⟨c,hov⟩:=X.k2 c hov
 refine Zy (dR (v:=ov) (v2:= .slice (some ⟨aI,0,none⟩) 1 1) rfl rfl cV eL Dd hov (eK aJ rfl) rfl (mV hB) xo xo λad bh H k=> ?_)
 replace k:=cH.snoc (enc:=dT) (x:=_) rfl rfl rfl rfl k
 replace hB:=ZG hB H hov
 replace d:=At.grownOw d hov H Dd
 replace hit:=qZ.grownOw hit hov H
 replace c:=At.grownOw c hov H Dd
 refine Zf rfl gX<|Zy (db (v:=ad) rfl rfl fp (dp.one k.sl) c fD λbi I aK=> ?_)
 replace hB:=Zg hB I A
 replace d:=At.grownAt d c I Dd
 replace hit:=qZ.grownAt hit c I
 replace k:=cH.grownAt k c I Dd
 replace c:=aK
 replace c:At _ _ #[_,_,_] _:=c
 refine ct ?_
 have hbn:(fZ (Lib.cut line [32]).2.1 i=49∨fZ (Lib.cut line [32]).2.1 i=48∨fZ (Lib.cut line [32]).2.1 i=45)∧O=i+1:=by omega
 obtain⟨y,hn⟩:=hbn
 subst hn
 refine M _ _ ((i+1,ad)) ?_ ?_ ?_ ?_
 · repeat (first|exact dD.mask _ _ _|refine acx ?_ rfl _|refine aco ?_ _ rfl|refine acg rfl ?_)
 · exact trivial
 · exact⟨hB,d,hit,(by exact c),(by (rw[qg (by omega) (Vm (by omega))];exact k)),(by omega),(d6 hq (BE y)),trivial⟩
 · show (Lib.cut line [32]).2.1.length-(i+1)<(Lib.cut line [32]).2.1.length-i;omega
 refine Zr<|Zb rfl<|ct ?_
 refine nX ?_
 replace hrd:=On hB hrd
 replace hlv:=Below.ow hB hlv
 replace hls:=f6.below hB hls
 replace hX:=Dx.trans hX (Dx.below hB)
 have hzs:=go hN0 (Below.size f)
 repeat (first|refine d9 ?_|refine dO ?_)
 refine df (v:= .bool false) rfl ?_
 refine⟨hX, .inr ⟨?_,rfl,⟨lv,vs,hrd,hlv,hls⟩⟩⟩
 exact Vw ax (Jm ay s Q ac)
 rw[if_neg hcub2_1]at z
 obtain rfl:=z
 refine Zw (.tuple #[.agg #[_,_], .int .i64 2]) rfl<|Zv (cZ rfl)<|Zv (c7 rfl)<|Zy (cK gU rfl λZ bj aL aM d=> ?_)
 have J:=ZO aL hB
 replace hB:=Ze hB aM
 refine Zy (cA rfl rfl dh rfl d rfl rfl λbk aN bl=> ?_)
 replace hB:=Zg hB aN J
 refine ZZ rfl<|Zq<|Zr<|Zb rfl<|Zv (eR rfl)<|ZX rfl (λg=> ?_) λg=> ?_
 refine Zs<|Zs<|Zb rfl<|Zb rfl<|Zs<|Zs<|Zs<|Zs<|Zs<|Zs<|Zs<|Zs<|Zb rfl<|Zb rfl ?_
 refine Zs<|Zs<|Zs<|Zs<|Zs<|Zs<|Zs<|Zs<|Zb rfl<|ct<|cQ rfl<|Zr<|Zb rfl<|ct ?_
 refine nX ?_
 replace hrd:=On hB hrd
 replace hlv:=Below.ow hB hlv
 replace hls:=f6.below hB hls
 replace hX:=Dx.trans hX (Dx.below hB)
 have hzs:=go hN0 (Below.size f)
 repeat (first|refine d9 ?_|refine dO ?_)
 refine df (v:= .bool false) rfl ?_
 refine⟨hX, .inr ⟨?_,rfl,⟨lv,vs,hrd,hlv,hls⟩⟩⟩
 exact L9 g
 refine Zi rfl<|Zv (e7 rfl rfl)<|Zb rfl<|ZX rfl (λo=> ?_) λo=> ?_
 refine Zs<|Zs<|Zs<|Zs<|Zs<|Zs<|Zs<|Zs<|Zb rfl<|Zb rfl<|Zs<|Zs<|Zs<|Zs ?_
 refine Zs<|Zs<|Zs<|Zs<|Zb rfl<|ct<|cQ rfl<|Zr<|Zb rfl<|ct ?_
 refine nX ?_
 replace hrd:=On hB hrd
 replace hlv:=Below.ow hB hlv
 replace hls:=f6.below hB hls
 replace hX:=Dx.trans hX (Dx.below hB)
 have hzs:=go hN0 (Below.size f)
 repeat (first|refine d9 ?_|refine dO ?_)
 refine df (v:= .bool false) rfl ?_
 refine⟨hX, .inr ⟨?_,rfl,⟨lv,vs,hrd,hlv,hls⟩⟩⟩
 exact WA hcub2_1
 exact absurd o Dd
theorem rI (N br:Nat) (r:Rd) (line:List UInt8) (w:World) (hN0:N≤w.heap.size) (hgl:∀W,Below N w W→Gl W) (hl:line.length≤10000) (lob:N≤br) (h64:r.T.ls.length≤64) (hR:ws 114 37 3 N w br (r)):
    lc Tryz.prog 59 #[.pointer (some ⟨br,0,none⟩),dY line] w λv w'=>Dx 37 N [br] w w'∧v= .int .i64 (ff r line).2∧ws 114 37 3 N w' br ((ff r line).1):=by
 refine dK (n:=154) (N:=N) Tryz.func59 rfl rfl rfl λhB=> ?_
 have hX:Dx 37 N [br] w w:=Dx.refl
 obtain⟨lv,vs,hrd,hlv,hls⟩:=hR
 have hlen:=hls.len
 refine Zr<|ZZ rfl<|Zr<|Zw (.func (.func 123) #[] #[]) rfl<|ct<|Zq<|Zr<|Zp rfl<|Zc rfl<|Zf rfl hU<|Zl rfl cR hrd rfl<|ct<|cy ?_
 refine Zr<|Zv (dJ rfl rfl)<|Zb rfl<|ct<|ZQ rfl (λa=> ?_) λa=> ?_
 refine Zr<|Zp rfl<|Zw (.string _) rfl<|ZC D0 (qy _ _ _ _ _ (hgl _ hB) pN fD (by omega)) rfl λaw ax Q R=> ?_
 obtain⟨hrd,hlv,hls,hX⟩:=Q.k4 hrd hlv hls hX
 obtain rfl:=R
 refine Zc rfl<|Zf rfl ia<|Zf rfl fT<|Zy (db (v:= .int .i64 _) rfl rfl cR rfl hrd fD λay p S=> ?_)
 replace hlv:=cH.grownAt hlv hrd p Dd
 replace hls:=f6.grownAt hls hrd p Dd
 replace hX:=Dx.trans hX (Dx.grown p fD lob)
 replace hrd:=S
 replace hrd:At _ _ #[_,_,_,_,_,_] _:=hrd
 refine ct<|Zr<|Zp rfl<|Zc rfl<|Zf rfl hU<|Zl rfl cR hrd rfl<|Zv (eB rfl rfl Om Om)<|Zc rfl<|Zf rfl hU<|Zy (db (v:= .int .i64 _) rfl rfl cR rfl hrd fD λaz s U=> ?_)
 replace hlv:=cH.grownAt hlv hrd s Dd
 replace hls:=f6.grownAt hls hrd s Dd
 replace hX:=Dx.trans hX (Dx.grown s fD lob)
 replace hrd:=U
 replace hrd:At _ _ #[_,_,_,_,_,_] _:=hrd
 refine ct<|Zr<|Zw (.func (.func 123) #[] #[]) rfl<|Zp rfl<|Zc rfl<|Zf rfl ia<|Zf rfl fT<|Zl rfl cR hrd rfl<|Zv (kn rfl rfl) ?_
 refine oI (dd:=some 38) rfl rfl rfl (ip (q:=123) (first:= #[]) (cap:= #[]) (vs:= #[.bool _]) rfl yn GD) (io _ _) (λaA aB V X=> ?_)
 obtain⟨hrd,hlv,hls,hX⟩:=V.k4 hrd hlv hls hX
 obtain rfl:=X
 refine ZZ rfl<|Zt<|df (v:= .int .i64 _) rfl ?_
 rw[Uy a]
 exact⟨hX,rfl,⟨lv,vs,hrd,hlv,hls⟩⟩
 refine Zr<|Zv (dJ rfl rfl)<|Zb rfl<|ct<|ZQ rfl (λb=> ?_) λb=> ?_
 refine Zr<|Zp rfl<|Zw (.string _) rfl<|ZC D0 (qy _ _ _ _ _ (hgl _ hB) pN fD (by omega)) rfl λaC aD Y Z=> ?_
 obtain⟨hrd,hlv,hls,hX⟩:=Y.k4 hrd hlv hls hX
 obtain rfl:=Z
 refine Zc rfl<|Zf rfl ia<|Zf rfl gD<|Zy (db (v:= .int .i64 _) rfl rfl cR rfl hrd fD λaE t aa=> ?_)
 replace hlv:=cH.grownAt hlv hrd t Dd
 replace hls:=f6.grownAt hls hrd t Dd
 replace hX:=Dx.trans hX (Dx.grown t fD lob)
 replace hrd:=aa
 replace hrd:At _ _ #[_,_,_,_,_,_] _:=hrd
 refine ct<|Zr<|Zp rfl<|Zc rfl<|Zf rfl hU<|Zl rfl cR hrd rfl<|Zv (eB rfl rfl Om Om)<|Zc rfl<|Zf rfl hU<|Zy (db (v:= .int .i64 _) rfl rfl cR rfl hrd fD λaF u ab=> ?_)
 replace hlv:=cH.grownAt hlv hrd u Dd
 replace hls:=f6.grownAt hls hrd u Dd
 replace hX:=Dx.trans hX (Dx.grown u fD lob)
 replace hrd:=ab
 replace hrd:At _ _ #[_,_,_,_,_,_] _:=hrd
 refine ct<|Zr<|Zw (.func (.func 123) #[] #[]) rfl<|Zp rfl<|Zc rfl<|Zf rfl ia<|Zf rfl gD<|Zl rfl cR hrd rfl<|Zv (kn rfl rfl) ?_
 refine oI (dd:=some 61) rfl rfl rfl (ip (q:=123) (first:= #[]) (cap:= #[]) (vs:= #[.bool _]) rfl yn GD) (io _ _) (λaG aH ac ad=> ?_)
 obtain⟨hrd,hlv,hls,hX⟩:=ac.k4 hrd hlv hls hX
 obtain rfl:=ad
 refine ZZ rfl<|Zt<|df (v:= .int .i64 _) rfl ?_
 rw[VB a b]
 exact⟨hX,rfl,⟨lv,vs,hrd,hlv,hls⟩⟩
 refine Zr<|Zv (dJ rfl rfl)<|Zb rfl<|ct<|ZQ rfl (λc=> ?_) λc=> ?_
 refine Zr<|ZZ rfl<|Zt<|df (v:= .int .i64 2) rfl ?_
 rw[Yq a b c]
 exact⟨hX,rfl,⟨lv,vs,hrd,hlv,hls⟩⟩
 refine cx ?_
 refine qn (σ:=(Unit)) [4,4,6,9,64,95] (λu_=>[]) (λW=>(At W br _ 114)∧(cH ik 3 37 W N lv _)∧(f6 3 N W vs (r.T.ls))∧(Dx 37 N [br] w W)∧(Below N w W)∧(True)) ⟨hrd,hlv,hls,hX,hB,trivial⟩ (λu_ W=>(¬(Lib.hasPrefix line gT=true∧r.st=2))∧(True)) (λaI K=> ?_) ?_
 refine Zr<|Zw (.string _) rfl<|ZC IO (m4 _ _ _) rfl λaJ aK L ae=> ?_
 obtain⟨hrd,hlv,hls,hX⟩:=L.k4 hrd hlv hls hX
 replace hB:=cW hB L hN0
 obtain rfl:=ae
 refine Zw (.tuple #[.string _, .bool _]) rfl<|Zv (cZ rfl)<|Zv (c7 rfl)<|Zw (.string _) rfl<|Zb rfl<|ct<|Zr<|Zb rfl<|ZX rfl (λk=> ?_) λk=> ?_
 refine Zp rfl<|Zc rfl<|Zf rfl hU<|Zl rfl cR hrd rfl<|Zv (dJ rfl rfl)<|Zb rfl<|ct<|ZQ rfl (λl=> ?_) λl=> ?_
 refine Zr<|Zp rfl<|Zc rfl<|Zf rfl hU<|Zy (db (v:= .int .i64 3) rfl rfl cR rfl hrd fD λaL m af=> ?_)
 replace hlv:=cH.grownAt hlv hrd m Dd
 replace hls:=f6.grownAt hls hrd m Dd
 replace hX:=Dx.trans hX (Dx.grown m fD lob)
 replace hB:=dg hB m hN0 (λj hj=>by cases hj;exact lob)
 replace hrd:=af
 replace hrd:At _ _ #[_,_,_,_,_,_] _:=hrd
 refine ct<|Zq<|Zr<|ZC MT (wU _) rfl λx aM M d=> ?_
 have ag:=(go hN0 (Below.size hB))
 obtain⟨hrd,hlv,hls,hX⟩:=M.k4 hrd hlv hls hX
 replace hB:=cW hB M hN0
 replace d:=cH.mono d ag
 refine Zv (de (v:=x) rfl d.sl jO)<|ZZ rfl<|cy ?_
 refine cY (σ:=(Nat)) [4,4,8,9,82,95] (λi=>[(82, .int .i64 (i:Int))]) (λi W=>(At W br _ 114)∧(cH ik 3 37 W N lv _)∧(f6 3 N W vs (r.T.ls))∧(Dx 37 N [br] w W)∧(Below N w W)∧(cH xC 1 9 W N x _)∧(i≤4)∧(∀q,q<i→¬gn.getD q []=Lib.trimPrefix line gT)∧(True)) (λi=>4-i) (0) ⟨rfl,trivial⟩ ⟨hrd,hlv,hls,hX,hB,d,(my _),eT,trivial⟩ ?_
 rintro i aN aO ⟨hrd,hlv,hls,hX,hB,d,hi,hq,_⟩ aP ah
 refine Zr<|Zv (dq rfl rfl)<|ct<|Zq<|ZQ rfl (λy=> ?_) λy=> ?_
 refine cx<|Zq<|cy ?_
 rw[mi]at y
 refine Zr<|Zi rfl<|Zv (dm (v:=x) rfl d.sl rfl jO Om (by (simp only[mi];omega)))<|Zv (cD (v:= .string _) rfl kM (dp.cell d.sl iN [] Om (by (simp only[mi];omega)) 0 rfl))<|Zi rfl<|Zw (.string _) rfl<|ct<|Zr<|Zw (.string _) rfl<|Zw (.string _) rfl<|Zv (pV rfl rfl)<|ct<|ZQ rfl (λz=> ?_) λz=> ?_
 refine Zr<|Zp rfl<|Zi rfl<|Zc rfl<|Zf rfl ia<|Zf rfl mn<|Zy (db (v:= .int .i64 _) rfl rfl cR rfl hrd fD λaQ A ai=> ?_)
 replace hlv:=cH.grownAt hlv hrd A Dd
 replace hls:=f6.grownAt hls hrd A Dd
 replace hX:=Dx.trans hX (Dx.grown A fD lob)
 replace hrd:=ai
 replace hrd:At _ _ #[_,_,_,_,_,_] _:=hrd
 refine ct<|Zr<|ZZ rfl<|Zt<|df (v:= .int .i64 0) rfl ?_
 rw[Vf (i:=i) a b c k l (by omega) z]
 exact⟨hX,rfl,⟨lv,vs,hrd,hlv,hls⟩⟩
 refine cx<|ZT rfl rfl rfl ?_
 exact ah _ _ (i+1) Za ⟨rfl,trivial⟩ ⟨hrd,hlv,hls,hX,hB,d,Om,(d6 hq z),trivial⟩ Zo
 refine cT ?_
 rw[mi]at y
 refine Zr<|ZZ rfl<|Zt<|df (v:= .int .i64 2) rfl ?_
 rw[Uj a b c k l (λq hq'=>hq q (by omega))]
 exact⟨hX,rfl,⟨lv,vs,hrd,hlv,hls⟩⟩
 refine cx ?_
 refine K _ _ (()) ?_ ?_ ?_ ?_
 · repeat (first|exact dD.mask _ _ _|exact dD.refl _ _|refine acx ?_ rfl _|refine aco ?_ _ rfl|refine acg rfl ?_)
 · exact trivial
 · exact⟨hrd,hlv,hls,hX,hB,trivial⟩
 · exact⟨(λe=>l e.2),trivial⟩
 refine Zs<|Zs<|Zs<|Zs<|Zs<|Zb rfl<|ct<|dH rfl<|cx ?_
 refine K _ _ (()) ?_ ?_ ?_ ?_
 · repeat (first|exact dD.mask _ _ _|exact dD.refl _ _|refine acx ?_ rfl _|refine aco ?_ _ rfl|refine acg rfl ?_)
 · exact trivial
 · exact⟨hrd,hlv,hls,hX,hB,trivial⟩
 · exact⟨(λe=>Bool.noConfusion (k.symm.trans e.1)),trivial⟩
 rintro u_ aR aS ⟨hrd,hlv,hls,hX,hB,_⟩ ⟨hpn,_⟩
 refine qn (σ:=(Unit)) [4,4,10,10,96,113] (λu_=>[]) (λW=>(At W br _ 114)∧(cH ik 3 37 W N lv _)∧(f6 3 N W vs (r.T.ls))∧(Dx 37 N [br] w W)∧(Below N w W)∧(True)) ⟨hrd,hlv,hls,hX,hB,trivial⟩ (λu_ W=>(¬(fG line [46,112] 0 64≥0∧r.st≤3))∧(True)) (λaT O=> ?_) ?_
 refine Zr<|Zw (.string _) rfl<|ZC D0 (qy _ _ _ _ _ (hgl _ hB) pN fD (by omega)) rfl λaU aV P aj=> ?_
 obtain⟨hrd,hlv,hls,hX⟩:=P.k4 hrd hlv hls hX
 replace hB:=cW hB P hN0
 obtain rfl:=aj
 refine ZZ rfl<|Zr<|Zi rfl<|Zv (kn rfl rfl)<|ZX rfl (λB=> ?_) λB=> ?_
 refine Zp rfl<|Zc rfl<|Zf rfl hU<|Zl rfl cR hrd rfl<|Zv (tA rfl rfl)<|Zb rfl<|ct<|ZQ rfl (λC=> ?_) λC=> ?_
 refine Zr<|Zp rfl<|Zp rfl<|Zi rfl<|Zc rfl<|Zf rfl t7<|Zy (db (v:= .int .i64 _) rfl rfl cR rfl hrd fD λaW D ak=> ?_)
 replace hlv:=cH.grownAt hlv hrd D Dd
 replace hls:=f6.grownAt hls hrd D Dd
 replace hX:=Dx.trans hX (Dx.grown D fD lob)
 replace hrd:=ak
 replace hrd:At _ _ #[_,_,_,_,_,_] _:=hrd
 refine Zc rfl<|Zf rfl hU<|Zy (db (v:= .int .i64 4) rfl rfl cR rfl hrd fD λaX E al=> ?_)
 replace hlv:=cH.grownAt hlv hrd E Dd
 replace hls:=f6.grownAt hls hrd E Dd
 replace hX:=Dx.trans hX (Dx.grown E fD lob)
 replace hrd:=al
 replace hrd:At _ _ #[_,_,_,_,_,_] _:=hrd
 refine ct<|Zr<|ZZ rfl<|Zt<|df (v:= .int .i64 0) rfl ?_
 (rw[Vt a b c hpn B C];exact⟨hX,rfl,⟨lv,vs,hrd,hlv,hls⟩⟩)
 refine cx ?_
 refine O _ _ (()) ?_ ?_ ?_ ?_
 · repeat (first|exact dD.mask _ _ _|exact dD.refl _ _|refine acx ?_ rfl _|refine aco ?_ _ rfl|refine acg rfl ?_)
 · exact trivial
 · exact⟨hrd,hlv,hls,hX,hB,trivial⟩
 · exact⟨(λe=>C e.2),trivial⟩
 refine Zs<|Zs<|Zs<|Zs<|Zs<|Zb rfl<|ct<|dH rfl<|cx ?_
 refine O _ _ (()) ?_ ?_ ?_ ?_
 · repeat (first|exact dD.mask _ _ _|exact dD.refl _ _|refine acx ?_ rfl _|refine aco ?_ _ rfl|refine acg rfl ?_)
 · exact trivial
 · exact⟨hrd,hlv,hls,hX,hB,trivial⟩
 · exact⟨(λe=>B e.1),trivial⟩
 rintro u_ aY aZ ⟨hrd,hlv,hls,hX,hB,_⟩ ⟨hpp,_⟩
 refine Zr<|Zp rfl<|Zc rfl<|Zf rfl hU<|Zy (db (v:= .int .i64 4) rfl rfl cR rfl hrd fD λa0 o ao=> ?_)
 replace hlv:=cH.grownAt hlv hrd o Dd
 replace hls:=f6.grownAt hls hrd o Dd
 replace hX:=Dx.trans hX (Dx.grown o fD lob)
 replace hB:=dg hB o hN0 (λj hj=>by cases hj;exact lob)
 replace hrd:=ao
 replace hrd:At _ _ #[_,_,_,_,_,_] _:=hrd
 refine ct<|Zq<|Zr<|Zw (.string _) rfl<|Zv (pV rfl rfl)<|ct<|ZQ rfl (λg=> ?_) λg=> ?_
 refine Zr<|Zp rfl<|Zc rfl<|Zf rfl hU<|Zy (db (v:= .int .i64 5) rfl rfl cR rfl hrd fD λa1 F ap=> ?_)
 replace hlv:=cH.grownAt hlv hrd F Dd
 replace hls:=f6.grownAt hls hrd F Dd
 replace hX:=Dx.trans hX (Dx.grown F fD lob)
 replace hrd:=ap
 replace hrd:At _ _ #[_,_,_,_,_,_] _:=hrd
 refine ct<|Zd dC λaq ar=> ?_
 obtain⟨hrd,hlv,hls,hX⟩:=ar.k4 hrd hlv hls hX
 have hS:=dC.refl aq
 refine Tw 0 (.func (.func 123) #[] #[]) rfl rfl hS<|Tq 1 rfl rfl hS<|Tc 2 rfl rfl hS<|Tf 3 rfl rfl t7 hS<|Tk 4 rfl (λ_ hq=>cD (v:= .int .i64 _) rfl cR (At.cell (hq.at hrd) rfl)) hS<|Tk 5 rfl (λ_ _=>dq rfl rfl) hS<|Tx 6 rfl (λ_ _=>jY (v:= .bool _) rfl) hS (λG=> ?_) λG=> ?_
 refine Tp 7 rfl hS<|Tp 8 rfl hS<|Tp 9 rfl hS<|Tp 10 rfl hS<|Tp 11 rfl hS<|Tp 12 rfl hS<|Tp 13 rfl hS<|Tp 14 rfl hS<|Tp 15 rfl hS<|Tp 16 rfl hS<|Tp 17 rfl hS<|Ty 18 rfl rfl hS<|To 19 rfl (Yd.call (ip (q:=123) (first:= #[]) (cap:= #[]) (vs:= #[.bool true]) rfl yn GD) (io _ _) λau a2 H I=>⟨.inl (hS.trans H),?_⟩)
 obtain⟨hrd,hlv,hls,hX⟩:=H.k4 hrd hlv hls hX
 replace hS:=hS.trans H
 obtain rfl:=I
 refine Ti 20 rfl rfl hS<|Td<|Zt<|df (v:= .int .i64 _) rfl ?_
 (rw[Rn a b c hpn hpp g];refine⟨hX,congrArg (Value.int .i64) ?_,⟨lv,vs,hrd,hlv,hls⟩⟩;(rw[decide_eq_true G];rfl))
 refine Tq 7 rfl rfl hS<|Tc 8 rfl rfl hS<|Tf 9 rfl rfl t7 hS<|Tk 10 rfl (λ_ hq=>cD (v:= .int .i64 _) rfl cR (At.cell (hq.at hrd) rfl)) hS<|Tq 11 rfl rfl hS<|Tc 12 rfl rfl hS<|Tf 13 rfl rfl ia hS<|Tf 14 rfl rfl fW hS<|Tk 15 rfl (λ_ hq=>cD (v:=lv) rfl iU (At.cell (hq.at hrd) rfl)) hS<|Tk 16 rfl (λ_ hq=>de (v:=lv) rfl ((hq.ow hlv)).sl gY) hS<|Tk 17 rfl (λ_ _=>dJ rfl rfl) hS<|Ty 18 rfl rfl hS<|To 19 rfl (Yd.call (ip (q:=123) (first:= #[]) (cap:= #[]) (vs:= #[.bool _]) rfl yn GD) (io _ _) λau a3 J I=>⟨.inl (hS.trans J),?_⟩)
 obtain⟨hrd,hlv,hls,hX⟩:=J.k4 hrd hlv hls hX
 replace hS:=hS.trans J
 obtain rfl:=I
 refine Ti 20 rfl rfl hS<|Td<|Zt<|df (v:= .int .i64 _) rfl ?_
 (rw[Rn a b c hpn hpp g];refine⟨hX,congrArg (Value.int .i64) ?_,⟨lv,vs,hrd,hlv,hls⟩⟩;(rw[decide_eq_false G,Bool.false_or,←hlen];rfl))
 refine cx<|Zr<|Zp rfl<|Zc rfl<|Zf rfl ia<|Zf rfl fW<|ZL lv rfl iU hrd rfl<|Zv (de (v:=lv) rfl hlv.sl gY)<|Zv (dJ rfl rfl)<|Zb rfl<|ct<|Zq<|Zr ?_
 refine Zp rfl<|Zw (.string _) rfl<|ZH QZ (sY N br ⟨r.T,4,r.told⟩ line _ (go hN0 (Below.size hB)) (λ_ h=>hgl _ (Below.trans hB h)) hl lob h64 ⟨lv,vs,hrd,hlv,hls⟩) rfl λa4 a5 f=> ?_
 obtain⟨hX33_2,f⟩:=f
 replace hX:=hX.trans hX33_2
 rcases f with f|f
 obtain⟨hrk33_2,rfl,hR33_2⟩:=f
 refine Zv (eR rfl)<|ct<|dH rfl<|cx<|Zq<|Zr<|Zb rfl<|ct<|ZQ rfl (λav=> ?_) λav=> ?_
 refine Zr<|ZZ rfl<|Zt<|df (v:= .int .i64 3) rfl ?_
 (rw[Qc a b c hpn hpp g hrk33_2];refine⟨hX,congrArg (Value.int .i64) ?_,hR33_2⟩;exact(if_pos (by omega)).symm)
 refine cx<|Zr<|ZZ rfl<|Zt<|df (v:= .int .i64 0) rfl ?_
 (rw[Qc a b c hpn hpp g hrk33_2];refine⟨hX,congrArg (Value.int .i64) ?_,hR33_2⟩;exact(if_neg (by omega)).symm)
 obtain⟨hrk33_2,rfl,hR33_2⟩:=f
 refine Zv (eR rfl)<|ct<|cQ rfl<|Zr<|ZZ rfl<|Zt<|df (v:= .int .i64 2) rfl ?_
 (rw[Jy a b c hpn hpp g hrk33_2];exact⟨hX,rfl,hR33_2⟩)
theorem rm (s:List UInt8) (w:World) (hgl:Gl w) (hsl:s.length≤100000):
    Fn Tryz.prog 15 #[dY s] w λv w'=>∃lv vs,v= .tuple #[.agg #[.int .i64 (cF s).1.kind, .int .i64 (cF s).1.ni, .int .i64 (cF s).1.no,lv], .int .i64 ((cF s).2.1:Int), .int .i64 (cF s).2.2]∧cH ik 3 37 w' w.heap.size lv vs∧f6 3 w.heap.size w' vs (cF s).1.ls:=by
 refine cM (n:=68) Tryz.func15 rfl rfl rfl λhB=> ?_
 have hlc:=wO s
 obtain⟨n,hn⟩:∃n,(cN s).length=n+1:=⟨(cN s).length-1,by have:=acp.2 (l7 s);omega⟩
 refine Zr<|Zy (cK qu rfl λA W3 B C a=> ?_)
 have j:=ZO B hB
 replace hB:=Ze hB C
 refine Zi rfl<|ZZ rfl<|Zq<|Zr<|Zw (.string _) rfl<|Zv (mZ rfl Tryz.underlying9)<|Zv (iG rfl rfl)<|ct<|ZQ rfl (λD=> ?_) λD=> ?_
 refine Zr<|Zv (gS)<|Zy (cA rfl rfl dX rfl a rfl rfl λV E F=> ?_)
 replace hB:=Zg hB E j
 replace a:=F
 refine Zi rfl<|ZZ rfl<|Zt<|jK rfl dX a rfl (v1:= .int .i64 0) rfl (v2:= .int .i64 3) rfl ⟨hB,?_⟩
 rw[yt (by omega)]
 exact⟨_,[],rfl,cH.nil,f6.nil⟩
 refine cx<|Zr<|Zv (uV (h0:=rfl) (k0:=rfl) (c0_0:= .int .i64 1))<|Zv (xy (h0:=rfl) (h1:=rfl) (k1:=rfl) (c1_0:= .int .i64 _))<|Zy (dw (c:= #[_,_,_,_,_,_]) rfl rfl λp G H I J=> ?_)
 have K:=ZO H hB
 obtain⟨hB,a⟩:=I.k2 hB a
 refine Zp rfl<|ct ?_
 have hR:ws 114 37 3 w.heap.size G p (Ik):=⟨_,[],J,cH.nil,f6.nil⟩
 refine Zr<|Zw (.string _) rfl<|ZC UA (xD _ _ (Gl.below hB hgl) (by omega)) rfl λb L z d=> ?_
 have M:=(Below.size hB)
 obtain⟨hB,a⟩:=z.k2 hB a
 replace hR:=ws.ext z hR
 replace d:=cH.mono d M
 refine Zw b rfl<|ct<|Zr<|Zw b rfl<|Zv (de (v:=b) rfl d.sl jO)<|Zv (UN rfl rfl hn Om)<|ZZ rfl<|Zq ?_
 have hC:(cN s).length≤jn b:=(Sl.eqv (cH.sl d)).2.1
 refine Zr<|Zw b rfl<|Zi rfl<|Zv (B5 (v:=b) rfl d.sl jO rfl Om Om) ?_
 have e:dp xC 1 L (fV 1 b 0 n (jn b)) (((cN s).drop 0).take (n-0)):=acQ iN d.sl (by omega) (by omega) (by omega) (by omega)
 refine Zv (de (v:=fV 1 b 0 n (jn b)) rfl e jO)<|ZZ rfl<|cy ?_
 refine cY (σ:=(Nat)) [3,4,8,10,27,47] (λk=>[(27, .int .i64 (k:Int))]) (λk W=>(Below w.heap.size w W)∧(At W A _ 24)∧(cH xC 1 9 W w.heap.size b _)∧(dp xC 1 W (fV 1 b 0 n (jn b)) _)∧(ws 114 37 3 w.heap.size W p (iz (cN s) k))∧(k≤n)∧(∀q,q<k→lx (iz (cN s) q) ((cN s).getD q [])=0)∧(True)) (λk=>n-k) (0) ⟨rfl,trivial⟩ ⟨hB,a,d,e,hR,(my _),eT,trivial⟩ ?_
 rintro k X Y ⟨hB,a,d,e,hR,hk,herr,_⟩ Z r
 refine Zr<|Zv (dq rfl rfl)<|ct<|Zq<|ZQ rfl (λt=> ?_) λt=> ?_
 refine cx<|Zq<|cy ?_
 have hpl:=FQ (ls:=cN s) hn
 rw[hpl]at t
 refine Zr<|Zi rfl<|Zv (dm (v:=fV 1 b 0 n (jn b)) rfl e rfl jO Om (by omega))<|Zv (cD (v:= .string _) rfl kM (dp.cell e iN [] Om (by omega) 0 rfl))<|Zi rfl<|Zw (.string _) rfl<|ct<|Zq ?_
 have hline:(((cN s).drop 0).take (n-0)).getD (k:Int).toNat []=(cN s).getD k []:=KY _ (by omega)
 rw[hline]
 refine Zr<|Zw (.string _) rfl<|Zv (pV rfl rfl)<|ZX rfl (λf=> ?_) λf=> ?_
 refine Zs<|Zs<|Zs<|Zb rfl<|ct<|cQ rfl<|cT<|ZT rfl rfl rfl ?_
 exact r _ _ (k+1) Za ⟨rfl,trivial⟩ ⟨hB,a,d,e,(by rw[mD Om];(rw[(jh (uS f)).1];exact hR)),Om,(d6 herr (by exact(jh (uS f)).2)),trivial⟩ Zo
 refine Zw (.string _) rfl<|Zv (lF (i:=0) rfl rfl Tryz.underlying9 (by exact acp.2 f))<|Zv (dJ rfl rfl)<|Zb rfl<|ct<|ZQ rfl (λg=> ?_) λg=> ?_
 refine cT<|ZT rfl rfl rfl ?_
 exact r _ _ (k+1) Za ⟨rfl,trivial⟩ ⟨hB,a,d,e,(by rw[mD Om];(rw[(jh (su g)).1];exact hR)),Om,(d6 herr (by exact(jh (su g)).2)),trivial⟩ Zo
 refine cx<|Zr<|Zp rfl<|Zw (.string _) rfl<|ZH UF (rI w.heap.size p (iz (cN s) k) ((cN s).getD k []) _ (Below.size hB) (λ_ h=>Gl.below (Below.trans hB h) hgl) (by have:=Hp s k;omega) K (Pc herr Om) hR) rfl λaa ab N=> ?_
 obtain⟨hX10_2,rfl,hR10_2⟩:=N
 replace hB:=Below.dx hB (am _) (am _) hX10_2
 replace a:=At.rd hR hX10_2 a Dd Dd
 replace d:=cH.rd hR hX10_2 d Dd Dd
 replace e:=acQ (l:=0) (h:=n) (m:=jn b) iN (cH.sl d) (my _) Om Om (am _)
 replace hR:=hR10_2
 refine ZZ rfl<|Zr<|Zi rfl<|Zv (e7 rfl rfl)<|ct<|ZQ rfl (λu=> ?_) λu=> ?_
 refine Zr<|Zv (gS)<|Zi rfl<|Zi rfl<|Zy (cA rfl rfl dX rfl a rfl rfl λac O P=> ?_)
 replace hB:=Zg hB O j
 replace a:=P
 refine Zi rfl<|ZZ rfl<|Zt<|jK rfl dX a rfl (v1:= .int .i64 _) rfl (v2:= .int .i64 _) rfl ⟨hB,?_⟩
 rw[IU (k:=k) (by omega) hn (by omega) herr (by rw[(fH (mR f g)).2];exact u),(fH (mR f g)).2]
 exact⟨_,[],rfl,cH.nil,f6.nil⟩
 refine cx<|ZT rfl rfl rfl ?_
 exact r _ _ (k+1) Za ⟨rfl,trivial⟩ ⟨hB,a,d,e,(by rw[mD Om];(rw[(fH (mR f g)).1];exact hR)),Om,(d6 herr (by exact(fH (mR f g)).2.trans (aaN u))),trivial⟩ Zo
 refine cT<|Zq<|cy ?_
 obtain⟨lv,vs,hrd,hlv,hls⟩:=hR
 rw[FQ hn]at t
 obtain rfl:k=n:=by omega
 refine Zr<|Zw b rfl<|Zi rfl<|Zv (dm (v:=b) rfl d.sl rfl jO Om (by omega))<|Zv (cD (v:= .string _) rfl kM (dp.cell d.sl iN [] Om (by omega) 0 rfl))<|Zv (H9 rfl rfl)<|Zb rfl<|ct<|ZQ rfl (λo=> ?_) λo=> ?_
 refine Zr<|Zv (gS)<|Zi rfl<|Zy (cA rfl rfl dX rfl a rfl rfl λad Q R=> ?_)
 replace hB:=Zg hB Q j
 replace a:=R
 refine Zi rfl<|ZZ rfl<|Zt<|jK rfl dX a rfl (v1:= .int .i64 _) rfl (v2:= .int .i64 2) rfl ⟨hB,?_⟩
 rw[zM (by omega) hn herr o]
 exact⟨_,[],rfl,cH.nil,f6.nil⟩
 refine Zr<|Zp rfl<|Zc rfl<|Zf rfl hU<|Zl rfl cR hrd rfl<|Zv (e7 rfl rfl)<|Zb rfl<|ct<|ZQ rfl (λx=> ?_) λx=> ?_
 refine Zr<|Zv (gS)<|Zi rfl<|Zy (cA rfl rfl dX rfl a rfl rfl λae S T=> ?_)
 replace hB:=Zg hB S j
 replace a:=T
 refine Zi rfl<|ZZ rfl<|Zt<|jK rfl dX a rfl (v1:= .int .i64 _) rfl (v2:= .int .i64 7) rfl ⟨hB,?_⟩
 rw[yr (by omega) hn herr (aaN o) x]
 exact⟨_,[],rfl,cH.nil,f6.nil⟩
 refine cx<|Zr<|Zp rfl<|Zc rfl<|Zf rfl ia<|Zv (eQ rfl dX (At.cell hrd rfl) (At.cell hrd rfl) (At.cell hrd rfl) (At.cell hrd rfl))<|Zy (cA rfl rfl dX rfl a rfl (by exact qv (dp.one (cH.sl hlv))) λaf y U=> ?_)
 replace hB:=Zg hB y j
 replace hlv:=cH.grownAt hlv a y Dd
 replace hls:=f6.grownAt hls a y Dd
 replace a:=U
 refine Zi rfl<|ZZ rfl<|Zt<|jK rfl dX a rfl (v1:= .int .i64 0) rfl (v2:= .int .i64 0) rfl ⟨hB,?_⟩
 rw[Dv (by omega) hn herr (aaN o) (aaN x)]
 exact⟨lv,vs,rfl,hlv,hls⟩
end
section
open Go Go.RowKit
theorem yM:cX Tryz.prog 18=true:=by kernel_rfl
theorem oW:cX Tryz.prog 79=true:=by kernel_rfl
theorem DV:cX Tryz.prog 236=true:=by kernel_rfl
theorem xK:cX Tryz.prog 198=true:=by kernel_rfl
theorem eE:fl Tryz.prog 212=some (34,2,2):=by kernel_rfl
theorem QJ:cX Tryz.prog 276=true:=by kernel_rfl
theorem jL:(dW Tryz.prog 34).map (λz=>z.cells.size)=some 2:=by kernel_rfl
theorem nY (m u s:Nat) (n:Int) (w:World) (hm:m<256) (hv:u<256):
    Fn Tryz.prog 236 #[.agg #[.int .u8 (m:Int), .int .u8 (u:Int)],ej s, .int .i64 n] w λv w'=>v= .bool (tz m u s n):=by
 refine cM (n:=22) Tryz.func236 rfl rfl rfl λhB=> ?_
 refine Zr<|Zy (dw (c:= #[_,_]) rfl rfl λz W3 A h d=> ?_)
 replace hB:=Ze hB h
 refine Zy (dw (c:= #[_,_,_,_]) rfl rfl λB W6 C i a=> ?_)
 obtain⟨hB,d⟩:=i.k2 hB d
 refine Zb rfl<|ct<|Zr<|Zv (cz rfl dh rfl d)<|Zi rfl<|ZC (vs:=[.agg #[_,_], .int .i64 _]) yM (kx _ _ _ _ pN pN) rfl λD E j k=> ?_
 obtain⟨hB,a⟩:=j.k2 hB a
 obtain⟨sa,er,rfl,hhP1_2⟩:=vY k
 refine Zw (.tuple #[.agg #[_,_,_,_], .int .i64 _]) rfl<|Zv (cZ rfl)<|Zv (c7 rfl)<|Zy (cK el rfl λl o f p b=> ?_)
 have q:=ZO f hB
 have r:=Zn f a.lt
 obtain⟨hB,a⟩:=p.k2 hB a
 replace b:At o l #[wv 0 0,wv 0 1,wv 0 2,wv 0 3] 40:=b
 refine Zy (cA rfl rfl cC rfl b rfl rfl λF g t=> ?_)
 replace hB:=Zg hB g q
 replace a:=At.grownNe a r g
 replace b:=t
 refine ZZ rfl<|Zr<|Zi rfl<|Zv (dJ rfl rfl)<|ZX rfl (λe=> ?_) λe=> ?_
 refine Zv (cz rfl cC rfl b)<|Zv (cz rfl cC rfl a)<|ZC (vs:=[.agg #[_,_,_,_], .agg #[_,_,_,_]]) oW (gN _ _ _) rfl λG H x y=> ?_
 replace hB:=Ze hB x
 obtain rfl:=y
 refine Zb rfl<|Zb rfl<|ct<|Zt<|df (v:= .bool _) rfl ⟨hB,?_⟩
 exact congrArg Value.bool (UT hhP1_2 e)
 refine Zs<|Zs<|Zs<|Zb rfl<|Zb rfl<|ct<|Zt<|df (v:= .bool false) rfl ⟨hB,?_⟩
 exact congrArg Value.bool (Qh hhP1_2 e)
theorem Cv (c:Cb) (s:Nat) (n:Int) (w:World) (hm:c.m<256∧c.v<256):
    Fn Tryz.prog 196 #[.agg #[.int .u8 (c.m:Int), .int .u8 (c.v:Int)],ej s, .int .i64 n] w λv w'=>v=if tz c.m c.v s n=true then .tuple #[.agg #[.int .u8 ((lz s n c).m:Int), .int .u8 ((lz s n c).v:Int)], .int .i64 0]else .tuple #[.agg #[.int .u8 0, .int .u8 0], .int .i64 1]:=by
 refine cM (n:=30) Tryz.func196 rfl rfl rfl λhB=> ?_
 refine Zr<|Zy (dw (c:= #[_,_]) rfl rfl λt W3 u x a=> ?_)
 have y:=ZO u hB
 replace hB:=Ze hB x
 refine Zy (dw (c:= #[_,_,_,_]) rfl rfl λz W6 T A d=> ?_)
 obtain⟨hB,a⟩:=A.k2 hB a
 refine Zy (cK gU rfl λB W9 l C b=> ?_)
 have o:=ZO l hB
 have p:=Zn l a.lt
 obtain⟨hB,a,d⟩:=C.k3 hB a d
 refine ZZ rfl<|Zq<|Zr<|Zv (cz rfl dh rfl a)<|Zv (cz rfl cC rfl d)<|Zi rfl<|ZC (vs:=[.agg #[_,_], .agg #[_,_,_,_], .int .i64 _]) DV (nY _ _ _ _ _ (by omega) (by omega)) rfl λU V D E=> ?_
 obtain⟨hB,a,d,b⟩:=D.k4 hB a d b
 obtain rfl:=E
 refine Zv (eR rfl)<|ct<|ZQ rfl (λg=> ?_) λg=> ?_
 refine Zr<|Zv (j6)<|Zy (cA rfl rfl dh rfl b rfl rfl λX F G=> ?_)
 replace hB:=Zg hB F o
 replace b:=G
 refine ZZ rfl<|Zt<|eh rfl dh b rfl (v1:= .int .i64 1) rfl ⟨hB,?_⟩
 rw[if_neg (by simpa using g)]
 refine cx<|Zq ?_
 have hw:tz c.m c.v s n=true:=by simpa using g
 obtain⟨hn0,hn8,_,_⟩:=du.1 (wg hw)
 refine Zr<|Zi rfl<|ZZ rfl<|cy ?_
 refine cY (σ:=(Nat)) [8,9,17,28] (λi=>[(17, .int .i64 (i:Int))]) (λi W=>(Below w.heap.size w W)∧(At W z _ 40)∧(At W B _ 34)∧(At W t #[.int .u8 ((fc s n c i).m:Int), .int .u8 ((fc s n c i).v:Int)] 34)∧(i≤n.toNat)∧(True)) (λi=>n.toNat-i) (0) ⟨rfl,trivial⟩ ⟨hB,d,b,a,(my _),trivial⟩ ?_
 rintro i Y Z ⟨hB,d,b,a,hi,_⟩ aa q
 refine Zr<|Zv (dq rfl rfl)<|ct<|Zq<|ZQ rfl (λH=> ?_) λH=> ?_
 refine cx<|Zq<|cy<|Zr<|Zi rfl<|ZZ rfl ?_
 have hg:=B3 (s:=s) (n:=n) hm i
 have hle:=yu (fc s n c i).m (i:Int)
 have hle2:(fc s n c i).v &&& lA (fc s n c i).m (i:Int)≤(fc s n c i).v:=Nat.and_le_left
 refine Zr<|Zv (cz rfl dh rfl a)<|Zi rfl<|ZC (vs:=[.agg #[_,_], .int .i64 _]) xK (lS _ _ _ _ (by omega) (by omega)) rfl λab ac I J=> ?_
 obtain⟨hB,d,b,a⟩:=I.k4 hB d b a
 obtain rfl:=J
 refine Zy (cK gU rfl λad ae h K e=> ?_)
 have L:=ZO h hB
 have M:=Zn h b.lt
 have N:=Zn h a.lt
 obtain⟨hB,d,b,a⟩:=K.k4 hB d b a
 refine Zy (cA rfl rfl dh rfl e rfl rfl λaf f O=> ?_)
 replace hB:=Zg hB f L
 replace d:=At.grownAt d e f Dd
 replace b:=At.grownNe b M f
 replace a:=At.grownNe a N f
 replace e:=O
 refine ct<|Zr<|Zv (cz rfl dh rfl e)<|Zv (cz rfl cC rfl d)<|Zi rfl<|ZC (vs:=[.agg #[_,_], .agg #[_,_,_,_], .int .i64 _]) DV (nY _ _ _ _ _ (by omega) (by omega)) rfl λag ah P Q=> ?_
 obtain⟨hB,d,b,a,e⟩:=P.k5 hB d b a e
 obtain rfl:=Q
 refine ct<|ZQ rfl (λj=> ?_) λj=> ?_
 refine cI<|Zv (cz rfl dh rfl e)<|Zy (cA rfl rfl dh rfl a rfl rfl λai k R=> ?_)
 replace hB:=Zg hB k y
 replace d:=At.grownAt d a k Dd
 replace b:=At.grownNe b (Ne.symm p) k
 replace a:=R
 refine ct<|ZT rfl rfl rfl ?_
 exact q _ _ (i+1) Za ⟨rfl,trivial⟩ ⟨hB,d,b,(by (rw[Fz j];exact a)),Om,trivial⟩ Zo
 refine cx<|ZT rfl rfl rfl ?_
 exact q _ _ (i+1) Za ⟨rfl,trivial⟩ ⟨hB,d,b,(by (rw[Fo j];exact a)),Om,trivial⟩ Zo
 refine cT<|Zr<|Zv (cz rfl dh rfl a)<|Zy (cA rfl rfl dh rfl b rfl rfl λaj r S=> ?_)
 replace hB:=Zg hB r o
 replace a:=At.grownNe a p r
 replace b:=S
 refine ZZ rfl<|Zt<|eh rfl dh b rfl (v1:= .int .i64 0) rfl ⟨hB,?_⟩
 have hin:i=n.toNat:=by omega
 subst hin
 rw[if_pos hw]
 rfl
theorem vX (b m u m2 u2:Nat) (w:World) (hb:At w b #[.int .u8 (m2:Int), .int .u8 (u2:Int)] 34):
    Fn Tryz.prog 276 #[.agg #[.int .u8 (m:Int), .int .u8 (u:Int)], .pointer (some ⟨b,0,none⟩)] w λv w'=>v= .bool (zS ⟨m,u⟩ ⟨m2,u2⟩):=by
 refine cM (n:=23) Tryz.func276 rfl rfl rfl λhB=> ?_
 refine Zr<|Zy (dw (c:= #[_,_]) rfl rfl λg W3 h f d=> ?_)
 replace hB:=Ze hB f
 refine Zb rfl<|ct<|Zr<|Zf rfl eo<|Zl rfl dN d rfl<|Zf rfl eo<|Zl rfl dN (On hB hb) rfl<|Zv (dq rfl rfl)<|ZX rfl (λa=> ?_) λa=> ?_
 refine Zs<|Zs<|Zs<|Zs<|Zs<|Zs<|Zs<|Zs<|Zs<|Zs<|Zs<|Zs<|Zb rfl<|Zb rfl ?_
 refine ct<|Zt<|df (v:= .bool true) rfl ⟨hB,?_⟩
 exact congrArg Value.bool (XY a)
 refine Zf rfl eo<|Zl rfl dN d rfl<|Zf rfl eo<|Zl rfl dN (On hB hb) rfl<|Zv (dJ rfl rfl)<|ZX rfl (λe=> ?_) λe=> ?_
 refine Zf rfl fM<|Zl rfl dN d rfl<|Zf rfl fM<|Zl rfl dN (On hB hb) rfl<|Zv (dq rfl rfl)<|Zb rfl<|Zb rfl<|Zb rfl<|ct<|Zt<|df (v:= .bool _) rfl ⟨hB,?_⟩
 exact congrArg Value.bool (Y7 a e)
 refine Zs<|Zs<|Zs<|Zs<|Zs<|Zb rfl<|Zb rfl<|Zb rfl<|ct<|Zt<|df (v:= .bool false) rfl ⟨hB,?_⟩
 exact congrArg Value.bool (Y4 a e)
theorem yK (x:Value) (l:List Cb) (c:Cb) (w:World) (hl:dp iD 2 w x l) (hn:l.length≤70000):
    Fn Tryz.prog 262 #[x, .agg #[.int .u8 (c.m:Int), .int .u8 (c.v:Int)]] w λv w'=>cH iD 2 34 w' w.heap.size v (Dn l c):=by
 refine cM (n:=35) Tryz.func262 rfl rfl rfl λhB=> ?_
 have hC:l.length≤jn x:=(Sl.eqv hl).2.1
 refine Zr<|Zy (dw (c:= #[_,_]) rfl rfl λh W3 U K b=> ?_)
 replace hB:=Ze hB K
 refine Zw (.slice none 0 0) rfl<|ct<|Zr<|Zv (eS (vs:= #[.pointer (some ⟨h,0,none⟩)]) AO)<|Zw (.func (.func 276) #[] #[.pointer (some ⟨h,0,none⟩)]) rfl<|ct<|Zr<|Zw x rfl<|Zv (de (v:=x) rfl (Below.slT hB hl) eE)<|ZZ rfl<|Zq<|cy ?_
 refine cY (σ:=(Nat)) [6,6,10,23] (λi=>[(6, .int .i64 (i:Int))]) (λi W=>(Below w.heap.size w W)∧(At W h _ 34)∧(i≤l.length)∧(ou l c l.length=ou l c i)∧(True)) (λi=>i) (l.length) ⟨rfl,trivial⟩ ⟨hB,b,(am _),rfl,trivial⟩ ?_
 rintro i V X ⟨hB,b,hi,hp,_⟩ Y L
 refine Zq<|Zr<|Zi rfl<|Zv (iG rfl rfl)<|ZX rfl (λM=> ?_) λM=> ?_
 refine Zw (.func (.func 276) #[] #[.pointer (some ⟨h,0,none⟩)]) rfl<|Zw x rfl<|Zi rfl<|Zv (jS rfl rfl Om Om)<|Zv (dm (v:=x) rfl (Below.slT hB hl) rfl eE Om (by omega))<|Zv (iq rfl dh (dp.cell (Below.slT hB hl) gt ⟨0,0⟩ Om (by omega) 0 rfl) (dp.cell (Below.slT hB hl) gt ⟨0,0⟩ Om (by omega) 1 rfl)) ?_
 refine oI (dd:=some 19) rfl rfl rfl (ip (q:=276) (first:= #[]) (cap:= #[.pointer (some ⟨h,0,none⟩)]) (vs:= #[.agg #[_,_], .pointer (some ⟨h,0,none⟩)]) rfl QJ GD) (vX _ _ _ _ _ _ b) (λZ aa O P=> ?_)
 obtain⟨hB,b⟩:=O.k2 hB b
 obtain rfl:=P
 refine Zv (eR rfl)<|Zb rfl<|ct<|ZQ rfl (λp=> ?_) λp=> ?_
 refine cx<|cy<|cI<|Zi rfl<|Zv (jS rfl rfl Om Om)<|ZZ rfl ?_
 exact L _ _ (i-1) Za ⟨congrArg (Value.int .i64) (by omega:(i:Int)-1=((i-1:Nat):Int)),trivial⟩ ⟨hB,b,Om,(hp.trans (Mr Om p)),trivial⟩ Zo
 refine cT ?_
 have hpos:ou l c l.length=i:=hp.trans (Iz (by exact .inr p))
 have hil:((i:Nat):Int).toNat=i:=rfl
 refine Zd dC λQ R=> ?_
 obtain⟨hB,b⟩:=R.k2 hB b
 have hS:=dC.refl Q
 refine Tw 0 x rfl rfl hS<|Ti 1 rfl rfl hS<|Ti 2 rfl rfl hS<|Tk 3 rfl (λ_ hq=>nt (v:=x) rfl (hq.slT (Below.slT hB hl)) eE rfl rfl Om Om Om) hS ?_
 have r:dp iD 2 w (fV 2 x 0 i i) ((l.drop 0).take (i-0)):=acQ gt hl (by omega) (by omega) (by omega) (by omega)
 refine Tk 4 rfl (λ_ hq=>cz rfl dh rfl (hq.at b)) hS<|Tw 6 x rfl rfl hS<|Ti 7 rfl rfl hS<|Tk 8 rfl (λ_ hq=>nD (v:=x) rfl (hq.slT (Below.slT hB hl)) eE rfl Om Om) hS ?_
 have s:dp iD 2 w (fV 2 x i l.length (jn x)) ((l.drop i).take (l.length-i)):=acQ gt hl (by omega) (by omega) (by omega) (by omega)
 refine To 5 rfl (eC (u:= .agg #[_,_]) rfl eE jL rfl Dd Dd λg ab G t y=>⟨.inl (hS.trans t),?_⟩)
 have z:=ZO G hB
 have k:=go (dC.size hS) (aa1 G.symm)
 replace hB:=Ze hB t
 replace hS:=hS.trans t
 have H:=jf (enc:=iD) (a:=c) y rfl rfl z
 refine To 9 rfl (dR (v:= .slice (some ⟨g,0,none⟩) 1 1) (v2:=fV 2 x i l.length (jn x)) rfl rfl eE jL Dd H (Below.slT hB s) (qe) (mV hB) iw iw λA ac B d=>⟨.inl (dg hS B (am _) (λj hj=>by have e:g=j:=aaY hj;rw[←e];exact k)),?_⟩)
 replace hS:dC _ _:=dg hS B (am _) (λj hj=>by have e:g=j:=aaY hj;rw[←e];exact k)
 replace d:=cH.app (enc:=iD) rfl rfl rfl rfl d
 replace hB:=ZG hB B H
 refine To 10 rfl (kb (N:=w.heap.size) (v:=fV 2 x 0 i i) (v2:=A) rfl rfl eE jL (Below.slT hB r) (sE iw) d.sl fD (Below.size hB) iw iw λo ad C f=>⟨.inl (hS.trans C),?_⟩)
 replace f:=cH.app (enc:=iD) rfl rfl rfl rfl f
 obtain⟨hB,d⟩:=C.k2 hB d
 replace hS:=hS.trans C
 refine Tw 11 o rfl rfl hS<|Td<|Zt<|df (v:=o) rfl ⟨hB,?_⟩
 have e:(l.drop i).take (l.length-i)=l.drop i:=aca fD
 rw[e]at f
 rw[Dn,hpos]
 simpa using f
 refine Zs<|Zs<|Zs<|Zs<|Zs<|Zs<|Zs<|Zs<|Zb rfl<|ct<|dH rfl<|cT ?_
 have hpos:ou l c l.length=i:=hp.trans (Iz (by exact .inl (by omega)))
 have hil:((i:Nat):Int).toNat=i:=rfl
 refine Zd dC λS T=> ?_
 obtain⟨hB,b⟩:=T.k2 hB b
 have hS:=dC.refl S
 refine Tw 0 x rfl rfl hS<|Ti 1 rfl rfl hS<|Ti 2 rfl rfl hS<|Tk 3 rfl (λ_ hq=>nt (v:=x) rfl (hq.slT (Below.slT hB hl)) eE rfl rfl Om Om Om) hS ?_
 have r:dp iD 2 w (fV 2 x 0 i i) ((l.drop 0).take (i-0)):=acQ gt hl (by omega) (by omega) (by omega) (by omega)
 refine Tk 4 rfl (λ_ hq=>cz rfl dh rfl (hq.at b)) hS<|Tw 6 x rfl rfl hS<|Ti 7 rfl rfl hS<|Tk 8 rfl (λ_ hq=>nD (v:=x) rfl (hq.slT (Below.slT hB hl)) eE rfl Om Om) hS ?_
 have s:dp iD 2 w (fV 2 x i l.length (jn x)) ((l.drop i).take (l.length-i)):=acQ gt hl (by omega) (by omega) (by omega) (by omega)
 refine To 5 rfl (eC (u:= .agg #[_,_]) rfl eE jL rfl Dd Dd λg ae I D y=>⟨.inl (hS.trans D),?_⟩)
 have z:=ZO I hB
 have k:=go (dC.size hS) (aa1 I.symm)
 replace hB:=Ze hB D
 replace hS:=hS.trans D
 have J:=jf (enc:=iD) (a:=c) y rfl rfl z
 refine To 9 rfl (dR (v:= .slice (some ⟨g,0,none⟩) 1 1) (v2:=fV 2 x i l.length (jn x)) rfl rfl eE jL Dd J (Below.slT hB s) (qe) (mV hB) iw iw λA af E d=>⟨.inl (dg hS E (am _) (λj hj=>by have e:g=j:=aaY hj;rw[←e];exact k)),?_⟩)
 replace hS:dC _ _:=dg hS E (am _) (λj hj=>by have e:g=j:=aaY hj;rw[←e];exact k)
 replace d:=cH.app (enc:=iD) rfl rfl rfl rfl d
 replace hB:=ZG hB E J
 refine To 10 rfl (kb (N:=w.heap.size) (v:=fV 2 x 0 i i) (v2:=A) rfl rfl eE jL (Below.slT hB r) (sE iw) d.sl fD (Below.size hB) iw iw λo ag F f=>⟨.inl (hS.trans F),?_⟩)
 replace f:=cH.app (enc:=iD) rfl rfl rfl rfl f
 obtain⟨hB,d⟩:=F.k2 hB d
 replace hS:=hS.trans F
 refine Tw 11 o rfl rfl hS<|Td<|Zt<|df (v:=o) rfl ⟨hB,?_⟩
 have e:(l.drop i).take (l.length-i)=l.drop i:=aca fD
 rw[e]at f
 rw[Dn,hpos]
 simpa using f
end
section
open Go Go.RowKit
theorem vU:cX Tryz.prog 80=true:=by kernel_rfl
theorem kr:m3 Tryz.prog 258=some (34,4):=by kernel_rfl
theorem ob:qJ Tryz.prog 34 (λv=>∃a:Cb,v=jo a):=by
  refine pz Tryz.underlying34 ?_ ?_ ?_ ?_
  · rintro w _ _ ⟨a,rfl⟩ ⟨c,rfl⟩
    have hg:Tryz.prog.eqGuardType Tryz.prog.depth 34=false:=by kernel_rfl
    exact⟨_,sQ hg (Qe rfl rfl),by rw[decide_eq_true_eq];constructor<;>intro h<;>simpa [jo] using h⟩
  · rintro _ _ ⟨a,rfl⟩ ⟨c,rfl⟩
    exact .inl rfl
  · rintro w em _ ⟨a,rfl⟩
    have h2:∀k,(Instr.checkKey em (k+1+1+1) 34 (jo a)).run Tryz.prog w= .ok () w:=λk=>by
      simp[jo,Instr.checkKey,part,isAgg,run_underlying Tryz.underlying34,run_underlying Tryz.underlying5]
    exact h2 9997
  · rintro _ ⟨a,rfl⟩
    simp[jo,Instr.sameBits]
theorem S7:cX Tryz.prog 262=true:=by kernel_rfl
theorem Gr (s:Nat) (n:Int) (w:World):
    Fn Tryz.prog 227 #[ej s, .int .i64 n] w λv w'=>if xQ s n=true then ∃x,v= .tuple #[x, .int .i64 0]∧cH iD 2 34 w' w.heap.size x (eD s n)else v= .tuple #[.slice none 0 0, .int .i64 1]:=by
 refine cM (n:=105) Tryz.func227 rfl rfl rfl λhB=> ?_
 refine Zr<|Zy (dw (c:= #[_,_,_,_]) rfl rfl λQ W3 bD aI e=> ?_)
 replace hB:=Ze hB aI
 refine Zw (.slice none 0 0) rfl<|ZZ rfl<|Zr<|Zi rfl<|ZC vU (nA _ _) rfl λbE W8 aJ aK=> ?_
 obtain⟨hB,e⟩:=aJ.k2 hB e
 obtain⟨sa,er,rfl,hhP1_1⟩:=sU aK
 refine Zw (.tuple #[.agg #[_,_,_,_], .int .i64 _]) rfl<|Zv (cZ rfl)<|Zv (c7 rfl)<|Zy (cK el rfl λO aL aq aM f=> ?_)
 have aN:=ZO aq hB
 have aO:=Zn aq e.lt
 obtain⟨hB,e⟩:=aM.k2 hB e
 replace f:At aL O #[wv 0 0,wv 0 1,wv 0 2,wv 0 3] 40:=f
 refine Zy (cA rfl rfl cC rfl f rfl rfl λbF ar aP=> ?_)
 replace hB:=Zg hB ar aN
 replace e:=At.grownNe e aO ar
 replace f:=aP
 refine ZZ rfl<|Zq<|Zr<|Zi rfl<|Zv (e7 rfl rfl)<|ZX rfl (λV=> ?_) λV=> ?_
 refine Zs<|Zs<|Zs<|Zs<|Zb rfl<|ct<|cQ rfl<|Zr<|Zw (.slice none 0 0) rfl<|ZZ rfl<|Zt<|dG (v:= .slice none 0 0) rfl (v1:= .int .i64 1) rfl ⟨hB,?_⟩
 rw[if_neg (JP hhP1_1 V)]
 refine Zv (cz rfl cC rfl e)<|Zv (cz rfl cC rfl f)<|ZC (vs:=[.agg #[_,_,_,_], .agg #[_,_,_,_]]) oW (gN _ _ _) rfl λbG bH aQ aR=> ?_
 obtain⟨hB,e,f⟩:=aQ.k3 hB e f
 obtain rfl:=aR
 refine Zv (eR rfl)<|Zb rfl<|ct<|ZQ rfl (λab=> ?_) λab=> ?_
 refine Zr<|Zw (.slice none 0 0) rfl<|ZZ rfl<|Zt<|dG (v:= .slice none 0 0) rfl (v1:= .int .i64 1) rfl ⟨hB,?_⟩
 rw[if_neg (J0 hhP1_1 V ab)]
 refine cx ?_
 have hof:xQ s n=true:=N5 hhP1_1 V ab
 obtain⟨hn0,hn8⟩:=lg hof
 have hll:=mq s
 refine Zr<|Zy (g7 (enc:=jo) (encV:=Value.bool) λX bI aS aT y=> ?_)
 have aU:=ZO aS hB
 obtain⟨hB,e,f⟩:=aT.k3 hB e f
 replace y:dy jo Value.bool _ _ (fz []):=y
 refine Zw (.map (some X)) rfl<|ct<|Zq<|Zr<|Zv (cz rfl cC rfl e)<|ZC (vs:=[.agg #[_,_,_,_]]) uI (nU _ _) rfl λM bJ aV h=> ?_
 have aW:=(Below.size hB)
 obtain⟨hB,e,f,y⟩:=aV.k4 hB e f y
 replace h:=cH.mono h aW
 refine Zv (de (v:=M) rfl h.sl cV)<|ZZ rfl<|cy ?_
 refine cY (σ:=(Nat)×(List Cb)) [10,10,35,46] (λ(k,ks)=>[(35, .int .i64 (k:Int))]) (λsg W=>match sg with|(k,ks)=>(Below w.heap.size w W)∧(At W Q _ 40)∧(At W O _ 40)∧(cH dT 1 3 W w.heap.size M _)∧(dy jo Value.bool W X (fz ks))∧(k≤(eb s).length)∧(∀c,c∈ks↔∃j,j<k∧c=⟨2^n.toNat-1,((eb s).getD j 0).toNat⟩)∧(True)) (λ(k,ks)=>(eb s).length-k) ((0,[])) ⟨rfl,trivial⟩ ⟨hB,e,f,h,y,(my _),(λc=>by simp),trivial⟩ ?_
 rintro⟨k,ks⟩ bK bL ⟨hB,e,f,h,y,hk,hks,_⟩ bM aX
 refine Zr<|Zv (dq rfl rfl)<|ct<|Zq<|ZQ rfl (λaY=> ?_) λaY=> ?_
 refine cx<|Zq<|cy<|Zr<|Zv (dm (v:=M) rfl h.sl rfl cV Om (by omega))<|Zv (cD (v:= .int .i64 _) rfl cR (dp.cell h.sl ez 0 Om (by omega) 0 rfl))<|ZZ rfl ?_
 obtain⟨p,bN,bO,au⟩:=l9 (s:=s) (i:=k) (by omega)
 refine cI<|Zw (.map (some X)) rfl<|Zi rfl<|Zv (US rfl rfl hn0)<|Zv (U3 rfl rfl hn0 hn8)<|Zi rfl<|Zv (i7 (m:=p) (congrArg (Value.int .i64) au) Tryz.underlying3 Tryz.underlying5 pZ)<|Zv (nF (h0:=rfl) (k0:=rfl) (h1:=rfl) (k1:=rfl) (c0_0:= .int .u8 _) (c1_0:= .int .u8 _)) ?_
 refine gM (dd:=none) rfl rfl rfl (fK (enc:=jo) (encV:=Value.bool) (k:=⟨_,_⟩) (v:=true) rfl rfl rfl kr ob (λa=>⟨a,rfl⟩) nV y (λbP Y aZ=> ?_))
 replace hB:=Zg hB Y aU
 replace e:=At.grownMap e y Y
 replace f:=At.grownMap f y Y
 replace h:=cH.grownMap h y Y
 replace y:=aZ
 rw[jX]at y
 refine ct<|ZT rfl rfl rfl ?_
 exact aX _ _ ((k+1,ji ks ⟨2^n.toNat-1,p⟩)) Za ⟨rfl,trivial⟩ ⟨hB,e,f,h,y,Om,(KX hks au),trivial⟩ (by show (eb s).length-(k+1)<(eb s).length-k;omega)
 refine cT<|Zr<|Zw (.slice none 0 0) rfl<|ct<|Zq<|cy ?_
 refine cY (σ:=(Nat)×(List Cb)×(Value)×(List Cb)×(Nat)) [8,8,11,17,47,103] (λ(bn,now,v0,out,t)=>[(8, .map (some bn)),(11,v0)]) (λsg W=>match sg with|(bn,now,v0,out,t)=>(Below w.heap.size w W)∧(At W Q _ 40)∧(At W O _ 40)∧(cH dT 1 3 W w.heap.size M _)∧(dy jo Value.bool W bn (fz now))∧(cH iD 2 34 W w.heap.size v0 (out))∧(po s n t now)∧(Au s n t out)∧(ju out)∧(t≤n.toNat+1)∧(True)) (λ(bn,now,v0,out,t)=>t) ((X,ks, .slice none 0 0,[],n.toNat+1)) ⟨rfl,rfl,trivial⟩ ⟨hB,e,f,h,y,cH.nil,(EP hof (O4 hks Om)),NW,List.Pairwise.nil,(am _),trivial⟩ ?_
 rintro⟨bn,now,v0,out,t⟩ bQ bR ⟨hB,e,f,h,hmN,ho,hLv,hOut,hRis,ht,_⟩ bS a0
 refine Zq<|Zr<|Zw (.map (some bn)) rfl<|Zv (ON rfl kr hmN)<|Zv (iG rfl rfl)<|ct<|ZQ rfl (λac=> ?_) λac=> ?_
 refine cx<|cy ?_
 obtain⟨t',rfl⟩:=KH hLv ac
 refine Zr<|Zy (g7 (enc:=jo) (encV:=Value.bool) λA bT av a1 g=> ?_)
 have aw:=ZO av hB
 have Z:=Zn av hmN.lt
 obtain⟨hB,e,f,h,hmN,ho⟩:=a1.k6 hB e f h hmN ho
 replace g:dy jo Value.bool _ _ (fz []):=g
 refine Zy (g7 (enc:=jo) (encV:=Value.bool) λP bU ad a2 l=> ?_)
 have a3:=ZO ad hB
 have ax:=Zn ad hmN.lt
 have ae:=Zn ad g.lt
 obtain⟨hB,e,f,h,hmN,ho,g⟩:=a2.k7 hB e f h hmN ho g
 replace l:dy jo Value.bool _ _ (fz []):=l
 refine Zw (.map (some A)) rfl<|Zw (.map (some P)) rfl<|ct<|Zq<|Zr<|Zw (.map (some bn)) rfl<|Zy (CA rfl kr hmN λay bV a4 a5 o=> ?_)
 have a6:=ZO a4 hB
 obtain⟨hB,e,f,h,hmN,ho,g,l⟩:=a5.k8 hB e f h hmN ho g l
 refine ct<|cy ?_
 refine cY (σ:=(List Cb)×(List Cb)×(List Cb)) [14,16,54,89] (λ(seen,nl,ml)=>[]) (λsg W=>match sg with|(seen,nl,ml)=>(Below w.heap.size w W)∧(At W Q _ 40)∧(At W O _ 40)∧(cH dT 1 3 W w.heap.size M _)∧(dy jo Value.bool W bn _)∧(cH iD 2 34 W w.heap.size v0 _)∧(eO jo Value.bool W ay bn (fz now) seen)∧(dy jo Value.bool W A (fz nl))∧(dy jo Value.bool W P (fz ml))∧(∀d,d∈nl↔jW now n seen d)∧(∀d,d∈ml↔gv now n seen d)∧(True)) (λ(seen,nl,ml)=>(fz now).length-seen.length) (([],[],[])) trivial ⟨hB,e,f,h,hmN,ho,o,g,l,HB,C0,trivial⟩ ?_
 rintro⟨seen,nl,ml⟩ bW bX ⟨hB,e,f,h,hmN,ho,o,g,l,hN,hM,_⟩ bY a7
 refine Zr ?_
 refine gM (dd:=some 54) rfl rfl rfl (GZ rfl o (λa8=> ?_) (λz bZ b0 az b1 K a9=> ?_))
 refine Zv (sd rfl)<|ct<|Zq<|dH rfl<|cT<|Zq ?_
 have hseen:=Eh o a8
 have hN':=Kz hN hseen
 have hM':=Ez hM hseen
 refine Zr<|Zw (.map (some bn)) rfl<|Zy (CA rfl kr hmN λba b2 bb af u=> ?_)
 have bc:=ZO bb hB
 obtain⟨hB,e,f,h,hmN,ho⟩:=af.k6 hB e f h hmN ho
 replace o:=af.iterT o
 obtain⟨g,l⟩:=af.k2 g l
 refine ct<|cy ?_
 refine cY (σ:=(List Cb)×(Value)×(List Cb)) [11,11,17,17,92,102] (λ(seen2,v2,out2)=>[(11,v2)]) (λsg W=>match sg with|(seen2,v2,out2)=>(Below w.heap.size w W)∧(At W Q _ 40)∧(At W O _ 40)∧(cH dT 1 3 W w.heap.size M _)∧(dy jo Value.bool W bn _)∧(dy jo Value.bool W A _)∧(dy jo Value.bool W P _)∧(eO jo Value.bool W ba bn (fz now) seen2)∧(cH iD 2 34 W w.heap.size v2 (out2))∧(∀c,c∈out2↔c∈out∨(c∈seen2∧c∉ml))∧(ju out2)∧(True)) (λ(seen2,v2,out2)=>(fz now).length-seen2.length) (([],v0,out)) ⟨rfl,trivial⟩ ⟨hB,e,f,h,hmN,g,l,u,ho,WV,hRis,trivial⟩ ?_
 rintro⟨seen2,v2,out2⟩ b3 b4 ⟨hB,e,f,h,hmN,g,l,u,B,R,hR2,_⟩ b5 aA
 refine Zr ?_
 refine gM (dd:=some 92) rfl rfl rfl (GZ rfl u (λbd=> ?_) (λN b6 b7 aB bf L bg=> ?_))
 refine Zv (sd rfl)<|ct<|Zq<|dH rfl<|cT ?_
 have hseen2:=Eh u bd
 refine cI<|Zw (.map (some A)) rfl<|Zw (.map (some A)) rfl<|ct ?_
 exact a0 _ _ ((A,nl,v2,out2,t')) Za ⟨rfl,rfl,trivial⟩ ⟨hB,e,f,h,g,(by exact B),(GN hn8 hLv Om hN'),(MJ hLv hOut hM' (Q1 R hseen2)),hR2,Om,trivial⟩ (by show t'<t'+1;omega)
 replace hB:=Zg hB L bc
 replace e:=acY e u L
 replace f:=acY f u L
 replace h:=ac2 h u L
 replace hmN:=acT hmN u L
 replace g:=acT g u L
 replace l:=acT l u L
 replace B:=ac2 B u L
 replace u:=bg
 refine Zv (gR rfl)<|ct<|Zq<|cQ rfl<|cx<|cy ?_
 have hkn:=(Gx aB).1
 obtain⟨hkm,hkv⟩:=zC hLv hn8 hkn
 refine Zr<|Zv (Dr rfl u aB)<|Zv (cZ rfl)<|Zy (cK gU rfl λbh b8 aC ag C=> ?_)
 have bi:=ZO aC hB
 have bj:=abE (b:=bh) B (aa1 aC.symm)
 obtain⟨hB,e,f,h,hmN,g,l⟩:=ag.k7 hB e f h hmN g l
 replace u:=ag.iterT u
 replace B:=ag.ow B
 refine Zy (cA rfl rfl dh rfl C rfl rfl λb9 H bk=> ?_)
 replace hB:=Zg hB H bi
 replace e:=At.grownAt e C H Dd
 replace f:=At.grownAt f C H Dd
 replace h:=cH.grownAt h C H Dd
 replace hmN:=dy.grownAt hmN C H
 replace g:=dy.grownAt g C H
 replace l:=dy.grownAt l C H
 replace u:=eO.grownAt u C H
 replace B:=abg B bj H
 replace C:=bk
 refine ct<|Zr<|Zw (.map (some P)) rfl<|Zv (cz rfl dh rfl C)<|Zv (fR (enc:=jo) (encV:=Value.bool) (v0:=false) (k:=⟨N.m,N.v⟩) rfl rfl kr ob (λa=>⟨a,rfl⟩) nV rz rfl l)<|Zv (eR rfl)<|ct<|ZQ rfl (λah=> ?_) λah=> ?_
 have hsm:=Ng hLv hn8 hOut R (λc hc=>Ew u c (abf _ hc)) hR2
 refine cI<|Zw v2 rfl<|Zv (cz rfl dh rfl C)<|ZC (vs:=[v2, .agg #[_,_]]) S7 (yK _ _ _ _ B.sl (by omega)) rfl λaD ca aE ai=> ?_
 have cb:=acL B
 have bl:=(Below.size hB)
 obtain⟨hB,e,f,h,hmN,g,l⟩:=aE.k7 hB e f h hmN g l
 replace u:=aE.iterT u
 replace ai:=cH.mono ai bl
 refine Zw aD rfl<|ct ?_
 exact aA _ _ ((N::seen2,aD,Dn out2 N)) Za ⟨rfl,trivial⟩ ⟨hB,e,f,h,hmN,g,l,u,(by exact ai),(SE R (MA ah)),(EM hR2 (UO hLv hOut R hkn bf)),trivial⟩ (by have hle:=acV u;show (fz now).length-(N::seen2).length<(fz now).length-seen2.length;simp only[aa5]at hle ⊢;omega)
 refine cx ?_
 exact aA _ _ ((N::seen2,v2,out2)) Za ⟨rfl,trivial⟩ ⟨hB,e,f,h,hmN,g,l,u,(by exact B),(Q5 R (Pb ah)),hR2,trivial⟩ (by have hle:=acV u;show (fz now).length-(N::seen2).length<(fz now).length-seen2.length;simp only[aa5]at hle ⊢;omega)
 replace hB:=Zg hB K a6
 replace e:=acY e o K
 replace f:=acY f o K
 replace h:=ac2 h o K
 replace hmN:=acT hmN o K
 replace ho:=ac2 ho o K
 replace g:=acT g o K
 replace l:=acT l o K
 replace o:=a9
 refine Zv (gR rfl)<|ct<|Zq<|cQ rfl<|cx<|cy ?_
 have hkn:=(Gx az).1
 obtain⟨hkm,hkv⟩:=zC hLv hn8 hkn
 refine Zr<|Zv (Dr rfl o az)<|Zv (cZ rfl)<|Zy (cK gU rfl λaF cc aG aj r=> ?_)
 have bm:=ZO aG hB
 have bo:=abE (b:=aF) ho (aa1 aG.symm)
 obtain⟨hB,e,f,h,hmN,ho⟩:=aj.k6 hB e f h hmN ho
 replace o:=aj.iterT o
 obtain⟨g,l⟩:=aj.k2 g l
 refine Zy (cA rfl rfl dh rfl r rfl rfl λcd I bp=> ?_)
 replace hB:=Zg hB I bm
 replace e:=At.grownAt e r I Dd
 replace f:=At.grownAt f r I Dd
 replace h:=cH.grownAt h r I Dd
 replace hmN:=dy.grownAt hmN r I
 replace ho:=abg ho bo I
 replace o:=eO.grownAt o r I
 replace g:=dy.grownAt g r I
 replace l:=dy.grownAt l r I
 replace r:=bp
 refine ct<|Zr<|Zi rfl<|ZZ rfl<|cy ?_
 refine cY (σ:=(Nat)×(List Cb)×(List Cb)) [15,16,59,89] (λ(i,nl2,ml2)=>[(59, .int .i64 (i:Int))]) (λsg W=>match sg with|(i,nl2,ml2)=>(Below w.heap.size w W)∧(At W Q _ 40)∧(At W O _ 40)∧(cH dT 1 3 W w.heap.size M _)∧(dy jo Value.bool W bn _)∧(cH iD 2 34 W w.heap.size v0 _)∧(eO jo Value.bool W ay bn _ _)∧(At W aF _ 34)∧(dy jo Value.bool W A (fz nl2))∧(dy jo Value.bool W P (fz ml2))∧((i:Int)≤n)∧(∀d,d∈nl2↔jW now n seen d∨∃q,q<i∧jz now z q∧d=jP z q)∧(∀d,d∈ml2↔gv now n seen d∨(d=z∧∃q,q<i∧jz now z q))∧(True)) (λ(i,nl2,ml2)=>n.toNat-i) ((0,nl,ml)) ⟨rfl,trivial⟩ ⟨hB,e,f,h,hmN,ho,o,r,g,l,Om,(Lg hN),(E7 hM),trivial⟩ ?_
 rintro⟨i,nl2,ml2⟩ ce cf ⟨hB,e,f,h,hmN,ho,o,r,g,l,hi,hN2,hM2,_⟩ cg ak
 refine Zr<|Zv (dq rfl rfl)<|ct<|Zq<|ZQ rfl (λbq=> ?_) λbq=> ?_
 refine cx<|Zq<|cy<|Zr<|Zi rfl<|ZZ rfl ?_
 have h7:=DP (show i<8 by omega)
 have hd:z.m/2^i≤z.m:=abV _ _
 refine Zd dC λbr al=> ?_
 obtain⟨hB,e,f,h,hmN,ho⟩:=al.k6 hB e f h hmN ho
 replace o:=al.iterT o
 obtain⟨r,g,l⟩:=al.k3 r g l
 have hS:=dC.refl br
 refine Tf 0 rfl rfl eo hS<|Tk 1 rfl (λ_ hq=>cD (v:= .int .u8 _) rfl dN (At.cell (hq.at r) rfl)) hS<|Tf 2 rfl rfl fM hS<|Tk 3 rfl (λ_ hq=>cD (v:= .int .u8 _) rfl dN (At.cell (hq.at r) rfl)) hS<|Ti 4 rfl rfl hS<|Tk 5 rfl (λ_ _=>jN (m:=1) rfl rfl Om (by simp only[IntKind.bits];omega) y6) hS<|Tk 6 rfl (λ_ _=>N7 (n:=_) rfl rfl rfl pN y6) hS<|Tk 7 rfl (λ_ _=>nF (h0:=rfl) (k0:=rfl) (h1:=rfl) (k1:=rfl) (c0_0:= .int .u8 _) (c1_0:= .int .u8 _)) hS<|To 8 rfl (cK gU rfl λbs ch ao aa E=>⟨.inl (hS.trans aa),?_⟩)
 have bt:=ZO ao hB
 have bu:=abE (b:=bs) ho (aa1 ao.symm)
 have bv:=Zn ao r.lt
 obtain⟨hB,e,f,h,hmN,ho⟩:=aa.k6 hB e f h hmN ho
 replace o:=aa.iterT o
 obtain⟨r,g,l⟩:=aa.k3 r g l
 refine To 9 rfl (cA rfl rfl dh rfl E rfl rfl λci F bw=>⟨.inr ka,?_⟩)
 replace hB:=Zg hB F bt
 replace e:=At.grownAt e E F Dd
 replace f:=At.grownAt f E F Dd
 replace h:=cH.grownAt h E F Dd
 replace hmN:=dy.grownAt hmN E F
 replace ho:=abg ho bu F
 replace o:=eO.grownAt o E F
 replace r:=At.grownNe r bv F
 replace g:=dy.grownAt g E F
 replace l:=dy.grownAt l E F
 replace E:=bw
 refine Td<|Zr<|Zf rfl eo<|Zl rfl dN r rfl<|Zi rfl<|Zv (qQ rfl rfl Om (by simp only[IntKind.bits];omega))<|Zv (m5 (n:=1) rfl rfl rfl UM vP)<|Zv (dJ rfl rfl)<|ZX rfl (λS=> ?_) λS=> ?_
 refine Zw (.map (some bn)) rfl<|Zv (cz rfl dh rfl E)<|Zv (fR (enc:=jo) (encV:=Value.bool) (v0:=false) (k:=⟨z.m,z.v ^^^ 1*2^((i:Nat):Int).toNat⟩) rfl rfl kr ob (λa=>⟨a,rfl⟩) nV rz rfl hmN)<|Zb rfl<|ct<|ZQ rfl (λT=> ?_) λT=> ?_
 refine eP (λa b=>a.grownBy b (some A)) fC (λbx ap=> ?_)
 obtain⟨hB,e,f,h,hmN,ho⟩:=ap.k6 hB e f h hmN ho
 replace o:=ap.iterT o
 obtain⟨r,g,l⟩:=ap.k3 r g l
 have aH:=g
 have hS:=World.grownBy.refl bx (some A)
 refine Tw 0 (.map (some A)) rfl rfl hS<|Tk 1 rfl (λ_ hq=>cz rfl dh rfl (At.grownMap r aH hq)) hS<|Ti 2 rfl rfl hS<|Tw 4 (.map (some P)) rfl rfl hS<|Tk 5 rfl (λ_ hq=>cz rfl dh rfl (At.grownMap r aH hq)) hS<|To 3 rfl (TC (vs:=[.agg #[_,_], .int .i64 _]) xK (lS _ _ _ _ pN pN) rfl λcj ck U bz=>⟨.inl (cB hS (dC.grown U (some A))),?_⟩)
 obtain⟨hB,e,f,h,hmN,ho⟩:=U.k6 hB e f h hmN ho
 replace o:=U.iterT o
 obtain⟨r,g,l⟩:=U.k3 r g l
 replace hS:=cB hS (dC.grown U (some A))
 obtain rfl:=bz
 refine To 6 rfl (H3 (enc:=jo) (encV:=Value.bool) (v0:=false) (k:=(jP z i)) rfl rfl kr ob (λa=>⟨a,rfl⟩) nV rz rfl g λcl cm D bA=>⟨.inl (cB hS D),?_⟩)
 replace hS:=cB hS D
 replace hB:=Zg hB D aw
 replace e:=At.grownMap e g D
 replace f:=At.grownMap f g D
 replace h:=cH.grownMap h g D
 replace hmN:=dy.grownNe hmN Z D
 replace ho:=cH.grownMap ho g D
 replace o:=eO.grownMap o g Z D
 replace r:=At.grownMap r g D
 replace l:=dy.grownNe l (Ne.symm ae) D
 replace g:=bA
 refine Tk 7 rfl (λ_ _=>c7 rfl) hS<|To 8 rfl (Db (encV:=Value.bool) (v:=true) rfl rfl rfl g λcn G bB=>⟨.inl (cB hS G),?_⟩)
 replace hB:=Zg hB G aw
 replace e:=ac7 e g G
 replace f:=ac7 f g G
 replace h:=adf h g G
 replace hmN:=dy.grownNe hmN Z G
 replace ho:=adf ho g G
 replace o:=adn o g Z G
 replace r:=ac7 r g G
 replace l:=dy.grownNe l (Ne.symm ae) G
 replace g:=bB
 rw[jX]at g
 refine To 9 rfl (fK (enc:=jo) (encV:=Value.bool) (k:=z) (v:=true) rfl rfl rfl kr ob (λa=>⟨a,rfl⟩) nV l λco J bC=>⟨.inr ka,?_⟩)
 replace hB:=Zg hB J a3
 replace e:=At.grownMap e l J
 replace f:=At.grownMap f l J
 replace h:=cH.grownMap h l J
 replace hmN:=dy.grownNe hmN ax J
 replace ho:=cH.grownMap ho l J
 replace o:=eO.grownMap o l ax J
 replace r:=At.grownMap r l J
 replace g:=dy.grownNe g ae J
 replace l:=bC
 rw[jX]at l
 refine Td<|ZT rfl rfl rfl ?_
 exact ak _ _ ((i+1,ji nl2 (jP z i),ji ml2 z)) Za ⟨rfl,trivial⟩ ⟨hB,e,f,h,hmN,ho,o,r,g,l,Om,(NH hN2 (BU S T)),(HJ hM2 (BU S T)),trivial⟩ (by show n.toNat-(i+1)<n.toNat-i;omega)
 refine cx<|ZT rfl rfl rfl ?_
 exact ak _ _ ((i+1,nl2,ml2)) Za ⟨rfl,trivial⟩ ⟨hB,e,f,h,hmN,ho,o,r,g,l,Om,(BQ hN2 (B8 T)),(wY hM2 (B8 T)),trivial⟩ (by show n.toNat-(i+1)<n.toNat-i;omega)
 refine Zs<|Zs<|Zs<|Zb rfl<|ct<|dH rfl<|cx<|ZT rfl rfl rfl ?_
 exact ak _ _ ((i+1,nl2,ml2)) Za ⟨rfl,trivial⟩ ⟨hB,e,f,h,hmN,ho,o,r,g,l,Om,(BQ hN2 (Ci S)),(wY hM2 (Ci S)),trivial⟩ (by show n.toNat-(i+1)<n.toNat-i;omega)
 refine cT ?_
 refine a7 _ _ ((z::seen,nl2,ml2)) ?_ ?_ ?_ ?_
 · repeat (first|exact dD.mask _ _ _|refine acx ?_ rfl _|refine aco ?_ _ rfl|refine acg rfl ?_)
 · exact trivial
 · exact⟨hB,e,f,h,hmN,ho,o,g,l,(Nq hN2 (by omega)),(G2 hM2 (by omega)),trivial⟩
 · have hle:=acV o;show (fz now).length-(z::seen).length<(fz now).length-seen.length;simp only[aa5]at hle ⊢;omega
 refine cT<|Zr<|Zw v0 rfl<|Zw v0 rfl<|ZZ rfl<|Zt<|dG (v:=v0) rfl (v1:= .int .i64 0) rfl ⟨hB,?_⟩
 obtain rfl:now=[]:=Il ac
 rw[if_pos hof]
 exact⟨_,rfl,by rw[←Rx ht hLv hOut hRis];exact ho⟩
end
end Go.Proofs.YtedeonkjellcpaaGreatDoor
