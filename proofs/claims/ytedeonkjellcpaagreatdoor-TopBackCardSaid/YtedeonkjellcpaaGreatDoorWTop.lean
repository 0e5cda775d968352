/- The statements at the end that need no check, walked: each answers true. -/
import Derived.Test.YtedeonkjellcpaaGreatDoorWorks
namespace Go.Proofs.YtedeonkjellcpaaGreatDoor
set_option linter.unusedVariables false
set_option linter.unusedSimpArgs false
open Go Go.RowKit
theorem Ob:dT Tryz.prog 49=some (.agg #[.int .i64 0, .int .i64 0]):=by kernel_rfl
theorem zU {f:Nat→Value} {w:World} {d:Option Nat} {ty:TypeId} {ps:String} {af:Array Edge} {g:Option (Nat×Bool)} {x0 x1:Operand} {c0_0 c1_0:Value} (h0:dg f x0=c0_0) (k0:c0_0.cells= #[c0_0]) (h1:dg f x1=c1_0) (k1:c1_0.cells= #[c1_0]):
    (execOp (dg f) ⟨d, .build 49 #[(0,x0),(1,x1)],ty,ps,af,g⟩).run Tryz.prog w= .ok (.value (.agg #[c0_0,c1_0])) w:=by
  obtain⟨i0,hi0,hz0⟩:=Do.1 (show (Tryz.prog.info? 49).bind (·.zero)=_ from Ob)
  obtain⟨j3,hj3,hs3⟩:=go.1 fH
  simp[execOp,h0,k0,h1,k1,Instr.build,zeroValue,typeInfo,sizeOf,hi0,hz0,run_underlying Tryz.underlying49,Instr.fill,dX,hj3,hs3]
theorem Ma:cX Tryz.prog 23=true:=by kernel_rfl
theorem D9 {f:Nat→Value} {w:World} {d:Option Nat} {ty:TypeId} {ps:String} {af:Array Edge} {g:Option (Nat×Bool)}:
    (execOp (dg f) ⟨d, .build 49 #[],ty,ps,af,g⟩).run Tryz.prog w= .ok (.value (.agg #[.int .i64 0, .int .i64 0])) w:=by
  obtain⟨i0,hi0,hz0⟩:=Do.1 (show (Tryz.prog.info? 49).bind (·.zero)=_ from Ob)
  obtain⟨j3,hj3,hs3⟩:=go.1 fH
  simp[execOp,Instr.build,zeroValue,typeInfo,sizeOf,hi0,hz0,run_underlying Tryz.underlying49,Instr.fill,dX,hj3,hs3]
theorem zh:cX Tryz.prog 13=true:=by kernel_rfl
theorem UI:cX Tryz.prog 16=true:=by kernel_rfl
theorem Vd:cX Tryz.prog 17=true:=by kernel_rfl
theorem gN (w:World) (hgl:Gl w):
    Fn Tryz.prog 13 #[] w λv w'=>v= .bool true:=by
 refine cH (n:=39) Tryz.func13 rfl rfl rfl λhB=> ?_
 refine Zr<|Zb rfl<|ct<|Zr<|Zv (zU (h0:=rfl) (k0:=rfl) (h1:=rfl) (k1:=rfl) (c0_0:= .int .i64 20000) (c1_0:= .int .i64 1000000))<|ZC (vs:=[.string _, .agg #[_,_]]) Ma (AW Ly 20000 1000000 _ (Gl.below hB hgl) Dd QA) rfl λz W5 h i=> ?_
 replace hB:=Ze hB h
 obtain⟨tx1_1,how1_1,why1_1,rows1_1,ln1_1,e1_1,rfl,j⟩:=i
 obtain⟨rfl,rfl,rfl,rfl,rfl⟩:=Zu j
 refine Zw (.tuple #[.agg #[.string _, .int .i64 1, .int .i64 _, .int .i64 2], .int .i64 0, .int .i64 0]) rfl<|Zv (iO rfl)<|Zv (kf rfl)<|Zv (jS rfl)<|Zy (cI Cf rfl λA W8 k l a=> ?_)
 have m:=ZO k hB
 replace hB:=Ze hB l
 refine Zy (cz rfl rfl pE rfl a rfl rfl λB o p=> ?_)
 replace hB:=Zg hB o m
 replace a:=p
 refine Zi rfl<|ZZ rfl<|Zr<|Zv (D9)<|ZC (vs:=[.string _, .agg #[_,_]]) Ma (AW Wz 0 0 _ (Gl.below hB hgl) Dd RB) rfl λC D q r=> ?_
 obtain⟨hB,a⟩:=q.k2 hB a
 obtain⟨tx2_1,how2_1,why2_1,rows2_1,ln2_1,e2_1,rfl,s⟩:=r
 obtain⟨rfl,rfl⟩:=YR s
 refine Zw (.tuple #[.agg #[.string _, .int .i64 _, .int .i64 _, .int .i64 _], .int .i64 2, .int .i64 2]) rfl<|Zv (iO rfl)<|Zv (kf rfl)<|Zv (jS rfl)<|Zy (cI Cf rfl λE F b t u=> ?_)
 have x:=ZO b hB
 have y:=Zn b a.lt
 obtain⟨hB,a⟩:=t.k2 hB a
 refine Zy (cz rfl rfl pE rfl u rfl rfl λG c H=> ?_)
 replace hB:=Zg hB c x
 replace a:=At.grownNe a y c
 refine Zi rfl<|ZZ rfl<|Zr<|Zf rfl Ba<|Zl rfl cK a rfl<|Zv (dW rfl rfl)<|ZX rfl (λd=> ?_) λd=> ?_
 refine Zf rfl Bb<|Zl rfl cK a rfl<|Zv (dW rfl rfl)<|Zb rfl<|ZX rfl (λe=> ?_) λe=> ?_
 refine Zi rfl<|Zv (dW rfl rfl)<|Zb rfl<|ZX rfl (λf=> ?_) λf=> ?_
 refine Zi rfl<|Zv (dW rfl rfl)<|Zb rfl<|ZX rfl (λg=> ?_) λg=> ?_
 refine Zi rfl<|Zv (dW rfl rfl)<|Zb rfl<|Zb rfl<|ct<|Zt<|cV (v:= .bool _) rfl ⟨hB,?_⟩
 rfl
 exact absurd rfl g
 exact absurd rfl f
 exact absurd rfl e
 exact absurd rfl d
theorem pH (T:Tb) (lv:Value) (vs:List uI) (i p:Nat) (w:World) (hgl:Gl w) (hlv:dh iH 3 w lv vs) (hls:jX w vs T.ls) (hmb:∀i,i<T.ls.length→(T.ls.getD i eV).c.m<256∧(T.ls.getD i eV).c.v<256) (hi:i<256) (hp:p<256) (hvl:vs.length≤9223372036854775807):
    Fn Tryz.prog 3 #[.agg #[.int .i64 T.kind, .int .i64 T.ni, .int .i64 T.no,lv], .int .u8 (i:Int), .int .u8 (p:Int)] w λv w'=>v= .bool true:=by
 refine cH (n:=104) Tryz.func3 rfl rfl rfl λhB=> ?_
 have hle:=hls.len
 refine Zr<|Zy (dt (c:= #[_,_,_,_]) rfl rfl λaK W3 aL O a=> ?_)
 replace hB:=Ze hB O
 refine Zb rfl<|ct<|Zq<|Zr<|Zf rfl eq<|ZL lv rfl fF a rfl<|Zv (cT (v:=lv) rfl (Below.slT hB hlv) ff)<|Zv (il rfl rfl)<|ZX rfl (λP=> ?_) λP=> ?_
 refine Zs<|Zs<|Zs<|Zb rfl<|ct<|cF rfl<|Zr<|ZC zh (gN _ (Gl.below hB hgl)) rfl λQ aM R l=> ?_
 replace hB:=Ze hB R
 obtain rfl:=l
 refine Zb rfl<|ct<|Zt<|cV (v:= .bool _) rfl ⟨hB,?_⟩
 rfl
 refine Zv (cy rfl eA rfl a)<|ZC (vs:=[.agg #[_,_,_,_]]) T3 (pZ _ _ _ _ (Below.slT hB hlv) (jX.below hB hls) m5) rfl λaN aO S U=> ?_
 obtain⟨hB,a⟩:=S.k2 hB a
 obtain rfl:=U
 refine Zv (eR rfl)<|Zb rfl<|ct<|ZQ rfl (λA=> ?_) λA=> ?_
 refine Zr<|ZC zh (gN _ (Gl.below hB hgl)) rfl λQ aP V l=> ?_
 replace hB:=Ze hB V
 obtain rfl:=l
 refine Zb rfl<|ct<|Zt<|cV (v:= .bool _) rfl ⟨hB,?_⟩
 rfl
 refine cu ?_
 have hr:fc T=true:=Hk A
 obtain⟨hk0,hk3,hi0,hi8,hno1,hno4,hl64⟩:=iu hr
 have hol:=P6 hr
 refine Zr<|Zv (cy rfl eA rfl a)<|ZC (vs:=[.agg #[_,_,_,_]]) LJ (wP _ _ _ _ (Gl.below hB hgl) (Below.slT hB hlv) (jX.below hB hls) m5) rfl λaQ aR W B=> ?_
 obtain⟨hB,a⟩:=W.k2 hB a
 rw[if_pos hr]at B
 obtain rfl:=B
 refine Zw (.tuple #[.string _, .int .i64 0]) rfl<|Zv (c7 rfl)<|Zv (da rfl)<|Zw (.string _) rfl<|ZZ rfl<|Zr<|Zw (.string _) rfl<|ZC Nn (wQ (jy T) _ (Gl.below hB hgl) (by have:=zP hr;omega)) rfl λaS C X D=> ?_
 obtain⟨hB,a⟩:=X.k2 hB a
 rw[EH hr]at D
 obtain⟨Y,E,rfl,hsl4_1,k⟩:=D
 replace hsl4_1:=cD.sl hsl4_1
 replace k:=iT.at k
 refine Zw (.tuple #[.agg #[.int .i64 _, .int .i64 _, .int .i64 _,Y], .int .i64 _, .int .i64 _]) rfl<|Zv (iO rfl)<|Zv (kf rfl)<|Zv (jS rfl) ?_
 have o:=Gl.below hB hgl
 have e:=Below.slT hB hlv
 have F:=jX.below hB hls
 have f:=hB
 replace hB:=Below.refl C.heap.size C
 refine Zy (cI sZ rfl λaT aU Z aa g=> ?_)
 have ab:=ZO Z hB
 replace hB:=Ze hB aa
 refine Zy (cz rfl rfl eA rfl g rfl (by exact vE (dh.one hsl4_1)) λaV ac ad=> ?_)
 replace hB:=Zg hB ac ab
 replace g:=ad
 refine Zi rfl<|ZZ rfl<|Zq<|Zr<|Zi rfl<|Zv (ep rfl rfl)<|ZX rfl (λG=> ?_) λG=> ?_
 exact absurd rfl G
 refine Zi rfl<|Zv (ep rfl rfl)<|Zb rfl<|ZX rfl (λH=> ?_) λH=> ?_
 exact absurd rfl H
 refine Zv (cy rfl eA rfl (On hB a))<|Zv (cy rfl eA rfl g)<|ZC (vs:=[.agg #[_,_,_,_], .agg #[_,_,_,_]]) UI (qu T _ vs T _ E _ (Below.slT hB e) (jX.below hB F) hmb (Below.slT hB hsl4_1) (jX.below hB k) hmb Om hol) rfl λaW aX ae af=> ?_
 obtain⟨hB,g⟩:=ae.k2 hB g
 obtain rfl:=af
 refine Zv (eR rfl)<|Zb rfl<|ZX rfl (λI=> ?_) λI=> ?_
 simp at I
 refine Zv (cy rfl eA rfl (On hB a))<|Zv (cy rfl eA rfl g)<|ZC (vs:=[.agg #[_,_,_,_], .agg #[_,_,_,_]]) Vd (HD T _ vs T _ E _ (Below.slT hB e) (jX.below hB F) hmb (Below.slT hB hsl4_1) (jX.below hB k) hmb Om hol) rfl λaY aZ ag ah=> ?_
 replace hB:=Ze hB ag
 obtain rfl:=ah
 refine Zv (eR rfl)<|Zb rfl<|ct<|ZQ rfl (λJ=> ?_) λJ=> ?_
 simp at J
 refine cu<|Zq<|Zr<|Zf rfl eq<|ZL lv rfl fF (On hB a) rfl<|Zv (cT (v:=lv) rfl (Below.slT hB e) ff)<|Zv (dW rfl rfl)<|ct<|ZQ rfl (λai=> ?_) λai=> ?_
 refine Zr<|ZC zh (gN _ (Gl.below hB o)) rfl λa0 a1 aj ak=> ?_
 replace hB:=Ze hB aj
 obtain rfl:=ak
 refine Zb rfl<|ct ?_
 refine lh ?_
 have hzs:=an (am _) (Below.size f)
 replace hB:=Below.trans f (Below.mono hB hzs)
 repeat (first|refine eJ ?_|refine eg ?_)
 refine cV (v:= .bool _) rfl ⟨hB,?_⟩
 rfl
 refine cu ?_
 obtain⟨q,hqi⟩:∃q,q=i%vs.length:=⟨_,rfl⟩
 have hkv:q<vs.length:=hqi▸aaS _ (by omega)
 have hk:q<T.ls.length:=by omega
 have hbk:=hmb _ hk
 obtain⟨hrb,_,_⟩:=lj.1 (mw hr hk)
 have hck:=hls.c _ hk
 rw[←hck]at hbk hrb
 refine Zd dz λal ao=> ?_
 replace hB:=Ze hB ao
 have hS:=dz.refl al
 refine Tf 0 rfl rfl eq hS<|Tk 1 rfl (λ_ hq=>cB (v:=lv) rfl fF (At.cell (hq.at (On hB a)) rfl)) hS<|Ti 2 rfl rfl hS<|Tk 3 rfl (λ_ _=>ic rfl Tryz.underlying5 Tryz.underlying3 tk) hS<|Tf 4 rfl rfl eq hS<|Tk 5 rfl (λ_ hq=>cB (v:=lv) rfl fF (At.cell (hq.at (On hB a)) rfl)) hS<|Tk 6 rfl (λ_ hq=>cT (v:=lv) rfl (hq.slT (Below.slT hB e)) ff) hS<|Tk 7 rfl (λ_ _=>VO (m:=i) (n:=vs.length) (q:=q) rfl rfl rfl Om hqi) hS<|Tk 8 rfl (λ_ hq=>df (v:=lv) rfl (hq.slT (Below.slT hB e)) rfl ff Om (by omega)) hS<|Tf 9 rfl rfl jf hS<|Tk 10 rfl (λ_ hq=>fD rfl cZ (dh.cell (hq.slT (Below.slT hB e)) ex fL Om (by omega) 0 rfl) (dh.cell (hq.slT (Below.slT hB e)) ex fL Om (by omega) 1 rfl)) hS<|To 11 rfl (cI gV rfl λa2 a3 ap K b=>⟨.inl (hS.trans K),?_⟩)
 have aq:=ZO ap hB
 replace hB:=Ze hB K
 refine To 12 rfl (cz rfl rfl cZ rfl b rfl rfl λa4 ar au=>⟨.inr jW,?_⟩)
 replace hB:=Zg hB ar aq
 replace b:=au
 refine Td<|Zr<|Zv (cy rfl cZ rfl b)<|Zf rfl fx<|Zl rfl cK (On hB a) rfl<|ZC (vs:=[.agg #[_,_], .int .i64 _]) vO (ju (vs.getD q fL).c.m (vs.getD q fL).c.v T.ni _ hbk.1 hbk.2) rfl λa5 a6 av L=> ?_
 obtain⟨hB,b⟩:=av.k2 hB b
 rw[if_pos hrb]at L
 obtain rfl:=L
 refine Zw (.tuple #[.agg #[_,_,_,_], .int .i64 0]) rfl<|Zv (c7 rfl)<|Zv (da rfl)<|Zy (cI ee rfl λaw ax ay az d=> ?_)
 have aA:=ZO ay hB
 obtain⟨hB,b⟩:=az.k2 hB b
 replace d:At ax aw #[wv 0 0,wv 0 1,wv 0 2,wv 0 3] 40:=d
 refine Zy (cz rfl rfl cA rfl d rfl rfl λa7 M aB=> ?_)
 replace hB:=Zg hB M aA
 replace b:=At.grownAt b d M Dd
 replace d:=aB
 refine ZZ rfl<|Zr<|Zf rfl fx<|Zl rfl cK (On hB a) rfl<|ZC Vq (qA T.ni _ hi0 hi8) rfl λr a8 aC h=> ?_
 have aD:=(Below.size hB)
 obtain⟨hB,b,d⟩:=aC.k3 hB b d
 replace h:=cD.mono h aD
 refine Zw r rfl<|ct<|Zd dz λaE aF=> ?_
 obtain⟨hB,b,d,h⟩:=aF.k4 hB b d h
 have hS:=dz.refl aE
 refine Ti 0 rfl rfl hS<|Tk 1 rfl (λ_ _=>dW rfl rfl) hS<|Tx 2 rfl (λ_ _=>jL (v:= .bool _) rfl) hS (λN=> ?_) λN=> ?_
 refine Tk 3 rfl (λ_ hq=>cy rfl cA rfl (hq.at d)) hS<|Ti 4 rfl rfl hS<|Tk 5 rfl (λ_ _=>ic rfl Tryz.underlying5 Tryz.underlying3 tk) hS<|Tw 7 r rfl rfl hS<|Ti 8 rfl rfl hS<|Tk 9 rfl (λ_ _=>ic rfl Tryz.underlying5 Tryz.underlying3 tk) hS<|Tk 10 rfl (λ_ hq=>df (v:=r) rfl ((hq.ow h)).sl rfl CA Om (by (simp only[pL];omega))) hS<|Tk 11 rfl (λ_ hq=>cB (v:= .bool _) rfl Hg (dh.cell ((hq.ow h)).sl yv false Om (by (simp only[pL];omega)) 0 rfl)) hS<|To 6 rfl (TC (vs:=[.agg #[_,_,_,_], .int .i64 _]) GD (vR _ _ _) rfl λa9 ba s aG=>⟨.inl (hS.trans s),?_⟩)
 have aH:=b
 replace hB:=Ze hB s
 replace hS:=hS.trans s
 obtain rfl:=aG
 refine Tx 12 rfl (λ_ _=>jL (v:= .bool _) rfl) hS (λt=> ?_) λt=> ?_
 refine Tk 13 rfl (λ_ hq=>cy rfl cZ rfl (hq.at aH)) hS<|Ti 14 rfl rfl hS<|Tk 15 rfl (λ_ _=>ic rfl Tryz.underlying5 Tryz.underlying3 tk) hS<|To 16 rfl (TC (vs:=[.agg #[_,_], .int .i64 _]) Uv (qH (vs.getD q fL).c.m (vs.getD q fL).c.v p _ hbk.1 hbk.2 hp) rfl λbb bc u aI=>⟨.inl (hS.trans u),?_⟩)
 replace hB:=Ze hB u
 replace hS:=hS.trans u
 obtain rfl:=aI
 refine Ty 17 rfl rfl hS<|Tk 18 rfl (λ_ _=>Hf rfl rfl Tryz.underlying4) hS<|Ty 19 rfl rfl hS<|Tx 20 rfl (λ_ _=>jL (v:= .bool _) rfl) hS (λj=> ?_) λj=> ?_
 refine To 21 rfl (TC zh (gN _ (Gl.below hB o)) rfl λaJ bd x y=>⟨.inl (hS.trans x),?_⟩)
 replace hB:=Ze hB x
 replace hS:=hS.trans x
 obtain rfl:=y
 refine Ty 22 rfl rfl hS<|Ty 23 rfl rfl hS<|Td ?_
 refine lh ?_
 have hzs:=an (am _) (Below.size f)
 replace hB:=Below.trans f (Below.mono hB hzs)
 repeat (first|refine eJ ?_|refine eg ?_)
 refine cV (v:= .bool _) rfl ⟨hB,?_⟩
 rfl
 exact absurd (XU hrb hp t) j
 refine Tp 13 rfl hS<|Tp 14 rfl hS<|Tp 15 rfl hS<|Tp 16 rfl hS<|Ty 17 rfl rfl hS<|Tk 18 rfl (λ_ _=>Hf rfl rfl Tryz.underlying4) hS<|Ty 19 rfl rfl hS<|Tx 20 rfl (λ_ _=>jL (v:= .bool _) rfl) hS (λj=> ?_) λj=> ?_
 refine To 21 rfl (TC zh (gN _ (Gl.below hB o)) rfl λaJ bf z y=>⟨.inl (hS.trans z),?_⟩)
 replace hB:=Ze hB z
 replace hS:=hS.trans z
 obtain rfl:=y
 refine Ty 22 rfl rfl hS<|Ty 23 rfl rfl hS<|Td ?_
 refine lh ?_
 have hzs:=an (am _) (Below.size f)
 replace hB:=Below.trans f (Below.mono hB hzs)
 repeat (first|refine eJ ?_|refine eg ?_)
 refine cV (v:= .bool _) rfl ⟨hB,?_⟩
 rfl
 exact absurd (X6 hrb hp t) j
 exact absurd rfl N
end Go.Proofs.YtedeonkjellcpaaGreatDoor
