/- The walks of the reader. Primes out of cubes of one literal less, again and again. No program in it. The walks of package prime, but for the function All. The walk of prime.All. Each cube within a set is held by a prime; the primes' points are the set's. No program in it. -/
import Derived.Test.YtedeonkjellcpaaGreatDoorPars
namespace Go.Proofs.YtedeonkjellcpaaGreatDoor
set_option linter.unusedVariables false
set_option linter.unusedSimpArgs false
section
open Go Go.RowKit
theorem Uz:cX Tryz.prog 91=true:=by kernel_rfl
theorem R4:cX Tryz.prog 166=true:=by kernel_rfl
theorem gX:dS Tryz.prog 114 0=some 0:=by kernel_rfl
theorem rY:(Tryz.prog.info? 34).map (·.size)=some 2:=by kernel_rfl
theorem vK:(Tryz.prog.info? 35).map (·.size)=some 1:=by kernel_rfl
theorem ux {f:Nat→Value} {w:World} {d:Option Nat} {ty:TypeId} {ps:String} {af:Array Edge} {g:Option (Nat×Bool)} {x0:Operand} {c0_0 c0_1:Value} (h0:dg f x0= .agg #[c0_0,c0_1]):
    (execOp (dg f) ⟨d, .build 37 #[(0,x0)],ty,ps,af,g⟩).run Tryz.prog w= .ok (.value (.agg #[c0_0,c0_1, .slice none 0 0])) w:=by
  obtain⟨i0,hi0,hz0⟩:=Do.1 (show (Tryz.prog.info? 37).bind (·.zero)=_ from l8)
  obtain⟨j34,hj34,hs34⟩:=go.1 rY
  obtain⟨j35,hj35,hs35⟩:=go.1 vK
  simp[execOp,h0,Instr.build,zeroValue,typeInfo,sizeOf,hi0,hz0,run_underlying Tryz.underlying37,Instr.fill,dX,hj34,hs34,hj35,hs35]
theorem xx:(dT Tryz.prog 37).map (λz=>z.cells.size)=some 3:=by kernel_rfl
theorem gZ:dS Tryz.prog 114 1=some 4:=by kernel_rfl
theorem CG:cX Tryz.prog 124=true:=by kernel_rfl
theorem xG:cX Tryz.prog 123=true:=by kernel_rfl
theorem tG:dS Tryz.prog 114 2=some 5:=by kernel_rfl
theorem SP:cX Tryz.prog 126=true:=by kernel_rfl
theorem sZ:dT Tryz.prog 24=some (.agg #[.int .i64 0, .int .i64 0, .int .i64 0, .slice none 0 0]):=by kernel_rfl
theorem fH:(Tryz.prog.info? 3).map (·.size)=some 1:=by kernel_rfl
theorem v8:(Tryz.prog.info? 22).map (·.size)=some 1:=by kernel_rfl
theorem jV {f:Nat→Value} {w:World} {d:Option Nat} {ty:TypeId} {ps:String} {af:Array Edge} {g:Option (Nat×Bool)}:
    (execOp (dg f) ⟨d, .build 24 #[],ty,ps,af,g⟩).run Tryz.prog w= .ok (.value (.agg #[.int .i64 0, .int .i64 0, .int .i64 0, .slice none 0 0])) w:=by
  obtain⟨i0,hi0,hz0⟩:=Do.1 (show (Tryz.prog.info? 24).bind (·.zero)=_ from sZ)
  obtain⟨j3,hj3,hs3⟩:=go.1 fH
  obtain⟨j22,hj22,hs22⟩:=go.1 v8
  simp[execOp,Instr.build,zeroValue,typeInfo,sizeOf,hi0,hz0,run_underlying Tryz.underlying24,Instr.fill,dX,hj3,hs3,hj22,hs22]
theorem CM {f:Nat→Value} {w:World} {d:Option Nat} {ty:TypeId} {ps:String} {af:Array Edge} {g:Option (Nat×Bool)} {x0:Operand} {c0_0:Value} (h0:dg f x0=c0_0) (k0:c0_0.cells= #[c0_0]):
    (execOp (dg f) ⟨d, .build 24 #[(0,x0)],ty,ps,af,g⟩).run Tryz.prog w= .ok (.value (.agg #[c0_0, .int .i64 0, .int .i64 0, .slice none 0 0])) w:=by
  obtain⟨i0,hi0,hz0⟩:=Do.1 (show (Tryz.prog.info? 24).bind (·.zero)=_ from sZ)
  obtain⟨j3,hj3,hs3⟩:=go.1 fH
  obtain⟨j22,hj22,hs22⟩:=go.1 v8
  simp[execOp,h0,k0,Instr.build,zeroValue,typeInfo,sizeOf,hi0,hz0,run_underlying Tryz.underlying24,Instr.fill,dX,hj3,hs3,hj22,hs22]
theorem QQ:dT Tryz.prog 114=some (.agg #[.int .i64 0, .int .i64 0, .int .i64 0, .slice none 0 0, .int .i64 0, .int .i64 0]):=by kernel_rfl
theorem AH:(Tryz.prog.info? 24).map (·.size)=some 4:=by kernel_rfl
theorem w6 {f:Nat→Value} {w:World} {d:Option Nat} {ty:TypeId} {ps:String} {af:Array Edge} {g:Option (Nat×Bool)} {x0 x1:Operand} {c0_0 c0_1 c0_2 c0_3 c1_0:Value} (h0:dg f x0= .agg #[c0_0,c0_1,c0_2,c0_3]) (h1:dg f x1=c1_0) (k1:c1_0.cells= #[c1_0]):
    (execOp (dg f) ⟨d, .build 114 #[(0,x0),(2,x1)],ty,ps,af,g⟩).run Tryz.prog w= .ok (.value (.agg #[c0_0,c0_1,c0_2,c0_3, .int .i64 0,c1_0])) w:=by
  obtain⟨i0,hi0,hz0⟩:=Do.1 (show (Tryz.prog.info? 114).bind (·.zero)=_ from QQ)
  obtain⟨j3,hj3,hs3⟩:=go.1 fH
  obtain⟨j24,hj24,hs24⟩:=go.1 AH
  simp[execOp,h0,h1,k1,Instr.build,zeroValue,typeInfo,sizeOf,hi0,hz0,run_underlying Tryz.underlying114,Instr.fill,dX,hj3,hs3,hj24,hs24]
theorem U8:cX Tryz.prog 58=true:=by kernel_rfl
theorem U0:cX Tryz.prog 59=true:=by kernel_rfl
theorem sr (N br:Nat) (r:Rd) (line:List UInt8) (w:World) (hN0:N≤w.heap.size) (hgl:∀W,Below N w W→Gl W) (hl:line.length≤10000) (lob:N≤br) (h64:r.T.ls.length≤64) (hR:pr 114 37 3 N w br (r)):
    mS Tryz.prog 126 #[.pointer (some ⟨br,0,none⟩),eM line] w λv w'=>Dx 37 N [br] w w'∧((jE r.T.ni r.T.no line=true∧v= .bool true∧pr 114 37 3 N w' br (⟨{r.T with ls:=r.T.ls++[E3 line]},r.st,r.told⟩))∨(jE r.T.ni r.T.no line=false∧v= .bool false∧pr 114 37 3 N w' br (r))):=by
 refine d5 (n:=88) (N:=N) Tryz.func126 rfl rfl rfl λhB=> ?_
 have hX:Dx 37 N [br] w w:=Dx.refl
 obtain⟨lv,vs,hrd,hlv,hls⟩:=hR
 have hlen:=hls.len
 have hbl:=(RE line [32]).2
 refine Zr<|Zb rfl<|ct<|Zr<|Zw (.string _) rfl<|ZC Uz (Am _ _ _ (hgl _ hB) (by omega)) rfl λaO W5 Y ae=> ?_
 obtain⟨hrd,hlv,hls,hX⟩:=Y.k4 hrd hlv hls hX
 replace hB:=cW hB Y hN0
 obtain rfl:=ae
 refine Zw (.tuple #[.string _, .string _, .bool _]) rfl<|Zv (iO rfl)<|Zv (kf rfl)<|Zv (jS rfl)<|Zw (.string _) rfl<|Zw (.string _) rfl<|Zb rfl<|ct ?_
 have f:=hB
 replace hB:=Below.refl W5.heap.size W5
 refine Zr<|Zw (.string _) rfl<|ZC R4 (C4 _ _) rfl λaP aQ af z=> ?_
 replace hB:=Ze hB af
 by_cases hcub2_1:nO (Lib.cut line [32]).1=true
 rw[if_pos hcub2_1]at z
 obtain rfl:=z
 refine Zw (.tuple #[.agg #[_,_], .int .i64 0]) rfl<|Zv (c7 rfl)<|Zv (da rfl)<|Zy (cI gV rfl λZ aR ag ah d=> ?_)
 have J:=ZO ag hB
 replace hB:=Ze hB ah
 refine Zy (cz rfl rfl cZ rfl d rfl rfl λaS ai aj=> ?_)
 replace hB:=Zg hB ai J
 replace d:=aj
 refine ZZ rfl<|Zq<|Zr<|Zb rfl<|Zv (eR rfl)<|ZX rfl (λg=> ?_) λg=> ?_
 refine Zs<|Zs<|Zb rfl<|Zb rfl<|Zs<|Zs<|Zs<|Zs<|Zs<|Zs<|Zs<|Zs<|Zb rfl<|Zb rfl ?_
 refine Zs<|Zs<|Zs<|Zs<|Zs<|Zs<|Zs<|Zs<|Zb rfl<|ct<|cF rfl<|Zr<|Zb rfl<|ct ?_
 refine lh ?_
 replace hrd:=On hB hrd
 replace hlv:=Below.ow hB hlv
 replace hls:=iT.below hB hls
 replace hX:=Dx.trans hX (Dx.below hB)
 have hzs:=an hN0 (Below.size f)
 repeat (first|refine eJ ?_|refine eg ?_)
 refine cV (v:= .bool false) rfl ?_
 refine⟨hX, .inr ⟨?_,rfl,⟨lv,vs,hrd,hlv,hls⟩⟩⟩
 exact O6 g
 refine Zi rfl<|Zv (ep rfl rfl)<|Zb rfl<|ZX rfl (λo=> ?_) λo=> ?_
 exact(o rfl).elim
 refine Zw (.string _) rfl<|Zv (yS rfl Tryz.underlying9)<|Zp rfl<|Zc rfl<|Zf rfl gX<|Zf rfl fx<|Zl rfl cK (On hB hrd) rfl<|Zv (ep rfl rfl)<|Zb rfl<|ZX rfl (λK=> ?_) λK=> ?_
 refine Zs<|Zs<|Zs<|Zs<|Zs<|Zs<|Zs<|Zs<|Zb rfl<|ct<|cF rfl<|Zr<|Zb rfl<|ct ?_
 refine lh ?_
 replace hrd:=On hB hrd
 replace hlv:=Below.ow hB hlv
 replace hls:=iT.below hB hls
 replace hX:=Dx.trans hX (Dx.below hB)
 have hzs:=an hN0 (Below.size f)
 repeat (first|refine eJ ?_|refine eg ?_)
 refine cV (v:= .bool false) rfl ?_
 refine⟨hX, .inr ⟨?_,rfl,⟨lv,vs,hrd,hlv,hls⟩⟩⟩
 exact Vj K
 refine Zw (.string _) rfl<|Zv (yS rfl Tryz.underlying9)<|Zp rfl<|Zc rfl<|Zf rfl gX<|Zf rfl f6<|Zl rfl cK (On hB hrd) rfl<|Zv (ep rfl rfl)<|Zb rfl<|ct<|ZQ rfl (λL=> ?_) λL=> ?_
 refine Zr<|Zb rfl<|ct ?_
 refine lh ?_
 replace hrd:=On hB hrd
 replace hlv:=Below.ow hB hlv
 replace hls:=iT.below hB hls
 replace hX:=Dx.trans hX (Dx.below hB)
 have hzs:=an hN0 (Below.size f)
 repeat (first|refine eJ ?_|refine eg ?_)
 refine cV (v:= .bool false) rfl ?_
 refine⟨hX, .inr ⟨?_,rfl,⟨lv,vs,hrd,hlv,hls⟩⟩⟩
 exact VM L
 refine cu<|Zr<|Zv (cy rfl cZ rfl d)<|Zv (ux (h0:=rfl))<|Zy (cI l8 rfl λak aT al ao c=> ?_)
 have A:=ZO al hB
 obtain⟨hB,d⟩:=ao.k2 hB d
 refine Zy (cz rfl rfl gp rfl c rfl rfl λaU aa ap=> ?_)
 replace hB:=Zg hB aa A
 replace d:=At.grownAt d c aa Dd
 replace c:=ap
 refine ct<|Zq<|Zr<|Zw (.string _) rfl<|Zy (EZ rfl Tryz.underlying9 λaq aV ar au av=> ?_)
 have aw:=ZO ar hB
 obtain⟨hB,d,c⟩:=au.k3 hB d c
 refine ct<|cx ?_
 refine cS (σ:=(Nat)×(Value)) [4,4,12,12,54,75] (λ(i,ov)=>[]) (λsg W=>match sg with|(i,ov)=>(Below W5.heap.size W5 W)∧(At W Z _ 34)∧(qi W aq (Lib.cut line [32]).2.1 i)∧(At W ak #[.int .u8 ((Aw (Lib.cut line [32]).1).m:Int), .int .u8 ((Aw (Lib.cut line [32]).1).v:Int),ov] 37)∧(cD dJ 1 3 W W5.heap.size ov (sL ((Lib.cut line [32]).2.1.take i)))∧(i≤(Lib.cut line [32]).2.1.length)∧(∀q,q<i→ss (iY (Lib.cut line [32]).2.1 q)=true)∧(True)) (λ(i,ov)=>(Lib.cut line [32]).2.1.length-i) ((0, .slice none 0 0)) trivial ⟨hB,d,av,c,cD.nil,(my _),ef,trivial⟩ ?_
 rintro⟨i,ov⟩ aW aX ⟨hB,d,hit,c,hov,hi,hq,_⟩ aY M
 refine Zr ?_
 refine gK (dd:=some 54) rfl rfl rfl (Ia rfl hit (λaZ=> ?_) (λab O a0 ax a1 ay B az=> ?_))
 refine Zv (qy rfl)<|ct<|Zq<|dA rfl<|cR ?_
 replace hrd:=On hB hrd
 replace hlv:=Below.ow hB hlv
 replace hls:=iT.below hB hls
 replace hX:=Dx.trans hX (Dx.below hB)
 have hzs:=an hN0 (Below.size f)
 replace hov:=cD.mono hov hzs
 replace hB:=Below.trans f (Below.mono hB hzs)
 have hie:i=(Lib.cut line [32]).2.1.length:=by omega
 subst hie
 rw[aan]at hov
 refine Zd (λa b=>a.grownBy b lv.ownBlock) λaA P=> ?_
 obtain⟨hrd,hlv,hls,hX⟩:=P.k4 hrd hlv hls hX
 replace hB:=cW hB P hN0
 obtain⟨c,hov⟩:=P.k2 c hov
 have aB:=hlv
 have hS:=World.grownBy.refl aA lv.ownBlock
 refine Tq 0 rfl rfl hS<|Tq 1 rfl rfl hS<|Tc 2 rfl rfl hS<|Tf 3 rfl rfl gX hS<|Tf 4 rfl rfl eq hS<|Tk 5 rfl (λ_ hq=>cB (v:=lv) rfl fF (At.cell (At.grownOw hrd aB hq Dd) rfl)) hS ?_
 refine jK (dd:=some 82) 6 jW rfl rfl rfl rfl (Yd.val (cy rfl gp rfl c) ⟨.inl hS,?_⟩)
 refine To 7 rfl (eK (u:= .agg #[_,_,_]) rfl ff xx rfl Dd Dd λaC a2 a3 p aD=>⟨.inl (cC hS (dz.grown p lv.ownBlock)),?_⟩)
 obtain⟨hrd,hlv,hls,hX⟩:=p.k4 hrd hlv hls hX
 replace hB:=cW hB p hN0
 replace hov:=p.ow hov
 replace hS:=cC hS (dz.grown p lv.ownBlock)
 refine To 8 rfl (dZ (v:=lv) (v2:= .slice (some ⟨aC,0,none⟩) 1 1) rfl rfl ff xx Dd hlv (eT aD rfl) (mN (dh.one (cD.sl hov))) (n4 hB) Om Om λaE a4 h j=>⟨.inl (cC hS h),?_⟩)
 replace hS:=cC hS h
 replace j:=cD.snoc (enc:=iH) (x:=⟨Aw (Lib.cut line [32]).1,ov⟩) rfl rfl rfl rfl j
 replace hrd:=At.grownOw hrd hlv h Dd
 replace hls:=iT.grownOw hls hlv h Dd
 replace hX:=Dx.trans hX (Dx.row hlv h)
 replace hov:=cD.grownOw hov hlv h Dd
 refine Tc 9 rfl rfl hS<|Tf 10 rfl rfl gX hS<|Tf 11 rfl rfl eq hS<|To 12 rfl (dm (v:=aE) rfl rfl fF (dh.one j.sl) hrd gj λa5 C aF=>⟨.inr jW,?_⟩)
 replace hls:=iT.grownAt hls hrd C Dd
 replace hX:=Dx.trans hX (Dx.grown C gj lob)
 replace hov:=cD.grownAt hov hrd C Dd
 replace j:=cD.grownAt j hrd C Dd
 replace hrd:=aF
 replace hrd:At _ _ #[_,_,_,_,_,_] _:=hrd
 refine Td<|Zr<|Zb rfl<|ct<|Zt<|cV (v:= .bool true) rfl ?_
 exact⟨hX, .inl ⟨Xq g hcub2_1 K L hq,rfl,⟨_,_,hrd,j,iT.snoc (l:=E3 line) hls rfl hov⟩⟩⟩
 replace hB:=Zg hB B aw
 replace d:=ace d hit B
 replace c:=ace c hit B
 replace hov:=acz hov hit B
 replace hit:=az
 refine Zv (iO rfl)<|ct<|Zq<|cF rfl<|cu<|cx<|Zr<|Zv (jS rfl)<|ZZ rfl<|Zr<|ZZ rfl ?_
 refine cx<|Zq<|Zr<|Zv (dW rfl rfl)<|Zb rfl<|ct<|ZQ rfl (λQ=> ?_) λQ=> ?_
 refine cu<|ZQ rfl (λs=> ?_) λs=> ?_
 refine cN<|Zf rfl d8<|ZL ov rfl dV c rfl<|Zi rfl<|Zv (Fr (n:=48) rfl rfl rfl Om Om)<|Zv (ic rfl Tryz.underlying21 Tryz.underlying3 oG)<|Zy (eK (u:= .int .i64 _) rfl cM eQ rfl Dd Dd λR a6 a7 S U=> ?_)
 obtain⟨hB,d⟩:=S.k2 hB d
 replace hit:=S.itW hit
 obtain⟨c,hov⟩:=S.k2 c hov
 refine Zy (dZ (v:=ov) (v2:= .slice (some ⟨R,0,none⟩) 1 1) rfl rfl cM eQ Dd hov (eT U rfl) rfl (n4 hB) Km Km λt a8 D e=> ?_)
 replace e:=cD.snoc (enc:=dJ) (x:=_) rfl rfl rfl rfl e
 replace hB:=ZG hB D hov
 replace d:=At.grownOw d hov D Dd
 replace hit:=qi.grownOw hit hov D
 replace c:=At.grownOw c hov D Dd
 refine Zf rfl d8<|Zy (dm (v:=t) rfl rfl dV (dh.one e.sl) c gj λa9 E aG=> ?_)
 replace hB:=Zg hB E A
 replace d:=At.grownAt d c E Dd
 replace hit:=qi.grownAt hit c E
 replace e:=cD.grownAt e c E Dd
 replace c:=aG
 replace c:At _ _ #[_,_,_] _:=c
 refine ct ?_
 have hbn:(iY (Lib.cut line [32]).2.1 i=49∨iY (Lib.cut line [32]).2.1 i=48∨iY (Lib.cut line [32]).2.1 i=45)∧O=i+1:=by omega
 obtain⟨y,hn⟩:=hbn
 subst hn
 refine M _ _ ((i+1,t)) ?_ ?_ ?_ ?_
 · repeat (first|exact dB.mask _ _ _|refine abG ?_ rfl _|refine aby ?_ _ rfl|refine abk rfl ?_)
 · exact trivial
 · exact⟨hB,d,hit,(by exact c),(by (rw[tl (by omega) (Nm (r:=ab) (by omega) (by omega))];exact e)),(by omega),(dG hq (A7 y)),trivial⟩
 · show (Lib.cut line [32]).2.1.length-(i+1)<(Lib.cut line [32]).2.1.length-i;omega
 exact absurd Q s
 refine cN<|Zv (dW rfl rfl)<|Zb rfl<|ct<|ZQ rfl (λs=> ?_) λs=> ?_
 refine cN<|Zf rfl d8<|ZL ov rfl dV c rfl<|Zi rfl<|Zv (Fr (n:=48) rfl rfl rfl Om Om)<|Zv (ic rfl Tryz.underlying21 Tryz.underlying3 oG)<|Zy (eK (u:= .int .i64 _) rfl cM eQ rfl Dd Dd λR ba bb V U=> ?_)
 obtain⟨hB,d⟩:=V.k2 hB d
 replace hit:=V.itW hit
 obtain⟨c,hov⟩:=V.k2 c hov
 refine Zy (dZ (v:=ov) (v2:= .slice (some ⟨R,0,none⟩) 1 1) rfl rfl cM eQ Dd hov (eT U rfl) rfl (n4 hB) Km Km λt bc F e=> ?_)
 replace e:=cD.snoc (enc:=dJ) (x:=_) rfl rfl rfl rfl e
 replace hB:=ZG hB F hov
 replace d:=At.grownOw d hov F Dd
 replace hit:=qi.grownOw hit hov F
 replace c:=At.grownOw c hov F Dd
 refine Zf rfl d8<|Zy (dm (v:=t) rfl rfl dV (dh.one e.sl) c gj λbd G aH=> ?_)
 replace hB:=Zg hB G A
 replace d:=At.grownAt d c G Dd
 replace hit:=qi.grownAt hit c G
 replace e:=cD.grownAt e c G Dd
 replace c:=aH
 replace c:At _ _ #[_,_,_] _:=c
 refine ct ?_
 have hbn:(iY (Lib.cut line [32]).2.1 i=49∨iY (Lib.cut line [32]).2.1 i=48∨iY (Lib.cut line [32]).2.1 i=45)∧O=i+1:=by omega
 obtain⟨y,hn⟩:=hbn
 subst hn
 refine M _ _ ((i+1,t)) ?_ ?_ ?_ ?_
 · repeat (first|exact dB.mask _ _ _|refine abG ?_ rfl _|refine aby ?_ _ rfl|refine abk rfl ?_)
 · exact trivial
 · exact⟨hB,d,hit,(by exact c),(by (rw[tl (by omega) (Nm (r:=ab) (by omega) (by omega))];exact e)),(by omega),(dG hq (A7 y)),trivial⟩
 · show (Lib.cut line [32]).2.1.length-(i+1)<(Lib.cut line [32]).2.1.length-i;omega
 refine Zr<|Zv (dW rfl rfl)<|Zb rfl<|ct<|ZQ rfl (λac=> ?_) λac=> ?_
 refine cN<|Zf rfl d8<|ZL ov rfl dV c rfl<|Zy (eK (u:= .int .i64 2) rfl cM eQ rfl Dd Dd λaI bf bg X aJ=> ?_)
 obtain⟨hB,d⟩:=X.k2 hB d
 replace hit:=X.itW hit
 obtain⟨c,hov⟩:=X.k2 c hov
 refine Zy (dZ (v:=ov) (v2:= .slice (some ⟨aI,0,none⟩) 1 1) rfl rfl cM eQ Dd hov (eT aJ rfl) rfl (n4 hB) Km Km λad bh H k=> ?_)
 replace k:=cD.snoc (enc:=dJ) (x:=_) rfl rfl rfl rfl k
 replace hB:=ZG hB H hov
 replace d:=At.grownOw d hov H Dd
 replace hit:=qi.grownOw hit hov H
 replace c:=At.grownOw c hov H Dd
 refine Zf rfl d8<|Zy (dm (v:=ad) rfl rfl dV (dh.one k.sl) c gj λbi I aK=> ?_)
 replace hB:=Zg hB I A
 replace d:=At.grownAt d c I Dd
 replace hit:=qi.grownAt hit c I
 replace k:=cD.grownAt k c I Dd
 replace c:=aK
 replace c:At _ _ #[_,_,_] _:=c
 refine ct ?_
 have hbn:(iY (Lib.cut line [32]).2.1 i=49∨iY (Lib.cut line [32]).2.1 i=48∨iY (Lib.cut line [32]).2.1 i=45)∧O=i+1:=by omega
 obtain⟨y,hn⟩:=hbn
 subst hn
 refine M _ _ ((i+1,ad)) ?_ ?_ ?_ ?_
 · repeat (first|exact dB.mask _ _ _|refine abG ?_ rfl _|refine aby ?_ _ rfl|refine abk rfl ?_)
 · exact trivial
 · exact⟨hB,d,hit,(by exact c),(by (rw[tl (by omega) (V8 (by omega))];exact k)),(by omega),(dG hq (A7 y)),trivial⟩
 · show (Lib.cut line [32]).2.1.length-(i+1)<(Lib.cut line [32]).2.1.length-i;omega
 refine Zr<|Zb rfl<|ct ?_
 refine lh ?_
 replace hrd:=On hB hrd
 replace hlv:=Below.ow hB hlv
 replace hls:=iT.below hB hls
 replace hX:=Dx.trans hX (Dx.below hB)
 have hzs:=an hN0 (Below.size f)
 repeat (first|refine eJ ?_|refine eg ?_)
 refine cV (v:= .bool false) rfl ?_
 refine⟨hX, .inr ⟨?_,rfl,⟨lv,vs,hrd,hlv,hls⟩⟩⟩
 exact T4 ax (Jz ay s Q ac)
 rw[if_neg hcub2_1]at z
 obtain rfl:=z
 refine Zw (.tuple #[.agg #[_,_], .int .i64 2]) rfl<|Zv (c7 rfl)<|Zv (da rfl)<|Zy (cI gV rfl λZ bj aL aM d=> ?_)
 have J:=ZO aL hB
 replace hB:=Ze hB aM
 refine Zy (cz rfl rfl cZ rfl d rfl rfl λbk aN bl=> ?_)
 replace hB:=Zg hB aN J
 refine ZZ rfl<|Zq<|Zr<|Zb rfl<|Zv (eR rfl)<|ZX rfl (λg=> ?_) λg=> ?_
 refine Zs<|Zs<|Zb rfl<|Zb rfl<|Zs<|Zs<|Zs<|Zs<|Zs<|Zs<|Zs<|Zs<|Zb rfl<|Zb rfl ?_
 refine Zs<|Zs<|Zs<|Zs<|Zs<|Zs<|Zs<|Zs<|Zb rfl<|ct<|cF rfl<|Zr<|Zb rfl<|ct ?_
 refine lh ?_
 replace hrd:=On hB hrd
 replace hlv:=Below.ow hB hlv
 replace hls:=iT.below hB hls
 replace hX:=Dx.trans hX (Dx.below hB)
 have hzs:=an hN0 (Below.size f)
 repeat (first|refine eJ ?_|refine eg ?_)
 refine cV (v:= .bool false) rfl ?_
 refine⟨hX, .inr ⟨?_,rfl,⟨lv,vs,hrd,hlv,hls⟩⟩⟩
 exact O6 g
 refine Zi rfl<|Zv (ep rfl rfl)<|Zb rfl<|ZX rfl (λo=> ?_) λo=> ?_
 refine Zs<|Zs<|Zs<|Zs<|Zs<|Zs<|Zs<|Zs<|Zb rfl<|Zb rfl<|Zs<|Zs<|Zs<|Zs ?_
 refine Zs<|Zs<|Zs<|Zs<|Zb rfl<|ct<|cF rfl<|Zr<|Zb rfl<|ct ?_
 refine lh ?_
 replace hrd:=On hB hrd
 replace hlv:=Below.ow hB hlv
 replace hls:=iT.below hB hls
 replace hX:=Dx.trans hX (Dx.below hB)
 have hzs:=an hN0 (Below.size f)
 repeat (first|refine eJ ?_|refine eg ?_)
 refine cV (v:= .bool false) rfl ?_
 refine⟨hX, .inr ⟨?_,rfl,⟨lv,vs,hrd,hlv,hls⟩⟩⟩
 exact UY hcub2_1
 exact absurd o Dd
theorem qE (N br:Nat) (r:Rd) (line:List UInt8) (w:World) (hN0:N≤w.heap.size) (hgl:∀W,Below N w W→Gl W) (hl:line.length≤10000) (lob:N≤br) (h64:r.T.ls.length≤64) (hR:pr 114 37 3 N w br (r)):
    mS Tryz.prog 59 #[.pointer (some ⟨br,0,none⟩),eM line] w λv w'=>Dx 37 N [br] w w'∧v= .int .i64 (gi r line).2∧pr 114 37 3 N w' br ((gi r line).1):=by
 refine d5 (n:=154) (N:=N) Tryz.func59 rfl rfl rfl λhB=> ?_
 have hX:Dx 37 N [br] w w:=Dx.refl
 obtain⟨lv,vs,hrd,hlv,hls⟩:=hR
 have hlen:=hls.len
 refine Zr<|ZZ rfl<|Zr<|Zw (.func (.func 123) #[] #[]) rfl<|ct<|Zq<|Zr<|Zp rfl<|Zc rfl<|Zf rfl gZ<|Zl rfl cK hrd rfl<|ct<|cx ?_
 refine Zr<|Zv (dW rfl rfl)<|Zb rfl<|ct<|ZQ rfl (λa=> ?_) λa=> ?_
 refine Zr<|Zp rfl<|Zw (.string _) rfl<|ZC CG (pO _ _ _ _ _ (hgl _ hB) m5 gj (by omega)) rfl λaw ax Q R=> ?_
 obtain⟨hrd,hlv,hls,hX⟩:=Q.k4 hrd hlv hls hX
 obtain rfl:=R
 refine Zc rfl<|Zf rfl gX<|Zf rfl fx<|Zy (dm (v:= .int .i64 _) rfl rfl cK rfl hrd gj λay p S=> ?_)
 replace hlv:=cD.grownAt hlv hrd p Dd
 replace hls:=iT.grownAt hls hrd p Dd
 replace hX:=Dx.trans hX (Dx.grown p gj lob)
 replace hrd:=S
 replace hrd:At _ _ #[_,_,_,_,_,_] _:=hrd
 refine ct<|Zr<|Zp rfl<|Zc rfl<|Zf rfl gZ<|Zl rfl cK hrd rfl<|Zv (eP rfl rfl Om Om)<|Zc rfl<|Zf rfl gZ<|Zy (dm (v:= .int .i64 _) rfl rfl cK rfl hrd gj λaz s U=> ?_)
 replace hlv:=cD.grownAt hlv hrd s Dd
 replace hls:=iT.grownAt hls hrd s Dd
 replace hX:=Dx.trans hX (Dx.grown s gj lob)
 replace hrd:=U
 replace hrd:At _ _ #[_,_,_,_,_,_] _:=hrd
 refine ct<|Zr<|Zw (.func (.func 123) #[] #[]) rfl<|Zp rfl<|Zc rfl<|Zf rfl gX<|Zf rfl fx<|Zl rfl cK hrd rfl<|Zv (mT rfl rfl) ?_
 refine ol (dd:=some 38) rfl rfl rfl (ij (q:=123) (first:= #[]) (cap:= #[]) (vs:= #[.bool _]) rfl xG Gb) (ik _ _) (λaA aB V X=> ?_)
 obtain⟨hrd,hlv,hls,hX⟩:=V.k4 hrd hlv hls hX
 obtain rfl:=X
 refine ZZ rfl<|Zt<|cV (v:= .int .i64 _) rfl ?_
 rw[XN a]
 exact⟨hX,rfl,⟨lv,vs,hrd,hlv,hls⟩⟩
 refine Zr<|Zv (dW rfl rfl)<|Zb rfl<|ct<|ZQ rfl (λb=> ?_) λb=> ?_
 refine Zr<|Zp rfl<|Zw (.string _) rfl<|ZC CG (pO _ _ _ _ _ (hgl _ hB) m5 gj (by omega)) rfl λaC aD Y Z=> ?_
 obtain⟨hrd,hlv,hls,hX⟩:=Y.k4 hrd hlv hls hX
 obtain rfl:=Z
 refine Zc rfl<|Zf rfl gX<|Zf rfl f6<|Zy (dm (v:= .int .i64 _) rfl rfl cK rfl hrd gj λaE t aa=> ?_)
 replace hlv:=cD.grownAt hlv hrd t Dd
 replace hls:=iT.grownAt hls hrd t Dd
 replace hX:=Dx.trans hX (Dx.grown t gj lob)
 replace hrd:=aa
 replace hrd:At _ _ #[_,_,_,_,_,_] _:=hrd
 refine ct<|Zr<|Zp rfl<|Zc rfl<|Zf rfl gZ<|Zl rfl cK hrd rfl<|Zv (eP rfl rfl Om Om)<|Zc rfl<|Zf rfl gZ<|Zy (dm (v:= .int .i64 _) rfl rfl cK rfl hrd gj λaF u ab=> ?_)
 replace hlv:=cD.grownAt hlv hrd u Dd
 replace hls:=iT.grownAt hls hrd u Dd
 replace hX:=Dx.trans hX (Dx.grown u gj lob)
 replace hrd:=ab
 replace hrd:At _ _ #[_,_,_,_,_,_] _:=hrd
 refine ct<|Zr<|Zw (.func (.func 123) #[] #[]) rfl<|Zp rfl<|Zc rfl<|Zf rfl gX<|Zf rfl f6<|Zl rfl cK hrd rfl<|Zv (mT rfl rfl) ?_
 refine ol (dd:=some 61) rfl rfl rfl (ij (q:=123) (first:= #[]) (cap:= #[]) (vs:= #[.bool _]) rfl xG Gb) (ik _ _) (λaG aH ac ad=> ?_)
 obtain⟨hrd,hlv,hls,hX⟩:=ac.k4 hrd hlv hls hX
 obtain rfl:=ad
 refine ZZ rfl<|Zt<|cV (v:= .int .i64 _) rfl ?_
 rw[Wu a b]
 exact⟨hX,rfl,⟨lv,vs,hrd,hlv,hls⟩⟩
 refine Zr<|Zv (dW rfl rfl)<|Zb rfl<|ct<|ZQ rfl (λc=> ?_) λc=> ?_
 refine Zr<|ZZ rfl<|Zt<|cV (v:= .int .i64 2) rfl ?_
 rw[YS a b c]
 exact⟨hX,rfl,⟨lv,vs,hrd,hlv,hls⟩⟩
 refine cu ?_
 refine rN (σ:=(Unit)) [4,4,6,9,64,95] (λu_=>[]) (λW=>(At W br _ 114)∧(cD iH 3 37 W N lv _)∧(iT 3 N W vs (r.T.ls))∧(Dx 37 N [br] w W)∧(Below N w W)∧(True)) ⟨hrd,hlv,hls,hX,hB,trivial⟩ (λu_ W=>(¬(Lib.hasPrefix line kR=true∧r.st=2))∧(True)) (λaI K=> ?_) ?_
 refine Zr<|Zw (.string _) rfl<|ZC IF (mV _ _ _) rfl λaJ aK L ae=> ?_
 obtain⟨hrd,hlv,hls,hX⟩:=L.k4 hrd hlv hls hX
 replace hB:=cW hB L hN0
 obtain rfl:=ae
 refine Zw (.tuple #[.string _, .bool _]) rfl<|Zv (c7 rfl)<|Zv (da rfl)<|Zw (.string _) rfl<|Zb rfl<|ct<|Zr<|Zb rfl<|ZX rfl (λk=> ?_) λk=> ?_
 refine Zp rfl<|Zc rfl<|Zf rfl gZ<|Zl rfl cK hrd rfl<|Zv (dW rfl rfl)<|Zb rfl<|ct<|ZQ rfl (λl=> ?_) λl=> ?_
 refine Zr<|Zp rfl<|Zc rfl<|Zf rfl gZ<|Zy (dm (v:= .int .i64 3) rfl rfl cK rfl hrd gj λaL m af=> ?_)
 replace hlv:=cD.grownAt hlv hrd m Dd
 replace hls:=iT.grownAt hls hrd m Dd
 replace hX:=Dx.trans hX (Dx.grown m gj lob)
 replace hB:=db hB m hN0 (λj hj=>by cases hj;exact lob)
 replace hrd:=af
 replace hrd:At _ _ #[_,_,_,_,_,_] _:=hrd
 refine ct<|Zq<|Zr<|ZC Mq (ws _) rfl λx aM M d=> ?_
 have ag:=(an hN0 (Below.size hB))
 obtain⟨hrd,hlv,hls,hX⟩:=M.k4 hrd hlv hls hX
 replace hB:=cW hB M hN0
 replace d:=cD.mono d ag
 refine Zv (cT (v:=x) rfl d.sl mb)<|ZZ rfl<|cx ?_
 refine cS (σ:=(Nat)) [4,4,8,9,82,95] (λi=>[(82, .int .i64 (i:Int))]) (λi W=>(At W br _ 114)∧(cD iH 3 37 W N lv _)∧(iT 3 N W vs (r.T.ls))∧(Dx 37 N [br] w W)∧(Below N w W)∧(cD Da 1 9 W N x _)∧(i≤4)∧(∀q,q<i→¬j7.getD q []=Lib.trimPrefix line kR)∧(True)) (λi=>4-i) (0) ⟨rfl,trivial⟩ ⟨hrd,hlv,hls,hX,hB,d,(my _),ef,trivial⟩ ?_
 rintro i aN aO ⟨hrd,hlv,hls,hX,hB,d,hi,hq,_⟩ aP ah
 refine Zr<|Zv (dk rfl rfl)<|ct<|Zq<|ZQ rfl (λy=> ?_) λy=> ?_
 refine cu<|Zq<|cx ?_
 rw[nJ]at y
 refine Zr<|Zi rfl<|Zv (df (v:=x) rfl d.sl rfl mb Om (by (simp only[nJ];omega)))<|Zv (cB (v:= .string _) rfl rF (dh.cell d.sl kq [] Om (by (simp only[nJ];omega)) 0 rfl))<|Zi rfl<|Zw (.string _) rfl<|ct<|Zr<|Zw (.string _) rfl<|Zw (.string _) rfl<|Zv (G1 rfl rfl)<|ct<|ZQ rfl (λz=> ?_) λz=> ?_
 refine Zr<|Zp rfl<|Zi rfl<|Zc rfl<|Zf rfl gX<|Zf rfl jg<|Zy (dm (v:= .int .i64 _) rfl rfl cK rfl hrd gj λaQ A ai=> ?_)
 replace hlv:=cD.grownAt hlv hrd A Dd
 replace hls:=iT.grownAt hls hrd A Dd
 replace hX:=Dx.trans hX (Dx.grown A gj lob)
 replace hrd:=ai
 replace hrd:At _ _ #[_,_,_,_,_,_] _:=hrd
 refine ct<|Zr<|ZZ rfl<|Zt<|cV (v:= .int .i64 0) rfl ?_
 rw[Xw (i:=i) a b c k l (by omega) z]
 exact⟨hX,rfl,⟨lv,vs,hrd,hlv,hls⟩⟩
 refine cu<|ZT rfl rfl rfl ?_
 exact ah _ _ (i+1) Za ⟨rfl,trivial⟩ ⟨hrd,hlv,hls,hX,hB,d,Om,(dG hq z),trivial⟩ Zo
 refine cR ?_
 rw[nJ]at y
 refine Zr<|ZZ rfl<|Zt<|cV (v:= .int .i64 2) rfl ?_
 rw[WB a b c k l (λq hq'=>hq q (by omega))]
 exact⟨hX,rfl,⟨lv,vs,hrd,hlv,hls⟩⟩
 refine cu ?_
 refine K _ _ (()) ?_ ?_ ?_ ?_
 · repeat (first|exact dB.mask _ _ _|exact dB.refl _ _|refine abG ?_ rfl _|refine aby ?_ _ rfl|refine abk rfl ?_)
 · exact trivial
 · exact⟨hrd,hlv,hls,hX,hB,trivial⟩
 · exact⟨(λe=>l e.2),trivial⟩
 refine Zs<|Zs<|Zs<|Zs<|Zs<|Zb rfl<|ct<|dA rfl<|cu ?_
 refine K _ _ (()) ?_ ?_ ?_ ?_
 · repeat (first|exact dB.mask _ _ _|exact dB.refl _ _|refine abG ?_ rfl _|refine aby ?_ _ rfl|refine abk rfl ?_)
 · exact trivial
 · exact⟨hrd,hlv,hls,hX,hB,trivial⟩
 · exact⟨(λe=>Bool.noConfusion (k.symm.trans e.1)),trivial⟩
 rintro u_ aR aS ⟨hrd,hlv,hls,hX,hB,_⟩ ⟨hpn,_⟩
 refine rN (σ:=(Unit)) [4,4,10,10,96,113] (λu_=>[]) (λW=>(At W br _ 114)∧(cD iH 3 37 W N lv _)∧(iT 3 N W vs (r.T.ls))∧(Dx 37 N [br] w W)∧(Below N w W)∧(True)) ⟨hrd,hlv,hls,hX,hB,trivial⟩ (λu_ W=>(¬(iS line [46,112] 0 64≥0∧r.st≤3))∧(True)) (λaT O=> ?_) ?_
 refine Zr<|Zw (.string _) rfl<|ZC CG (pO _ _ _ _ _ (hgl _ hB) m5 gj (by omega)) rfl λaU aV P aj=> ?_
 obtain⟨hrd,hlv,hls,hX⟩:=P.k4 hrd hlv hls hX
 replace hB:=cW hB P hN0
 obtain rfl:=aj
 refine ZZ rfl<|Zr<|Zi rfl<|Zv (mT rfl rfl)<|ZX rfl (λB=> ?_) λB=> ?_
 refine Zp rfl<|Zc rfl<|Zf rfl gZ<|Zl rfl cK hrd rfl<|Zv (Bd rfl rfl)<|Zb rfl<|ct<|ZQ rfl (λC=> ?_) λC=> ?_
 refine Zr<|Zp rfl<|Zp rfl<|Zi rfl<|Zc rfl<|Zf rfl tG<|Zy (dm (v:= .int .i64 _) rfl rfl cK rfl hrd gj λaW D ak=> ?_)
 replace hlv:=cD.grownAt hlv hrd D Dd
 replace hls:=iT.grownAt hls hrd D Dd
 replace hX:=Dx.trans hX (Dx.grown D gj lob)
 replace hrd:=ak
 replace hrd:At _ _ #[_,_,_,_,_,_] _:=hrd
 refine Zc rfl<|Zf rfl gZ<|Zy (dm (v:= .int .i64 4) rfl rfl cK rfl hrd gj λaX E al=> ?_)
 replace hlv:=cD.grownAt hlv hrd E Dd
 replace hls:=iT.grownAt hls hrd E Dd
 replace hX:=Dx.trans hX (Dx.grown E gj lob)
 replace hrd:=al
 replace hrd:At _ _ #[_,_,_,_,_,_] _:=hrd
 refine ct<|Zr<|ZZ rfl<|Zt<|cV (v:= .int .i64 0) rfl ?_
 (rw[WF a b c hpn B C];exact⟨hX,rfl,⟨lv,vs,hrd,hlv,hls⟩⟩)
 refine cu ?_
 refine O _ _ (()) ?_ ?_ ?_ ?_
 · repeat (first|exact dB.mask _ _ _|exact dB.refl _ _|refine abG ?_ rfl _|refine aby ?_ _ rfl|refine abk rfl ?_)
 · exact trivial
 · exact⟨hrd,hlv,hls,hX,hB,trivial⟩
 · exact⟨(λe=>C e.2),trivial⟩
 refine Zs<|Zs<|Zs<|Zs<|Zs<|Zb rfl<|ct<|dA rfl<|cu ?_
 refine O _ _ (()) ?_ ?_ ?_ ?_
 · repeat (first|exact dB.mask _ _ _|exact dB.refl _ _|refine abG ?_ rfl _|refine aby ?_ _ rfl|refine abk rfl ?_)
 · exact trivial
 · exact⟨hrd,hlv,hls,hX,hB,trivial⟩
 · exact⟨(λe=>B e.1),trivial⟩
 rintro u_ aY aZ ⟨hrd,hlv,hls,hX,hB,_⟩ ⟨hpp,_⟩
 refine Zr<|Zp rfl<|Zc rfl<|Zf rfl gZ<|Zy (dm (v:= .int .i64 4) rfl rfl cK rfl hrd gj λa0 o ao=> ?_)
 replace hlv:=cD.grownAt hlv hrd o Dd
 replace hls:=iT.grownAt hls hrd o Dd
 replace hX:=Dx.trans hX (Dx.grown o gj lob)
 replace hB:=db hB o hN0 (λj hj=>by cases hj;exact lob)
 replace hrd:=ao
 replace hrd:At _ _ #[_,_,_,_,_,_] _:=hrd
 refine ct<|Zq<|Zr<|Zw (.string _) rfl<|Zv (G1 rfl rfl)<|ct<|ZQ rfl (λg=> ?_) λg=> ?_
 refine Zr<|Zp rfl<|Zc rfl<|Zf rfl gZ<|Zy (dm (v:= .int .i64 5) rfl rfl cK rfl hrd gj λa1 F ap=> ?_)
 replace hlv:=cD.grownAt hlv hrd F Dd
 replace hls:=iT.grownAt hls hrd F Dd
 replace hX:=Dx.trans hX (Dx.grown F gj lob)
 replace hrd:=ap
 replace hrd:At _ _ #[_,_,_,_,_,_] _:=hrd
 refine ct<|Zd dz λaq ar=> ?_
 obtain⟨hrd,hlv,hls,hX⟩:=ar.k4 hrd hlv hls hX
 have hS:=dz.refl aq
 refine Tw 0 (.func (.func 123) #[] #[]) rfl rfl hS<|Tq 1 rfl rfl hS<|Tc 2 rfl rfl hS<|Tf 3 rfl rfl tG hS<|Tk 4 rfl (λ_ hq=>cB (v:= .int .i64 _) rfl cK (At.cell (hq.at hrd) rfl)) hS<|Tk 5 rfl (λ_ _=>dk rfl rfl) hS<|Tx 6 rfl (λ_ _=>jL (v:= .bool _) rfl) hS (λG=> ?_) λG=> ?_
 refine Tp 7 rfl hS<|Tp 8 rfl hS<|Tp 9 rfl hS<|Tp 10 rfl hS<|Tp 11 rfl hS<|Tp 12 rfl hS<|Tp 13 rfl hS<|Tp 14 rfl hS<|Tp 15 rfl hS<|Tp 16 rfl hS<|Tp 17 rfl hS<|Ty 18 rfl rfl hS<|To 19 rfl (Yd.call (ij (q:=123) (first:= #[]) (cap:= #[]) (vs:= #[.bool true]) rfl xG Gb) (ik _ _) λau a2 H I=>⟨.inl (hS.trans H),?_⟩)
 obtain⟨hrd,hlv,hls,hX⟩:=H.k4 hrd hlv hls hX
 replace hS:=hS.trans H
 obtain rfl:=I
 refine Ti 20 rfl rfl hS<|Td<|Zt<|cV (v:= .int .i64 _) rfl ?_
 (rw[Us a b c hpn hpp g];refine⟨hX,congrArg (Value.int .i64) ?_,⟨lv,vs,hrd,hlv,hls⟩⟩;(rw[decide_eq_true G];rfl))
 refine Tq 7 rfl rfl hS<|Tc 8 rfl rfl hS<|Tf 9 rfl rfl tG hS<|Tk 10 rfl (λ_ hq=>cB (v:= .int .i64 _) rfl cK (At.cell (hq.at hrd) rfl)) hS<|Tq 11 rfl rfl hS<|Tc 12 rfl rfl hS<|Tf 13 rfl rfl gX hS<|Tf 14 rfl rfl eq hS<|Tk 15 rfl (λ_ hq=>cB (v:=lv) rfl fF (At.cell (hq.at hrd) rfl)) hS<|Tk 16 rfl (λ_ hq=>cT (v:=lv) rfl ((hq.ow hlv)).sl ff) hS<|Tk 17 rfl (λ_ _=>dW rfl rfl) hS<|Ty 18 rfl rfl hS<|To 19 rfl (Yd.call (ij (q:=123) (first:= #[]) (cap:= #[]) (vs:= #[.bool _]) rfl xG Gb) (ik _ _) λau a3 J I=>⟨.inl (hS.trans J),?_⟩)
 obtain⟨hrd,hlv,hls,hX⟩:=J.k4 hrd hlv hls hX
 replace hS:=hS.trans J
 obtain rfl:=I
 refine Ti 20 rfl rfl hS<|Td<|Zt<|cV (v:= .int .i64 _) rfl ?_
 (rw[Us a b c hpn hpp g];refine⟨hX,congrArg (Value.int .i64) ?_,⟨lv,vs,hrd,hlv,hls⟩⟩;(rw[decide_eq_false G,Bool.false_or,←hlen];rfl))
 refine cu<|Zr<|Zp rfl<|Zc rfl<|Zf rfl gX<|Zf rfl eq<|ZL lv rfl fF hrd rfl<|Zv (cT (v:=lv) rfl hlv.sl ff)<|Zv (dW rfl rfl)<|Zb rfl<|ct<|Zq<|Zr ?_
 refine Zp rfl<|Zw (.string _) rfl<|ZH SP (sr N br ⟨r.T,4,r.told⟩ line _ (an hN0 (Below.size hB)) (λ_ h=>hgl _ (Below.trans hB h)) hl lob h64 ⟨lv,vs,hrd,hlv,hls⟩) rfl λa4 a5 f=> ?_
 obtain⟨hX33_2,f⟩:=f
 replace hX:=hX.trans hX33_2
 rcases f with f|f
 obtain⟨hrk33_2,rfl,hR33_2⟩:=f
 refine Zv (eR rfl)<|ct<|dA rfl<|cu<|Zq<|Zr<|Zb rfl<|ct<|ZQ rfl (λav=> ?_) λav=> ?_
 refine Zr<|ZZ rfl<|Zt<|cV (v:= .int .i64 3) rfl ?_
 (rw[Wn a b c hpn hpp g hrk33_2];refine⟨hX,congrArg (Value.int .i64) ?_,hR33_2⟩;exact(if_pos (by omega)).symm)
 refine cu<|Zr<|ZZ rfl<|Zt<|cV (v:= .int .i64 0) rfl ?_
 (rw[Wn a b c hpn hpp g hrk33_2];refine⟨hX,congrArg (Value.int .i64) ?_,hR33_2⟩;exact(if_neg (by omega)).symm)
 obtain⟨hrk33_2,rfl,hR33_2⟩:=f
 refine Zv (eR rfl)<|ct<|cF rfl<|Zr<|ZZ rfl<|Zt<|cV (v:= .int .i64 2) rfl ?_
 (rw[XK a b c hpn hpp g hrk33_2];exact⟨hX,rfl,hR33_2⟩)
theorem wQ (s:List UInt8) (w:World) (hgl:Gl w) (hsl:s.length≤100000):
    Fn Tryz.prog 15 #[eM s] w λv w'=>∃lv vs,v= .tuple #[.agg #[.int .i64 (de s).1.kind, .int .i64 (de s).1.ni, .int .i64 (de s).1.no,lv], .int .i64 ((de s).2.1:Int), .int .i64 (de s).2.2]∧cD iH 3 37 w' w.heap.size lv vs∧iT 3 w.heap.size w' vs (de s).1.ls:=by
 refine cH (n:=68) Tryz.func15 rfl rfl rfl λhB=> ?_
 have hlc:=F9 s
 obtain⟨n,hn⟩:∃n,(dp s).length=n+1:=⟨(dp s).length-1,by have:=abz.2 (rZ s);omega⟩
 refine Zr<|Zy (cI sZ rfl λA W3 B C a=> ?_)
 have j:=ZO B hB
 replace hB:=Ze hB C
 refine Zi rfl<|ZZ rfl<|Zq<|Zr<|Zw (.string _) rfl<|Zv (yS rfl Tryz.underlying9)<|Zv (il rfl rfl)<|ct<|ZQ rfl (λD=> ?_) λD=> ?_
 refine Zr<|Zv (jV)<|Zy (cz rfl rfl eA rfl a rfl rfl λV E F=> ?_)
 replace hB:=Zg hB E j
 replace a:=F
 refine Zi rfl<|ZZ rfl<|Zt<|m8 rfl eA a rfl (v1:= .int .i64 0) rfl (v2:= .int .i64 3) rfl ⟨hB,?_⟩
 rw[Ej (by omega)]
 exact⟨_,[],rfl,cD.nil,iT.nil⟩
 refine cu<|Zr<|Zv (CM (h0:=rfl) (k0:=rfl) (c0_0:= .int .i64 1))<|Zv (w6 (h0:=rfl) (h1:=rfl) (k1:=rfl) (c1_0:= .int .i64 _))<|Zy (dt (c:= #[_,_,_,_,_,_]) rfl rfl λp G H I J=> ?_)
 have K:=ZO H hB
 obtain⟨hB,a⟩:=I.k2 hB a
 refine Zp rfl<|ct ?_
 have hR:pr 114 37 3 w.heap.size G p (Hv):=⟨_,[],J,cD.nil,iT.nil⟩
 refine Zr<|Zw (.string _) rfl<|ZC U8 (wV _ _ (Gl.below hB hgl) (by omega)) rfl λb L z d=> ?_
 have M:=(Below.size hB)
 obtain⟨hB,a⟩:=z.k2 hB a
 replace hR:=pr.ext z hR
 replace d:=cD.mono d M
 refine Zw b rfl<|ct<|Zr<|Zw b rfl<|Zv (cT (v:=b) rfl d.sl mb)<|Zv (Ud rfl rfl hn Om)<|ZZ rfl<|Zq ?_
 have hC:(dp s).length≤iZ b:=(Sl.eqv (cD.sl d)).2.1
 refine Zr<|Zw b rfl<|Zi rfl<|Zv (BI (v:=b) rfl d.sl mb rfl Om Om) ?_
 have e:dh Da 1 L (fP 1 b 0 n (iZ b)) (((dp s).drop 0).take (n-0)):=ab2 kq d.sl (by omega) (by omega) (by omega) (by omega)
 refine Zv (cT (v:=fP 1 b 0 n (iZ b)) rfl e mb)<|ZZ rfl<|cx ?_
 refine cS (σ:=(Nat)) [3,4,8,10,27,47] (λk=>[(27, .int .i64 (k:Int))]) (λk W=>(Below w.heap.size w W)∧(At W A _ 24)∧(cD Da 1 9 W w.heap.size b _)∧(dh Da 1 W (fP 1 b 0 n (iZ b)) _)∧(pr 114 37 3 w.heap.size W p (oa (dp s) k))∧(k≤n)∧(∀q,q<k→mi (oa (dp s) q) ((dp s).getD q [])=0)∧(True)) (λk=>n-k) (0) ⟨rfl,trivial⟩ ⟨hB,a,d,e,hR,(my _),ef,trivial⟩ ?_
 rintro k X Y ⟨hB,a,d,e,hR,hk,herr,_⟩ Z r
 refine Zr<|Zv (dk rfl rfl)<|ct<|Zq<|ZQ rfl (λt=> ?_) λt=> ?_
 refine cu<|Zq<|cx ?_
 have hpl:=DN (ls:=dp s) hn
 rw[hpl]at t
 refine Zr<|Zi rfl<|Zv (df (v:=fP 1 b 0 n (iZ b)) rfl e rfl mb Om (by omega))<|Zv (cB (v:= .string _) rfl rF (dh.cell e kq [] Om (by omega) 0 rfl))<|Zi rfl<|Zw (.string _) rfl<|ct<|Zq ?_
 have hline:(((dp s).drop 0).take (n-0)).getD (k:Int).toNat []=(dp s).getD k []:=J3 _ (by omega)
 rw[hline]
 refine Zr<|Zw (.string _) rfl<|Zv (G1 rfl rfl)<|ZX rfl (λf=> ?_) λf=> ?_
 refine Zs<|Zs<|Zs<|Zb rfl<|ct<|cF rfl<|cR<|ZT rfl rfl rfl ?_
 exact r _ _ (k+1) Za ⟨rfl,trivial⟩ ⟨hB,a,d,e,(by rw[pk Om];(rw[(nj (D1 f)).1];exact hR)),Om,(dG herr (by exact(nj (D1 f)).2)),trivial⟩ Zo
 refine Zw (.string _) rfl<|Zv (MF (i:=0) rfl rfl Tryz.underlying9 (by exact abz.2 f))<|Zv (dW rfl rfl)<|Zb rfl<|ct<|ZQ rfl (λg=> ?_) λg=> ?_
 refine cR<|ZT rfl rfl rfl ?_
 exact r _ _ (k+1) Za ⟨rfl,trivial⟩ ⟨hB,a,d,e,(by rw[pk Om];(rw[(nj (A2 g)).1];exact hR)),Om,(dG herr (by exact(nj (A2 g)).2)),trivial⟩ Zo
 refine cu<|Zr<|Zp rfl<|Zw (.string _) rfl<|ZH U0 (qE w.heap.size p (oa (dp s) k) ((dp s).getD k []) _ (Below.size hB) (λ_ h=>Gl.below (Below.trans hB h) hgl) (by have:=G3 s k;omega) K (Mf herr Om) hR) rfl λaa ab N=> ?_
 obtain⟨hX10_2,rfl,hR10_2⟩:=N
 replace hB:=Below.dx hB (am _) (am _) hX10_2
 replace a:=At.rd hR hX10_2 a Dd Dd
 replace d:=cD.rd hR hX10_2 d Dd Dd
 replace e:=ab2 (l:=0) (h:=n) (m:=iZ b) kq (cD.sl d) (my _) Om Om (am _)
 replace hR:=hR10_2
 refine ZZ rfl<|Zr<|Zi rfl<|Zv (ep rfl rfl)<|ct<|ZQ rfl (λu=> ?_) λu=> ?_
 refine Zr<|Zv (jV)<|Zi rfl<|Zi rfl<|Zy (cz rfl rfl eA rfl a rfl rfl λac O P=> ?_)
 replace hB:=Zg hB O j
 replace a:=P
 refine Zi rfl<|ZZ rfl<|Zt<|m8 rfl eA a rfl (v1:= .int .i64 _) rfl (v2:= .int .i64 _) rfl ⟨hB,?_⟩
 rw[Qs (k:=k) (by omega) hn (by omega) herr (by rw[(gC (ri f g)).2];exact u),(gC (ri f g)).2]
 exact⟨_,[],rfl,cD.nil,iT.nil⟩
 refine cu<|ZT rfl rfl rfl ?_
 exact r _ _ (k+1) Za ⟨rfl,trivial⟩ ⟨hB,a,d,e,(by rw[pk Om];(rw[(gC (ri f g)).1];exact hR)),Om,(dG herr (by exact(gC (ri f g)).2.trans (aaa u))),trivial⟩ Zo
 refine cR<|Zq<|cx ?_
 obtain⟨lv,vs,hrd,hlv,hls⟩:=hR
 rw[DN hn]at t
 obtain rfl:k=n:=by omega
 refine Zr<|Zw b rfl<|Zi rfl<|Zv (df (v:=b) rfl d.sl rfl mb Om (by omega))<|Zv (cB (v:= .string _) rfl rF (dh.cell d.sl kq [] Om (by omega) 0 rfl))<|Zv (Pi rfl rfl)<|Zb rfl<|ct<|ZQ rfl (λo=> ?_) λo=> ?_
 refine Zr<|Zv (jV)<|Zi rfl<|Zy (cz rfl rfl eA rfl a rfl rfl λad Q R=> ?_)
 replace hB:=Zg hB Q j
 replace a:=R
 refine Zi rfl<|ZZ rfl<|Zt<|m8 rfl eA a rfl (v1:= .int .i64 _) rfl (v2:= .int .i64 2) rfl ⟨hB,?_⟩
 rw[F0 (by omega) hn herr o]
 exact⟨_,[],rfl,cD.nil,iT.nil⟩
 refine Zr<|Zp rfl<|Zc rfl<|Zf rfl gZ<|Zl rfl cK hrd rfl<|Zv (ep rfl rfl)<|Zb rfl<|ct<|ZQ rfl (λx=> ?_) λx=> ?_
 refine Zr<|Zv (jV)<|Zi rfl<|Zy (cz rfl rfl eA rfl a rfl rfl λae S T=> ?_)
 replace hB:=Zg hB S j
 replace a:=T
 refine Zi rfl<|ZZ rfl<|Zt<|m8 rfl eA a rfl (v1:= .int .i64 _) rfl (v2:= .int .i64 7) rfl ⟨hB,?_⟩
 rw[DS (by omega) hn herr (aaa o) x]
 exact⟨_,[],rfl,cD.nil,iT.nil⟩
 refine cu<|Zr<|Zp rfl<|Zc rfl<|Zf rfl gX<|Zv (fv rfl eA (At.cell hrd rfl) (At.cell hrd rfl) (At.cell hrd rfl) (At.cell hrd rfl))<|Zy (cz rfl rfl eA rfl a rfl (by exact vE (dh.one (cD.sl hlv))) λaf y U=> ?_)
 replace hB:=Zg hB y j
 replace hlv:=cD.grownAt hlv a y Dd
 replace hls:=iT.grownAt hls a y Dd
 replace a:=U
 refine Zi rfl<|ZZ rfl<|Zt<|m8 rfl eA a rfl (v1:= .int .i64 0) rfl (v2:= .int .i64 0) rfl ⟨hB,?_⟩
 rw[Gn (by omega) hn herr (aaa o) (aaa x)]
 exact⟨lv,vs,rfl,hlv,hls⟩
end
section
open Go Go.RowKit
theorem vC {m u:Nat} {n:Int} {v:Value} (h:v=if dC m u n=true then .tuple #[eb (oH m u n.toNat), .int .i64 0]else .tuple #[eb 0, .int .i64 1]):
  ∃(sa:Nat) (er:Int),v= .tuple #[eb sa, .int .i64 er]∧((dC m u n=true∧sa=oH m u n.toNat∧er=0)∨(dC m u n=false∧er=1)):=by
 by_cases hr:dC m u n=true
 ·rw[if_pos hr]at h
  exact⟨_,_,h, .inl ⟨hr,rfl,rfl⟩⟩
 ·rw[if_neg hr]at h
  exact⟨_,_,h, .inr ⟨by simpa using hr,rfl⟩⟩
theorem Vx {m u s sa:Nat} {n er:Int} (h:(dC m u n=true∧sa=oH m u n.toNat∧er=0)∨(dC m u n=false∧er=1)) (h0:er=0):eO sa s=sR m u s n:=by
 rcases h with ⟨h1,rfl,_⟩|⟨_,h2⟩
 ·exact Uu h1
 ·omega
theorem RN {m u s sa:Nat} {n er:Int} (h:(dC m u n=true∧sa=oH m u n.toNat∧er=0)∨(dC m u n=false∧er=1)) (h0:¬er=0):false=sR m u s n:=by
 rcases h with ⟨_,_,h2⟩|⟨h1,_⟩
 ·exact absurd h2 h0
 ·exact Ys h1
theorem WG {m u m2 u2:Nat} (h:(m:Int)<(m2:Int)):true=yo ⟨m,u⟩ ⟨m2,u2⟩:=(lr.2 (.inl (by simp only;omega))).symm
theorem WW {m u m2 u2:Nat} (_h:¬(m:Int)<(m2:Int)) (h2:(m:Int)=(m2:Int)):decide ((u:Int)<(u2:Int))=yo ⟨m,u⟩ ⟨m2,u2⟩:=by
 rw[aaA,lr,decide_eq_true_eq]
 simp only
 omega
theorem XT {m u m2 u2:Nat} (h:¬(m:Int)<(m2:Int)) (h2:¬(m:Int)=(m2:Int)):false=yo ⟨m,u⟩ ⟨m2,u2⟩:=by
 symm
 refine aah.2 λh3=> ?_
 rw[lr]at h3
 simp only at h3
 omega
theorem LY {l:List Cb} {c:Cb} {i:Nat} (hi:0<i) (h:(!yo (l.getD ((i:Int)-1).toNat ⟨0,0⟩) c)=true):ob l c i=ob l c (i-1):=by
 obtain⟨j,rfl⟩:∃j,i=j+1:=⟨i-1,by omega⟩
 have e:((j+1:Nat):Int)-1=(j:Int):=by omega
 rw[e,so]at h
 simp only[ob]
 rw[if_neg (by simpa using h)]
 rfl
theorem Iy {l:List Cb} {c:Cb} {i:Nat} (h:i=0∨(!yo (l.getD ((i:Int)-1).toNat ⟨0,0⟩) c)=false):ob l c i=i:=by
 rcases h with rfl|h
 ·rfl
 ·cases i with
  |zero=>rfl
  |succ j=>
   have e:((j+1:Nat):Int)-1=(j:Int):=by omega
   rw[e,so]at h
   simp only[ob]
   rw[if_pos (by simpa using h)]
theorem rP {sz:Nat} {v:Value} {h:Nat} {α:Type} {l:List α} (e:((l.drop 0).take (h-0)).length=h-0):iZ (fP sz v 0 h h)=((l.drop 0).take (h-0)).length:=e.symm
def jF (c:Cb) (i:Nat):Cb:=⟨lI c.m (i:Int),c.v &&& lI c.m (i:Int)⟩
def Js (c:Cb) (i:Nat):Cb:=⟨c.m,c.v ^^^ 2^i⟩
def imp (s:Nat) (n:Int) (c:Cb):Prop:=sR c.m c.v s n=true
theorem gm {s:Nat} {n:Int} {c:Cb}:imp s n c↔dC c.m c.v n=true∧∀p,p<2^n.toNat→p &&& c.m=c.v→s.testBit p=true:=by
 unfold imp sR
 rw[we]
 constructor
 ·rintro⟨h1,h2⟩
  obtain⟨h0,h8,hm,hv⟩:=dw.1 h1
  refine⟨h1,λp hp hpm=> ?_⟩
  have:=fq h8
  exact d4.1 h2 p (by omega) (by rw[iM (by omega)];simp[hp,hpm])
 ·rintro⟨h1,h2⟩
  obtain⟨h0,h8,hm,hv⟩:=dw.1 h1
  refine⟨h1,d4.2 λp _ hp=> ?_⟩
  rw[iM (by omega)]at hp
  simp at hp
  exact h2 p hp.1 hp.2
theorem eU {m v:Nat} (h:v &&& m=v) (j:Nat):v.testBit j=(v.testBit j&&m.testBit j):=by
 conv=>lhs;rw[←h,aad]
theorem BC {m v i p:Nat} (hi:i<8) (hb:m.testBit i=true) (hv:v &&& m=v):p &&& lI m (i:Int)=v &&& lI m (i:Int)↔(p &&& m=v∨p &&& m=v ^^^ 2^i):=by
 have hw:=λj=>fz (m:=m) hi j
 have hvb:=eU hv
 constructor
 ·intro h
  have hj:∀j,j≠i→(p.testBit j&&m.testBit j)=(v.testBit j&&m.testBit j):=λj hj=>by
   have:=congrArg (λx=>x.testBit j) h
   simp only[aad,hw,decide_eq_true hj,aaZ]at this
   exact this
  by_cases e:p.testBit i=v.testBit i
  ·left
   refine Z7 λj=> ?_
   rw[aad,hvb j]
   by_cases hji:j=i
   ·subst hji;rw[e]
   ·exact hj j hji
  ·right
   refine Z7 λj=> ?_
   rw[aad,Nat.testBit_xor,aas]
   by_cases hji:j=i
   ·subst hji
    rw[hb]
    cases hp:p.testBit j<;>cases hq:v.testBit j<;>simp_all
   ·have:¬i=j:=λh=>hji h.symm
    rw[hj j hji,←hvb j]
    simp[this]
 ·rintro(h|h)
  ·refine Z7 λj=> ?_
   have:=congrArg (λx=>x.testBit j) h
   simp only[aad]at this
   rw[aad,aad,hw,←Bool.and_assoc,this,←Bool.and_assoc,←hvb j]
  ·refine Z7 λj=> ?_
   have:=congrArg (λx=>x.testBit j) h
   simp only[aad,Nat.testBit_xor,aas]at this
   rw[aad,aad,hw,←Bool.and_assoc,this,←Bool.and_assoc,←hvb j]
   by_cases hji:j=i
   ·subst hji;simp
   ·have:¬i=j:=λh=>hji h.symm
    simp[this]
theorem Fl {m v i:Nat} {n:Int} (h:dC m v n=true):dC (lI m (i:Int)) (v &&& lI m (i:Int)) n=true:=by
 obtain⟨h0,h8,hm,hv⟩:=dw.1 h
 have:=yn m (i:Int)
 exact dw.2 ⟨h0,h8,by omega,by rw[Nat.and_assoc,Nat.and_self]⟩
theorem HN {m v i:Nat} {n:Int} (h:dC m v n=true) (hb:m.testBit i=true):dC m (v ^^^ 2^i) n=true:=by
 obtain⟨h0,h8,hm,hv⟩:=dw.1 h
 refine dw.2 ⟨h0,h8,hm,Z7 λj=> ?_⟩
 have hvb:=eU hv j
 rw[aad,Nat.testBit_xor,aas]
 by_cases hji:i=j
 ·subst hji;simp[hb]
 ·simp only[hji,decide_false,Bool.xor_false]
  exact hvb.symm
theorem B5 {s i:Nat} {n:Int} {c:Cb} (hr:dC c.m c.v n=true) (hi:i<n.toNat) (hb:c.m.testBit i=true):imp s n (jF c i)↔imp s n c∧imp s n (Js c i):=by
 obtain⟨h0,h8,hm,hv⟩:=dw.1 hr
 have hw:=λp=>BC (p:=p) (i:=i) (by omega) hb hv
 rw[gm,gm,gm]
 constructor
 ·rintro⟨h1,h2⟩
  exact⟨⟨hr,λp hp hpm=>h2 p hp ((hw p).2 (.inl hpm))⟩,⟨HN hr hb,λp hp hpm=>h2 p hp ((hw p).2 (.inr hpm))⟩⟩
 ·rintro⟨⟨_,h1⟩,⟨_,h2⟩⟩
  refine⟨Fl hr,λp hp hpm=> ?_⟩
  rcases(hw p).1 hpm with h|h
  ·exact h1 p hp h
  ·exact h2 p hp h
def po (m:Nat):Nat→Nat
 |0=>0
 |k+1=>po m k+if m.testBit k=true then 1 else 0
theorem yC (m:Nat):∀k,po m k≤k
 |0=>am _
 |k+1=>by
  have:=yC m k
  simp only[po]
  split<;>omega
theorem F8 {m i:Nat} (hi:i<8) (hb:m.testBit i=true):∀k,po (lI m (i:Int)) k+(if i<k then 1 else 0)=po m k
 |0=>by simp[po]
 |k+1=>by
  have ih:=F8 hi hb k
  simp only[po,fz hi]
  by_cases e:k=i
  ·subst e
   rw[if_neg (Nat.lt_irrefl _)]at ih
   simp[hb,←ih]
  ·rw[decide_eq_true e,aaZ]
   by_cases h2:i<k
   ·rw[if_pos h2]at ih
    simp only[show i<k+1 from by omega,if_true]
    omega
   ·rw[if_neg h2]at ih
    simp only[show ¬i<k+1 from by omega,if_false]
    omega
theorem BD {m:Nat}:∀k,po m k=k→∀i,i<k→m.testBit i=true
 |0,_,i,hi=>absurd hi (Nat.not_lt_zero _)
 |k+1,h,i,hi=>by
  have:=yC m k
  simp only[po]at h
  split at h
  ·rename_i hk
   rcases aac.1 hi with h2|rfl
   ·exact BD k (by omega) i h2
   ·exact hk
  ·omega
theorem tr {m:Nat}:∀k,(∀i,i<k→m.testBit i=true)→po m k=k
 |0,_=>rfl
 |k+1,h=>by
  have:=tr k (λi hi=>h i (by omega))
  simp only[po,this,h k (abn _),if_true]
theorem K0 {m k:Nat} (h:po m k<k):∃i,i<k∧m.testBit i=false:=by
 refine Decidable.byContradiction λhn=> ?_
 have:=tr (m:=m) k (λi hi=>by
  refine Decidable.byContradiction λh2=>hn ⟨i,hi,by simpa using h2⟩)
 omega
def tA (n:Int) (c:Cb):Nat:=po c.m n.toNat
theorem LC {n:Int} {c:Cb} {i:Nat} (h8:n≤8) (hi:i<n.toNat) (hb:c.m.testBit i=true):tA n (jF c i)+1=tA n c:=by
 have h:=F8 (m:=c.m) (i:=i) (by omega) hb n.toNat
 rwa [if_pos hi]at h
theorem A3 {s:Nat} {n:Int} {d:Cb} (h:imp s n d) (hc:tA n d<n.toNat):∃c i,i<n.toNat∧c.m.testBit i=true∧imp s n c∧imp s n (Js c i)∧d=jF c i∧tA n c=tA n d+1:=by
 obtain⟨i,hi,hb⟩:=K0 hc
 have hr:=(gm.1 h).1
 obtain⟨h0,h8,hm,hv⟩:=dw.1 hr
 have hvb:=eU hv
 have hi8:i<8:=by omega
 have hb2:(d.m ||| 2^i).testBit i=true:=by simp
 have e1:lI (d.m ||| 2^i) (i:Int)=d.m:=Z7 λj=>by
  rw[fz hi8,aaP,aas]
  by_cases e:j=i
  ·subst e;simp[hb]
  ·have:¬i=j:=λh=>e h.symm
   simp[this,e]
 have hrc:dC (d.m ||| 2^i) d.v n=true:=by
  refine dw.2 ⟨h0,h8,Nat.or_lt_two_pow hm (abv (by decide) hi),Z7 λj=> ?_⟩
  rw[aad,aaP,hvb j]
  cases d.v.testBit j<;>cases d.m.testBit j<;>simp
 have hd:d=jF ⟨d.m ||| 2^i,d.v⟩ i:=by
  unfold jF
  simp only[e1,hv]
 have hw:=(B5 (s:=s) (c:=⟨d.m ||| 2^i,d.v⟩) hrc hi hb2).1 (hd▸h)
 refine⟨⟨d.m ||| 2^i,d.v⟩,i,hi,hb2,hw.1,hw.2,hd,?_⟩
 have:=LC (c:=⟨d.m ||| 2^i,d.v⟩) h8 hi hb2
 rw[←hd]at this
 exact this.symm
def jq (now:List Cb) (c:Cb) (i:Nat):Prop:=c.m.testBit i=true∧Js c i∈now
def jJ (now:List Cb) (n:Int) (seen:List Cb) (d:Cb):Prop:=∃c,c∈seen∧∃i,i<n.toNat∧jq now c i∧d=jF c i
def gw (now:List Cb) (n:Int) (seen:List Cb) (d:Cb):Prop:=d∈seen∧∃i,i<n.toNat∧jq now d i
def pg (s:Nat) (n:Int) (t:Nat) (now:List Cb):Prop:=∀c,c∈now↔imp s n c∧tA n c+1=t
section
variable {s t:Nat} {n:Int} {now:List Cb}
theorem L5 (c:Cb) (i:Nat):tA n (Js c i)=tA n c:=rfl
theorem AV (h:pg s n t now) {c:Cb} (hc:c∈now) {i:Nat} (hi:i<n.toNat):jq now c i↔lC c.m c.v s n i=true:=by
 obtain⟨h1,h2⟩:=(h c).1 hc
 have hr:=(gm.1 h1).1
 unfold jq lC
 rw[we]
 constructor
 ·rintro⟨hb,hf⟩
  exact⟨hb,(B5 hr hi hb).2 ⟨h1,((h _).1 hf).1⟩⟩
 ·rintro⟨hb,hw⟩
  exact⟨hb,(h _).2 ⟨((B5 hr hi hb).1 hw).2,h2⟩⟩
theorem yP (h:pg s n t now) {c:Cb} (hc:c∈now):gw now n now c↔iD c.m c.v s n=false:=by
 have h1:=((h c).1 hc).1
 rw[←Bool.not_eq_true,gy]
 constructor
 ·rintro⟨_,i,hi,hp⟩ ⟨_,h3⟩
  have:=h3 i hi
  rw[(AV h hc hi).1 hp]at this
  cases this
 ·intro h2
  refine⟨hc,Classical.byContradiction λhn=>h2 ⟨h1,λi hi=> ?_⟩⟩
  refine aah.2 λhs=>hn ⟨i,hi,(AV h hc hi).2 hs⟩
theorem G6 (h8:n≤8) (h:pg s n (t+1) now) (ht:t≤n.toNat) {nl:List Cb} (hn:∀d,d∈nl↔jJ now n now d):pg s n t nl:=by
 intro d
 rw[hn]
 constructor
 ·rintro⟨c,hc,i,hi,hp,rfl⟩
  obtain⟨h1,h2⟩:=(h c).1 hc
  have hr:=(gm.1 h1).1
  refine⟨(B5 hr hi hp.1).2 ⟨h1,((h _).1 hp.2).1⟩,?_⟩
  have:=LC (c:=c) h8 hi hp.1
  omega
 ·rintro⟨h1,h2⟩
  obtain⟨c,i,hi,hb,hc,hf,hd,hcnt⟩:=A3 h1 (by omega)
  exact⟨c,(h c).2 ⟨hc,by omega⟩,i,hi,⟨hb,(h _).2 ⟨hf,by rw[L5];omega⟩⟩,hd⟩
def yT (s:Nat) (n:Int) (t:Nat) (out:List Cb):Prop:=∀c,c∈out↔iD c.m c.v s n=true∧t≤tA n c
theorem Mw {out out2 ml:List Cb} (h:pg s n (t+1) now) (ho:yT s n (t+1) out) (hm:∀d,d∈ml↔gw now n now d) (h2:∀c,c∈out2↔c∈out∨(c∈now∧c∉ml)):yT s n t out2:=by
 intro c
 rw[h2,ho,hm]
 constructor
 ·rintro(⟨h3,h4⟩|⟨h3,h4⟩)
  ·exact⟨h3,by omega⟩
  ·rw[yP h h3,Bool.not_eq_false]at h4
   exact⟨h4,by have:=((h c).1 h3).2;omega⟩
 ·rintro⟨h3,h4⟩
  by_cases e:t+1≤tA n c
  ·exact .inl ⟨h3,e⟩
  ·have hc:c∈now:=(h c).2 ⟨(gy.1 h3).1,by omega⟩
   exact .inr ⟨hc,by rw[yP h hc,Bool.not_eq_false];exact h3⟩
theorem yu (ht:t≤n.toNat+1) (h:pg s n t []):∀(k:Nat) (c:Cb),imp s n c→tA n c+1+k=t→False
 |0,c,hc,e=>by have:=(h c).2 ⟨hc,e⟩;simp at this
 |k+1,c,hc,e=>by
  obtain⟨c',i,hi,hb,hc',hf,hd,hcnt⟩:=A3 hc (by omega)
  exact yu ht h k c' hc' (by omega)
theorem PF {out:List Cb} (ht:t≤n.toNat+1) (h:pg s n t []) (ho:yT s n t out) (hr:jm out):out=ej s n:=by
 refine yA hr (rz s n) λc=> ?_
 rw[ho,oy]
 constructor
 ·exact λh=>h.1
 ·intro hp
  refine⟨hp,Decidable.byContradiction λhlt=> ?_⟩
  exact yu ht h (t-(tA n c+1)) c (gy.1 hp).1 (by omega)
theorem Mj:yT s n (n.toNat+1) []:=by
 intro c
 constructor
 ·intro h;simp at h
 ·rintro⟨_,h⟩
  have:=yC c.m n.toNat
  unfold tA at h
  omega
theorem DG (hs:xz s n=true) {ks:List Cb} (hk:∀c,c∈ks↔∃x∈d7 s,c=⟨2^n.toNat-1,x.toNat⟩):pg s n (n.toNat+1) ks:=by
 unfold xz at hs
 simp only[we,decide_eq_true_eq]at hs
 obtain⟨h0,h8,hw⟩:=hs
 have hp8:=fq h8
 have hpt:∀p,p<256→s.testBit p=true→p<2^n.toNat:=λp hp h=>by
  have:=d4.1 hw p hp h
  rw[fw]at this
  simpa using this
 intro c
 rw[hk]
 constructor
 ·rintro⟨x,hx,rfl⟩
  obtain⟨p,hp,hb,rfl⟩:=jw.1 hx
  have hlt:=hpt p hp hb
  have e:∀q,q<2^n.toNat→q &&& (2^n.toNat-1)=q:=λq hq=>by rw[abj,abo hq]
  refine⟨gm.2 ⟨dw.2 ⟨h0,h8,by have:=aaz n.toNat;simp only;omega,e p hlt⟩,λq hq h=> ?_⟩,?_⟩
  ·simp only[so]at h
   rw[e q hq]at h
   rw[h];exact hb
  ·unfold tA
   rw[tr n.toNat (λi hi=>by rw[ab1];simpa using hi)]
 ·rintro⟨h1,h2⟩
  have h3:=gm.1 h1
  obtain⟨_,_,hm,hv⟩:=dw.1 h3.1
  have hm2:c.m=2^n.toNat-1:=Z7 λj=>by
   rw[ab1]
   by_cases hj:j<n.toNat
   ·rw[BD n.toNat (by unfold tA at h2;omega) j hj];simp[hj]
   ·rw[abf (aao hm (aaf (by decide) (by omega)))];simp[hj]
  have hlt:=(mq h3.1).2
  refine⟨(c.v:Int),jw.2 ⟨c.v,by omega,h3.2 c.v hlt hv,rfl⟩,?_⟩
  cases c
  simp only[so,Cb.mk.injEq,and_true]
  exact hm2
end
theorem Fz {α:Type} [DecidableEq α]:∀{l l':List α},l.Nodup→(∀a∈l,a∈l')→l.length≤l'.length
 |[],_,_,_=>by simp
 |a::l,l',h,hs=>by
  obtain⟨h1,h2⟩:=List.nodup_cons.1 h
  have ha:=hs a gj
  have:=Fz (l:=l) (l':=l'.erase a) h2 (λb hb=>by
   have hne:b≠a:=λe=>h1 (e▸hb)
   exact(List.mem_erase_of_ne hne).2 (hs b (by simp[hb])))
  rw[abr ha]at this
  have:=aaG ha
  simp only[aak]
  omega
theorem r7 {n:Int} {v:Value} (h:v=if 0≤n∧n≤8 then .tuple #[eb (fh n.toNat), .int .i64 0]else .tuple #[eb 0, .int .i64 1]):
  ∃(sa:Nat) (er:Int),v= .tuple #[eb sa, .int .i64 er]∧((0≤n∧n≤8∧sa=fh n.toNat∧er=0)∨(¬(0≤n∧n≤8)∧er=1)):=by
 by_cases hr:0≤n∧n≤8
 ·rw[if_pos hr]at h
  exact⟨_,_,h, .inl ⟨hr.1,hr.2,rfl,rfl⟩⟩
 ·rw[if_neg hr]at h
  exact⟨_,_,h, .inr ⟨hr,rfl⟩⟩
theorem JO {s sa:Nat} {n er:Int} (h:(0≤n∧n≤8∧sa=fh n.toNat∧er=0)∨(¬(0≤n∧n≤8)∧er=1)) (h0:¬er=0):¬xz s n=true:=by
 rcases h with ⟨_,_,_,h2⟩|⟨h1,_⟩
 ·exact absurd h2 h0
 ·unfold xz
  simp only[we,decide_eq_true_eq]
  exact λh2=>h1 ⟨h2.1,h2.2.1⟩
theorem Ji {s sa:Nat} {n er:Int} (h:(0≤n∧n≤8∧sa=fh n.toNat∧er=0)∨(¬(0≤n∧n≤8)∧er=1)) (h0:¬¬er=0) (hw:(!eO s sa)=true):¬xz s n=true:=by
 rcases h with ⟨_,_,rfl,_⟩|⟨_,h2⟩
 ·unfold xz
  simp only[we,decide_eq_true_eq]
  intro h2
  rw[h2.2.2]at hw
  cases hw
 ·omega
theorem Nk {s sa:Nat} {n er:Int} (h:(0≤n∧n≤8∧sa=fh n.toNat∧er=0)∨(¬(0≤n∧n≤8)∧er=1)) (h0:¬¬er=0) (hw:(!eO s sa)=false):xz s n=true:=by
 rcases h with ⟨h1,h2,rfl,_⟩|⟨_,h2⟩
 ·unfold xz
  rw[decide_eq_true h1,decide_eq_true h2]
  simpa using hw
 ·omega
theorem kV {s:Nat} {n:Int} (h:xz s n=true):0≤n∧n≤8:=by
 unfold xz at h
 simp only[we,decide_eq_true_eq]at h
 exact⟨h.1,h.2.1⟩
theorem VW {P:Program} {f:Nat→Value} {w:World} {d:Option Nat} {ty t t2:TypeId} {ps:String} {af:Array Edge} {g:Option (Nat×Bool)} {x y:Operand} {n:Int}
  (hx:dg f x= .int .u8 (IntKind.u8.wrap (1*2^(min n.toNat IntKind.u8.bits)))) (hy:dg f y= .int .u8 1) (h0:0≤n) (h8:n≤8):
  (execOp (dg f) ⟨d, .binOp .sub t x y t2,ty,ps,af,g⟩).run P w= .ok (.value (.int .u8 ((2^n.toNat-1:Nat):Int))) w:=by
 rw[Mp hx hy]
 have:∀k:Nat,k≤8→IntKind.u8.wrap (IntKind.u8.wrap (1*2^(min k IntKind.u8.bits))-1)=((2^k-1:Nat):Int):=λk hk=>by
  have:k=0∨k=1∨k=2∨k=3∨k=4∨k=5∨k=6∨k=7∨k=8:=by omega
  rcases this with rfl|rfl|rfl|rfl|rfl|rfl|rfl|rfl|rfl<;>decide
 rw[this n.toNat (by omega)]
theorem Lr {M k p:Nat} {l:List Int} {ks:List Cb} (h:∀c,c∈ks↔∃j,j<k∧c=⟨M,(l.getD j 0).toNat⟩) (hp:l.getD k 0=(p:Int)):∀c,c∈ja ks ⟨M,p⟩↔∃j,j<k+1∧c=⟨M,(l.getD j 0).toNat⟩:=by
 intro c
 rw[gt,h]
 constructor
 ·rintro(⟨j,hj,rfl⟩|rfl)
  ·exact⟨j,by omega,rfl⟩
  ·exact⟨k,by omega,by rw[hp,so]⟩
 ·rintro⟨j,hj,rfl⟩
  rcases aac.1 hj with hj|rfl
  ·exact .inl ⟨j,hj,rfl⟩
  ·exact .inr (by rw[hp,so])
theorem LN {M k:Nat} {l:List Int} {ks:List Cb} (h:∀c,c∈ks↔∃j,j<k∧c=⟨M,(l.getD j 0).toNat⟩) (hk:k=l.length):∀c,c∈ks↔∃x∈l,c=⟨M,x.toNat⟩:=by
 intro c
 rw[h]
 constructor
 ·rintro⟨j,hj,rfl⟩
  exact⟨_,dy (by omega),rfl⟩
 ·rintro⟨x,hx,rfl⟩
  obtain⟨j,hj,rfl⟩:=List.mem_iff_getElem.1 hx
  exact⟨j,by omega,by simp[hj]⟩
section
variable {s t:Nat} {n:Int} {now seen nl ml out:List Cb}
theorem F6 {α:Type} (l:List α):(fp l).length=l.length:=by simp[fp]
theorem DT {α:Type} {l:List α} {k:α} {v:Bool} (h:(k,v)∈fp l):k∈l∧v=true:=by
 unfold fp at h
 obtain⟨a,ha,e⟩:=aag.1 h
 cases e
 exact⟨ha,rfl⟩
theorem KT (h:pg s n t now) (h0:(0:Int)<((fp now).length:Int)):∃t',t=t'+1:=by
 rw[F6]at h0
 obtain⟨c,hc⟩:=List.exists_mem_of_length_pos (l:=now) (by omega)
 exact⟨_,((h c).1 hc).2.symm⟩
theorem HF {l:List Cb} (h0:¬(0:Int)<((fp l).length:Int)):l=[]:=by
 rw[F6]at h0
 exact aar (by omega)
theorem zu (h:pg s n t now) (h8:n≤8) {c:Cb} (hc:c∈now):c.m<256∧c.v<256:=by
 have h1:=mq (gm.1 ((h c).1 hc).1).1
 have:=fq h8
 omega
theorem Hd:∀d,d∈([]:List Cb)↔jJ now n [] d:=λd=>by simp[jJ]
theorem BZ:∀d,d∈([]:List Cb)↔gw now n [] d:=λd=>by simp[gw]
theorem K7 {kk:Cb} (h:∀d,d∈nl↔jJ now n seen d):∀d,d∈nl↔jJ now n seen d∨∃q,q<0∧jq now kk q∧d=jF kk q:=λd=>by rw[h];simp
theorem Fk {kk:Cb} (h:∀d,d∈ml↔gw now n seen d):∀d,d∈ml↔gw now n seen d∨(d=kk∧∃q,q<0∧jq now kk q):=λd=>by rw[h];simp
theorem Mu {kk:Cb} {i:Nat} (h:∀d,d∈nl↔jJ now n seen d∨∃q,q<i∧jq now kk q∧d=jF kk q) (hp:jq now kk i):
  ∀d,d∈ja nl (jF kk i)↔jJ now n seen d∨∃q,q<i+1∧jq now kk q∧d=jF kk q:=λd=>by
 rw[gt,h]
 constructor
 ·rintro((h1|⟨q,h1,h2,h3⟩)|h1)
  ·exact .inl h1
  ·exact .inr ⟨q,by omega,h2,h3⟩
  ·exact .inr ⟨i,by omega,hp,h1⟩
 ·rintro(h1|⟨q,h1,h2,h3⟩)
  ·exact .inl (.inl h1)
  ·rcases aac.1 h1 with h1|rfl
   ·exact .inl (.inr ⟨q,h1,h2,h3⟩)
   ·exact .inr h3
theorem Bz {kk:Cb} {i:Nat} (h:∀d,d∈nl↔jJ now n seen d∨∃q,q<i∧jq now kk q∧d=jF kk q) (hp:¬jq now kk i):
  ∀d,d∈nl↔jJ now n seen d∨∃q,q<i+1∧jq now kk q∧d=jF kk q:=λd=>by
 rw[h]
 constructor
 ·rintro(h1|⟨q,h1,h2,h3⟩)
  ·exact .inl h1
  ·exact .inr ⟨q,by omega,h2,h3⟩
 ·rintro(h1|⟨q,h1,h2,h3⟩)
  ·exact .inl h1
  ·rcases aac.1 h1 with h1|rfl
   ·exact .inr ⟨q,h1,h2,h3⟩
   ·exact absurd h2 hp
theorem GP {kk:Cb} {i:Nat} (h:∀d,d∈ml↔gw now n seen d∨(d=kk∧∃q,q<i∧jq now kk q)) (hp:jq now kk i):
  ∀d,d∈ja ml kk↔gw now n seen d∨(d=kk∧∃q,q<i+1∧jq now kk q):=λd=>by
 rw[gt,h]
 constructor
 ·rintro((h1|⟨h1,q,h2,h3⟩)|h1)
  ·exact .inl h1
  ·exact .inr ⟨h1,q,by omega,h3⟩
  ·exact .inr ⟨h1,i,by omega,hp⟩
 ·rintro(h1|⟨h1,q,h2,h3⟩)
  ·exact .inl (.inl h1)
  ·exact .inr h1
theorem wR {kk:Cb} {i:Nat} (h:∀d,d∈ml↔gw now n seen d∨(d=kk∧∃q,q<i∧jq now kk q)) (hp:¬jq now kk i):
  ∀d,d∈ml↔gw now n seen d∨(d=kk∧∃q,q<i+1∧jq now kk q):=λd=>by
 rw[h]
 constructor
 ·rintro(h1|⟨h1,q,h2,h3⟩)
  ·exact .inl h1
  ·exact .inr ⟨h1,q,by omega,h3⟩
 ·rintro(h1|⟨h1,q,h2,h3⟩)
  ·exact .inl h1
  ·rcases aac.1 h2 with h2|rfl
   ·exact .inr ⟨h1,q,h2,h3⟩
   ·exact absurd h3 hp
theorem Pb {kk:Cb} {i:Nat} (h:∀d,d∈nl↔jJ now n seen d∨∃q,q<i∧jq now kk q∧d=jF kk q) (hi:i=n.toNat):∀d,d∈nl↔jJ now n (kk::seen) d:=λd=>by
 subst hi
 rw[h]
 unfold jJ
 constructor
 ·rintro(⟨c,hc,r⟩|⟨q,h1,h2,h3⟩)
  ·exact⟨c,aai _ hc,r⟩
  ·exact⟨kk,aab,q,h1,h2,h3⟩
 ·rintro⟨c,hc,i,hi,r⟩
  rcases aaq.1 hc with rfl|hc
  ·exact .inr ⟨i,hi,r⟩
  ·exact .inl ⟨c,hc,i,hi,r⟩
theorem GF {kk:Cb} {i:Nat} (h:∀d,d∈ml↔gw now n seen d∨(d=kk∧∃q,q<i∧jq now kk q)) (hi:i=n.toNat):∀d,d∈ml↔gw now n (kk::seen) d:=λd=>by
 subst hi
 rw[h]
 unfold gw
 constructor
 ·rintro(⟨h1,r⟩|⟨rfl,r⟩)
  ·exact⟨aai _ h1,r⟩
  ·exact⟨aab,r⟩
 ·rintro⟨h1,r⟩
  rcases aaq.1 h1 with rfl|h1
  ·exact .inr ⟨rfl,r⟩
  ·exact .inl ⟨h1,r⟩
theorem A9 {m v i:Nat} (h1:((m/2^((i:Nat):Int).toNat &&& 1:Nat):Int)=1) (h2:(iy (fp now) ⟨m,v ^^^ 1*2^((i:Nat):Int).toNat⟩).getD false=true):jq now ⟨m,v⟩ i:=by
 rw[so]at h1 h2
 rw[mn,decide_eq_true_eq,aap]at h2
 exact⟨oA.1 h1,h2⟩
theorem Bp {m v i:Nat} (h1:¬((m/2^((i:Nat):Int).toNat &&& 1:Nat):Int)=1):¬jq now ⟨m,v⟩ i:=by
 rw[so]at h1
 exact λh=>h1 (oA.2 h.1)
theorem Bw {m v i:Nat} (h2:(iy (fp now) ⟨m,v ^^^ 1*2^((i:Nat):Int).toNat⟩).getD false=false):¬jq now ⟨m,v⟩ i:=by
 rw[so]at h2
 rw[mn,decide_eq_false_iff_not,aap]at h2
 exact λh=>h2 h.2
theorem Kf (h:∀d,d∈nl↔jJ now n seen d) (hs:∀c,c∈seen↔c∈now):∀d,d∈nl↔jJ now n now d:=λd=>by
 rw[h];unfold jJ;simp only[hs]
theorem Eb (h:∀d,d∈ml↔gw now n seen d) (hs:∀c,c∈seen↔c∈now):∀d,d∈ml↔gw now n now d:=λd=>by
 rw[h];unfold gw;simp only[hs]
theorem D2 {w:World} {it b:Nat} (h:eD jh Value.bool w it b (fp now) seen):∀c∈seen,c∈now:=λc hc=>by
 have:=h.sub c hc
 rwa [AE]at this
theorem FC {w:World} {it b:Nat} (h:eD jh Value.bool w it b (fp now) seen) (hd:∀p∈fp now,p.1∈seen):∀c,c∈seen↔c∈now:=λc=>
 ⟨D2 h c,λhc=>hd (c,true) (aag.2 ⟨c,hc,rfl⟩)⟩
theorem ab7 {α β:Type} [DecidableEq α] {enc:α→Value} {encV:β→Value} {w:World} {it b:Nat} {l:List (α×β)} {seen:List α} (h:eD enc encV w it b l seen):seen.length≤l.length:=by
 have:=Fz h.nodup h.sub
 simpa using this
theorem Wi:∀c,c∈out↔c∈out∨(c∈([]:List Cb)∧c∉ml):=λc=>by simp
theorem RF {out2:List Cb} {kk:Cb} (h:∀c,c∈out2↔c∈out∨(c∈seen∧c∉ml)) (hk:kk∉ml):∀c,c∈B8 out2 kk↔c∈out∨(c∈kk::seen∧c∉ml):=λc=>by
 rw[L4,h,aaq]
 constructor
 ·rintro(rfl|h1|⟨h1,h2⟩)
  ·exact .inr ⟨.inl rfl,hk⟩
  ·exact .inl h1
  ·exact .inr ⟨.inr h1,h2⟩
 ·rintro(h1|⟨rfl|h1,h2⟩)
  ·exact .inr (.inl h1)
  ·exact .inl rfl
  ·exact .inr (.inr ⟨h1,h2⟩)
theorem PC {out2:List Cb} {kk:Cb} (h:∀c,c∈out2↔c∈out∨(c∈seen∧c∉ml)) (hk:kk∈ml):∀c,c∈out2↔c∈out∨(c∈kk::seen∧c∉ml):=λc=>by
 rw[h,aaq]
 constructor
 ·rintro(h1|⟨h1,h2⟩)
  ·exact .inl h1
  ·exact .inr ⟨.inr h1,h2⟩
 ·rintro(h1|⟨rfl|h1,h2⟩)
  ·exact .inl h1
  ·exact absurd hk h2
  ·exact .inr ⟨h1,h2⟩
theorem Rg {out2:List Cb} (h:∀c,c∈out2↔c∈out∨(c∈seen∧c∉ml)) (hs:∀c,c∈seen↔c∈now):∀c,c∈out2↔c∈out∨(c∈now∧c∉ml):=λc=>by rw[h,hs]
theorem T9 {out2:List Cb} {kk:Cb} (hL:pg s n (t+1) now) (hO:yT s n (t+1) out) (h:∀c,c∈out2↔c∈out∨(c∈seen∧c∉ml)) (hk:kk∈now) (hs:kk∉seen):kk∉out2:=λhm=>by
 rcases(h kk).1 hm with h1|h1
 ·have h2:=((hO kk).1 h1).2
  have h3:=((hL kk).1 hk).2
  omega
 ·exact hs h1.1
theorem Pt {out2:List Cb} (hL:pg s n (t+1) now) (h8:n≤8) (hO:yT s n (t+1) out) (h:∀c,c∈out2↔c∈out∨(c∈seen∧c∉ml)) (hs:∀c∈seen,c∈now) (hR:jm out2):out2.length≤65536:=
 CX hR λc hc=>by
  rcases(h c).1 hc with h1|h1
  ·have h2:=mq (kP ((hO c).1 h1).1)
   have:=fq h8
   omega
  ·exact zu hL h8 (hs c h1.1)
theorem OC {kk:Cb} (h:(!(iy (fp ml) ⟨kk.m,kk.v⟩).getD false)=true):kk∉ml:=by
 rw[mn]at h
 simpa using h
theorem OB {kk:Cb} (h:(!(iy (fp ml) ⟨kk.m,kk.v⟩).getD false)=false):kk∈ml:=by
 rw[mn]at h
 simpa using h
end
theorem Qj {s:Nat} {n:Int} {v:Value} {w':World} {N:Nat} {T:TypeId} (h:if xz s n=true then ∃x,v= .tuple #[x, .int .i64 0]∧cD im 2 T w' N x (ej s n)else v= .tuple #[.slice none 0 0, .int .i64 1]):
  ∃(x:Value) (er:Int) (l:List Cb),v= .tuple #[x, .int .i64 er]∧cD im 2 T w' N x l∧((xz s n=true∧er=0∧l=ej s n)∨(xz s n=false∧er=1∧l=[])):=by
 by_cases ho:xz s n=true
 ·rw[if_pos ho]at h
  obtain⟨x,h1,h2⟩:=h
  exact⟨x,0,_,h1,h2, .inl ⟨ho,rfl,rfl⟩⟩
 ·rw[if_neg ho]at h
  exact⟨_,1,[],h,cD.nil, .inr ⟨by simpa using ho,rfl,rfl⟩⟩
theorem wF {s:Nat} {n:Int} (h:n≤8):(ej s n).length≤65536:=by
 have h1:=wt s n (2^n.toNat)
 have h2:=fq h
 have h3:2^n.toNat*2^n.toNat≤256*256:=abH h2 h2
 unfold ej
 omega
end
section
open Go Go.RowKit
theorem vO:cX Tryz.prog 18=true:=by kernel_rfl
theorem qO:cX Tryz.prog 79=true:=by kernel_rfl
theorem C8:cX Tryz.prog 236=true:=by kernel_rfl
theorem xo:cX Tryz.prog 198=true:=by kernel_rfl
theorem eo:fj Tryz.prog 212=some (34,2,2):=by kernel_rfl
theorem Sn:cX Tryz.prog 276=true:=by kernel_rfl
theorem jB:(dT Tryz.prog 34).map (λz=>z.cells.size)=some 2:=by kernel_rfl
theorem nD (m u s:Nat) (n:Int) (w:World) (hm:m<256) (hv:u<256):
    Fn Tryz.prog 236 #[.agg #[.int .u8 (m:Int), .int .u8 (u:Int)],eb s, .int .i64 n] w λv w'=>v= .bool (sR m u s n):=by
 refine cH (n:=22) Tryz.func236 rfl rfl rfl λhB=> ?_
 refine Zr<|Zy (dt (c:= #[_,_]) rfl rfl λz W3 A h d=> ?_)
 replace hB:=Ze hB h
 refine Zy (dt (c:= #[_,_,_,_]) rfl rfl λB W6 C i a=> ?_)
 obtain⟨hB,d⟩:=i.k2 hB d
 refine Zb rfl<|ct<|Zr<|Zv (cy rfl cZ rfl d)<|Zi rfl<|ZC (vs:=[.agg #[_,_], .int .i64 _]) vO (ju _ _ _ _ m5 m5) rfl λD E j k=> ?_
 obtain⟨hB,a⟩:=j.k2 hB a
 obtain⟨sa,er,rfl,hhP1_2⟩:=vC k
 refine Zw (.tuple #[.agg #[_,_,_,_], .int .i64 _]) rfl<|Zv (c7 rfl)<|Zv (da rfl)<|Zy (cI ee rfl λl o f p b=> ?_)
 have q:=ZO f hB
 have r:=Zn f a.lt
 obtain⟨hB,a⟩:=p.k2 hB a
 replace b:At o l #[wv 0 0,wv 0 1,wv 0 2,wv 0 3] 40:=b
 refine Zy (cz rfl rfl cA rfl b rfl rfl λF g t=> ?_)
 replace hB:=Zg hB g q
 replace a:=At.grownNe a r g
 replace b:=t
 refine ZZ rfl<|Zr<|Zi rfl<|Zv (dW rfl rfl)<|ZX rfl (λe=> ?_) λe=> ?_
 refine Zv (cy rfl cA rfl b)<|Zv (cy rfl cA rfl a)<|ZC (vs:=[.agg #[_,_,_,_], .agg #[_,_,_,_]]) qO (iL _ _ _) rfl λG H x y=> ?_
 replace hB:=Ze hB x
 obtain rfl:=y
 refine Zb rfl<|Zb rfl<|ct<|Zt<|cV (v:= .bool _) rfl ⟨hB,?_⟩
 exact congrArg Value.bool (Vx hhP1_2 e)
 refine Zs<|Zs<|Zs<|Zb rfl<|Zb rfl<|ct<|Zt<|cV (v:= .bool false) rfl ⟨hB,?_⟩
 exact congrArg Value.bool (RN hhP1_2 e)
theorem CP (c:Cb) (s:Nat) (n:Int) (w:World) (hm:c.m<256∧c.v<256):
    Fn Tryz.prog 196 #[.agg #[.int .u8 (c.m:Int), .int .u8 (c.v:Int)],eb s, .int .i64 n] w λv w'=>v=if sR c.m c.v s n=true then .tuple #[.agg #[.int .u8 ((lK s n c).m:Int), .int .u8 ((lK s n c).v:Int)], .int .i64 0]else .tuple #[.agg #[.int .u8 0, .int .u8 0], .int .i64 1]:=by
 refine cH (n:=30) Tryz.func196 rfl rfl rfl λhB=> ?_
 refine Zr<|Zy (dt (c:= #[_,_]) rfl rfl λt W3 u x a=> ?_)
 have y:=ZO u hB
 replace hB:=Ze hB x
 refine Zy (dt (c:= #[_,_,_,_]) rfl rfl λz W6 T A d=> ?_)
 obtain⟨hB,a⟩:=A.k2 hB a
 refine Zy (cI gV rfl λB W9 l C b=> ?_)
 have o:=ZO l hB
 have p:=Zn l a.lt
 obtain⟨hB,a,d⟩:=C.k3 hB a d
 refine ZZ rfl<|Zq<|Zr<|Zv (cy rfl cZ rfl a)<|Zv (cy rfl cA rfl d)<|Zi rfl<|ZC (vs:=[.agg #[_,_], .agg #[_,_,_,_], .int .i64 _]) C8 (nD _ _ _ _ _ (by omega) (by omega)) rfl λU V D E=> ?_
 obtain⟨hB,a,d,b⟩:=D.k4 hB a d b
 obtain rfl:=E
 refine Zv (eR rfl)<|ct<|ZQ rfl (λg=> ?_) λg=> ?_
 refine Zr<|Zv (mr)<|Zy (cz rfl rfl cZ rfl b rfl rfl λX F G=> ?_)
 replace hB:=Zg hB F o
 replace b:=G
 refine ZZ rfl<|Zt<|eI rfl cZ b rfl (v1:= .int .i64 1) rfl ⟨hB,?_⟩
 rw[if_neg (by simpa using g)]
 refine cu<|Zq ?_
 have hw:sR c.m c.v s n=true:=by simpa using g
 obtain⟨hn0,hn8,_,_⟩:=dw.1 (vV hw)
 refine Zr<|Zi rfl<|ZZ rfl<|cx ?_
 refine cS (σ:=(Nat)) [8,9,17,28] (λi=>[(17, .int .i64 (i:Int))]) (λi W=>(Below w.heap.size w W)∧(At W z _ 40)∧(At W B _ 34)∧(At W t #[.int .u8 ((eY s n c i).m:Int), .int .u8 ((eY s n c i).v:Int)] 34)∧(i≤n.toNat)∧(True)) (λi=>n.toNat-i) (0) ⟨rfl,trivial⟩ ⟨hB,d,b,a,(my _),trivial⟩ ?_
 rintro i Y Z ⟨hB,d,b,a,hi,_⟩ aa q
 refine Zr<|Zv (dk rfl rfl)<|ct<|Zq<|ZQ rfl (λH=> ?_) λH=> ?_
 refine cu<|Zq<|cx<|Zr<|Zi rfl<|ZZ rfl ?_
 have hg:=Bm (s:=s) (n:=n) hm i
 have hle:=yn (eY s n c i).m (i:Int)
 have hle2:(eY s n c i).v &&& lI (eY s n c i).m (i:Int)≤(eY s n c i).v:=Nat.and_le_left
 refine Zr<|Zv (cy rfl cZ rfl a)<|Zi rfl<|ZC (vs:=[.agg #[_,_], .int .i64 _]) xo (lB _ _ _ _ (by omega) (by omega)) rfl λab ac I J=> ?_
 obtain⟨hB,d,b,a⟩:=I.k4 hB d b a
 obtain rfl:=J
 refine Zy (cI gV rfl λad ae h K e=> ?_)
 have L:=ZO h hB
 have M:=Zn h b.lt
 have N:=Zn h a.lt
 obtain⟨hB,d,b,a⟩:=K.k4 hB d b a
 refine Zy (cz rfl rfl cZ rfl e rfl rfl λaf f O=> ?_)
 replace hB:=Zg hB f L
 replace d:=At.grownAt d e f Dd
 replace b:=At.grownNe b M f
 replace a:=At.grownNe a N f
 replace e:=O
 refine ct<|Zr<|Zv (cy rfl cZ rfl e)<|Zv (cy rfl cA rfl d)<|Zi rfl<|ZC (vs:=[.agg #[_,_], .agg #[_,_,_,_], .int .i64 _]) C8 (nD _ _ _ _ _ (by omega) (by omega)) rfl λag ah P Q=> ?_
 obtain⟨hB,d,b,a,e⟩:=P.k5 hB d b a e
 obtain rfl:=Q
 refine ct<|ZQ rfl (λj=> ?_) λj=> ?_
 refine cN<|Zv (cy rfl cZ rfl e)<|Zy (cz rfl rfl cZ rfl a rfl rfl λai k R=> ?_)
 replace hB:=Zg hB k y
 replace d:=At.grownAt d a k Dd
 replace b:=At.grownNe b (Ne.symm p) k
 replace a:=R
 refine ct<|ZT rfl rfl rfl ?_
 exact q _ _ (i+1) Za ⟨rfl,trivial⟩ ⟨hB,d,b,(by (rw[DF j];exact a)),Om,trivial⟩ Zo
 refine cu<|ZT rfl rfl rfl ?_
 exact q _ _ (i+1) Za ⟨rfl,trivial⟩ ⟨hB,d,b,(by (rw[Eg j];exact a)),Om,trivial⟩ Zo
 refine cR<|Zr<|Zv (cy rfl cZ rfl a)<|Zy (cz rfl rfl cZ rfl b rfl rfl λaj r S=> ?_)
 replace hB:=Zg hB r o
 replace a:=At.grownNe a p r
 replace b:=S
 refine ZZ rfl<|Zt<|eI rfl cZ b rfl (v1:= .int .i64 0) rfl ⟨hB,?_⟩
 have hin:i=n.toNat:=by omega
 subst hin
 rw[if_pos hw]
 rfl
theorem vT (b m u m2 u2:Nat) (w:World) (hb:At w b #[.int .u8 (m2:Int), .int .u8 (u2:Int)] 34):
    Fn Tryz.prog 276 #[.agg #[.int .u8 (m:Int), .int .u8 (u:Int)], .pointer (some ⟨b,0,none⟩)] w λv w'=>v= .bool (yo ⟨m,u⟩ ⟨m2,u2⟩):=by
 refine cH (n:=23) Tryz.func276 rfl rfl rfl λhB=> ?_
 refine Zr<|Zy (dt (c:= #[_,_]) rfl rfl λg W3 h f d=> ?_)
 replace hB:=Ze hB f
 refine Zb rfl<|ct<|Zr<|Zf rfl ea<|Zl rfl dK d rfl<|Zf rfl ea<|Zl rfl dK (On hB hb) rfl<|Zv (dk rfl rfl)<|ZX rfl (λa=> ?_) λa=> ?_
 refine Zs<|Zs<|Zs<|Zs<|Zs<|Zs<|Zs<|Zs<|Zs<|Zs<|Zs<|Zs<|Zb rfl<|Zb rfl ?_
 refine ct<|Zt<|cV (v:= .bool true) rfl ⟨hB,?_⟩
 exact congrArg Value.bool (WG a)
 refine Zf rfl ea<|Zl rfl dK d rfl<|Zf rfl ea<|Zl rfl dK (On hB hb) rfl<|Zv (dW rfl rfl)<|ZX rfl (λe=> ?_) λe=> ?_
 refine Zf rfl fE<|Zl rfl dK d rfl<|Zf rfl fE<|Zl rfl dK (On hB hb) rfl<|Zv (dk rfl rfl)<|Zb rfl<|Zb rfl<|Zb rfl<|ct<|Zt<|cV (v:= .bool _) rfl ⟨hB,?_⟩
 exact congrArg Value.bool (WW a e)
 refine Zs<|Zs<|Zs<|Zs<|Zs<|Zb rfl<|Zb rfl<|Zb rfl<|ct<|Zt<|cV (v:= .bool false) rfl ⟨hB,?_⟩
 exact congrArg Value.bool (XT a e)
theorem y8 (x:Value) (l:List Cb) (c:Cb) (w:World) (hl:dh im 2 w x l) (hn:l.length≤70000):
    Fn Tryz.prog 262 #[x, .agg #[.int .u8 (c.m:Int), .int .u8 (c.v:Int)]] w λv w'=>cD im 2 34 w' w.heap.size v (B8 l c):=by
 refine cH (n:=35) Tryz.func262 rfl rfl rfl λhB=> ?_
 have hC:l.length≤iZ x:=(Sl.eqv hl).2.1
 refine Zr<|Zy (dt (c:= #[_,_]) rfl rfl λh W3 U K b=> ?_)
 replace hB:=Ze hB K
 refine Zw (.slice none 0 0) rfl<|ct<|Zr<|Zv (fI (vs:= #[.pointer (some ⟨h,0,none⟩)]) Ga)<|Zw (.func (.func 276) #[] #[.pointer (some ⟨h,0,none⟩)]) rfl<|ct<|Zr<|Zw x rfl<|Zv (cT (v:=x) rfl (Below.slT hB hl) eo)<|ZZ rfl<|Zq<|cx ?_
 refine cS (σ:=(Nat)) [6,6,10,23] (λi=>[(6, .int .i64 (i:Int))]) (λi W=>(Below w.heap.size w W)∧(At W h _ 34)∧(i≤l.length)∧(ob l c l.length=ob l c i)∧(True)) (λi=>i) (l.length) ⟨rfl,trivial⟩ ⟨hB,b,(am _),rfl,trivial⟩ ?_
 rintro i V X ⟨hB,b,hi,hp,_⟩ Y L
 refine Zq<|Zr<|Zi rfl<|Zv (il rfl rfl)<|ZX rfl (λM=> ?_) λM=> ?_
 refine Zw (.func (.func 276) #[] #[.pointer (some ⟨h,0,none⟩)]) rfl<|Zw x rfl<|Zi rfl<|Zv (ld rfl rfl Om Om)<|Zv (df (v:=x) rfl (Below.slT hB hl) rfl eo Om (by omega))<|Zv (fD rfl cZ (dh.cell (Below.slT hB hl) gr ⟨0,0⟩ Om (by omega) 0 rfl) (dh.cell (Below.slT hB hl) gr ⟨0,0⟩ Om (by omega) 1 rfl)) ?_
 refine ol (dd:=some 19) rfl rfl rfl (ij (q:=276) (first:= #[]) (cap:= #[.pointer (some ⟨h,0,none⟩)]) (vs:= #[.agg #[_,_], .pointer (some ⟨h,0,none⟩)]) rfl Sn Gb) (vT _ _ _ _ _ _ b) (λZ aa O P=> ?_)
 obtain⟨hB,b⟩:=O.k2 hB b
 obtain rfl:=P
 refine Zv (eR rfl)<|Zb rfl<|ct<|ZQ rfl (λp=> ?_) λp=> ?_
 refine cu<|cx<|cN<|Zi rfl<|Zv (ld rfl rfl Om Om)<|ZZ rfl ?_
 exact L _ _ (i-1) Za ⟨congrArg (Value.int .i64) (by omega:(i:Int)-1=((i-1:Nat):Int)),trivial⟩ ⟨hB,b,Om,(hp.trans (LY Om p)),trivial⟩ Zo
 refine cR ?_
 have hpos:ob l c l.length=i:=hp.trans (Iy (by exact .inr p))
 have hil:((i:Nat):Int).toNat=i:=rfl
 refine Zd dz λQ R=> ?_
 obtain⟨hB,b⟩:=R.k2 hB b
 have hS:=dz.refl Q
 refine Tw 0 x rfl rfl hS<|Ti 1 rfl rfl hS<|Ti 2 rfl rfl hS<|Tk 3 rfl (λ_ hq=>nq (v:=x) rfl (hq.slT (Below.slT hB hl)) eo rfl rfl Om Om Om) hS ?_
 have r:dh im 2 w (fP 2 x 0 i i) ((l.drop 0).take (i-0)):=ab2 gr hl (by omega) (by omega) (by omega) (by omega)
 refine Tk 4 rfl (λ_ hq=>cy rfl cZ rfl (hq.at b)) hS<|Tw 6 x rfl rfl hS<|Ti 7 rfl rfl hS<|Tk 8 rfl (λ_ hq=>nu (v:=x) rfl (hq.slT (Below.slT hB hl)) eo rfl Om Om) hS ?_
 have s:dh im 2 w (fP 2 x i l.length (iZ x)) ((l.drop i).take (l.length-i)):=ab2 gr hl (by omega) (by omega) (by omega) (by omega)
 refine To 5 rfl (eK (u:= .agg #[_,_]) rfl eo jB rfl Dd Dd λg ab G t y=>⟨.inl (hS.trans t),?_⟩)
 have z:=ZO G hB
 have k:=an (dz.size hS) (aae G.symm)
 replace hB:=Ze hB t
 replace hS:=hS.trans t
 have H:=jU (enc:=im) (a:=c) y rfl rfl z
 refine To 9 rfl (dZ (v:= .slice (some ⟨g,0,none⟩) 1 1) (v2:=fP 2 x i l.length (iZ x)) rfl rfl eo jB Dd H (Below.slT hB s) (pI) (n4 hB) iq iq λA ac B d=>⟨.inl (db hS B (am _) (λj hj=>by have e:g=j:=Z9 hj;rw[←e];exact k)),?_⟩)
 replace hS:dz _ _:=db hS B (am _) (λj hj=>by have e:g=j:=Z9 hj;rw[←e];exact k)
 replace d:=cD.app (enc:=im) rfl rfl rfl rfl d
 replace hB:=ZG hB B H
 refine To 10 rfl (jZ (N:=w.heap.size) (v:=fP 2 x 0 i i) (v2:=A) rfl rfl eo jB (Below.slT hB r) (rP iq) d.sl gj (Below.size hB) iq iq λo ad C f=>⟨.inl (hS.trans C),?_⟩)
 replace f:=cD.app (enc:=im) rfl rfl rfl rfl f
 obtain⟨hB,d⟩:=C.k2 hB d
 replace hS:=hS.trans C
 refine Tw 11 o rfl rfl hS<|Td<|Zt<|cV (v:=o) rfl ⟨hB,?_⟩
 have e:(l.drop i).take (l.length-i)=l.drop i:=abe gj
 rw[e]at f
 rw[B8,hpos]
 simpa using f
 refine Zs<|Zs<|Zs<|Zs<|Zs<|Zs<|Zs<|Zs<|Zb rfl<|ct<|dA rfl<|cR ?_
 have hpos:ob l c l.length=i:=hp.trans (Iy (by exact .inl (by omega)))
 have hil:((i:Nat):Int).toNat=i:=rfl
 refine Zd dz λS T=> ?_
 obtain⟨hB,b⟩:=T.k2 hB b
 have hS:=dz.refl S
 refine Tw 0 x rfl rfl hS<|Ti 1 rfl rfl hS<|Ti 2 rfl rfl hS<|Tk 3 rfl (λ_ hq=>nq (v:=x) rfl (hq.slT (Below.slT hB hl)) eo rfl rfl Om Om Om) hS ?_
 have r:dh im 2 w (fP 2 x 0 i i) ((l.drop 0).take (i-0)):=ab2 gr hl (by omega) (by omega) (by omega) (by omega)
 refine Tk 4 rfl (λ_ hq=>cy rfl cZ rfl (hq.at b)) hS<|Tw 6 x rfl rfl hS<|Ti 7 rfl rfl hS<|Tk 8 rfl (λ_ hq=>nu (v:=x) rfl (hq.slT (Below.slT hB hl)) eo rfl Om Om) hS ?_
 have s:dh im 2 w (fP 2 x i l.length (iZ x)) ((l.drop i).take (l.length-i)):=ab2 gr hl (by omega) (by omega) (by omega) (by omega)
 refine To 5 rfl (eK (u:= .agg #[_,_]) rfl eo jB rfl Dd Dd λg ae I D y=>⟨.inl (hS.trans D),?_⟩)
 have z:=ZO I hB
 have k:=an (dz.size hS) (aae I.symm)
 replace hB:=Ze hB D
 replace hS:=hS.trans D
 have J:=jU (enc:=im) (a:=c) y rfl rfl z
 refine To 9 rfl (dZ (v:= .slice (some ⟨g,0,none⟩) 1 1) (v2:=fP 2 x i l.length (iZ x)) rfl rfl eo jB Dd J (Below.slT hB s) (pI) (n4 hB) iq iq λA af E d=>⟨.inl (db hS E (am _) (λj hj=>by have e:g=j:=Z9 hj;rw[←e];exact k)),?_⟩)
 replace hS:dz _ _:=db hS E (am _) (λj hj=>by have e:g=j:=Z9 hj;rw[←e];exact k)
 replace d:=cD.app (enc:=im) rfl rfl rfl rfl d
 replace hB:=ZG hB E J
 refine To 10 rfl (jZ (N:=w.heap.size) (v:=fP 2 x 0 i i) (v2:=A) rfl rfl eo jB (Below.slT hB r) (rP iq) d.sl gj (Below.size hB) iq iq λo ag F f=>⟨.inl (hS.trans F),?_⟩)
 replace f:=cD.app (enc:=im) rfl rfl rfl rfl f
 obtain⟨hB,d⟩:=F.k2 hB d
 replace hS:=hS.trans F
 refine Tw 11 o rfl rfl hS<|Td<|Zt<|cV (v:=o) rfl ⟨hB,?_⟩
 have e:(l.drop i).take (l.length-i)=l.drop i:=abe gj
 rw[e]at f
 rw[B8,hpos]
 simpa using f
end
section
open Go Go.RowKit
theorem vY:cX Tryz.prog 80=true:=by kernel_rfl
theorem ku:mU Tryz.prog 258=some (34,4):=by kernel_rfl
theorem nX:qc Tryz.prog 34 (λv=>∃a:Cb,v=jh a):=by
  refine pd Tryz.underlying34 ?_ ?_ ?_ ?_
  · rintro w _ _ ⟨a,rfl⟩ ⟨c,rfl⟩
    have hg:Tryz.prog.eqGuardType Tryz.prog.depth 34=false:=by kernel_rfl
    exact⟨_,rW hg (IG rfl rfl),by rw[decide_eq_true_eq];constructor<;>intro h<;>simpa [jh] using h⟩
  · rintro _ _ ⟨a,rfl⟩ ⟨c,rfl⟩
    exact .inl rfl
  · rintro w em _ ⟨a,rfl⟩
    have h2:∀k,(Instr.checkKey em (k+1+1+1) 34 (jh a)).run Tryz.prog w= .ok () w:=λk=>by
      simp[jh,Instr.checkKey,part,isAgg,run_underlying Tryz.underlying34,run_underlying Tryz.underlying5]
    exact h2 9997
  · rintro _ ⟨a,rfl⟩
    simp[jh,Instr.sameBits]
theorem P5:cX Tryz.prog 262=true:=by kernel_rfl
theorem El (s:Nat) (n:Int) (w:World):
    Fn Tryz.prog 227 #[eb s, .int .i64 n] w λv w'=>if xz s n=true then ∃x,v= .tuple #[x, .int .i64 0]∧cD im 2 34 w' w.heap.size x (ej s n)else v= .tuple #[.slice none 0 0, .int .i64 1]:=by
 refine cH (n:=105) Tryz.func227 rfl rfl rfl λhB=> ?_
 refine Zr<|Zy (dt (c:= #[_,_,_,_]) rfl rfl λQ W3 bD aI e=> ?_)
 replace hB:=Ze hB aI
 refine Zw (.slice none 0 0) rfl<|ZZ rfl<|Zr<|Zi rfl<|ZC vY (nn _ _) rfl λbE W8 aJ aK=> ?_
 obtain⟨hB,e⟩:=aJ.k2 hB e
 obtain⟨sa,er,rfl,hhP1_1⟩:=r7 aK
 refine Zw (.tuple #[.agg #[_,_,_,_], .int .i64 _]) rfl<|Zv (c7 rfl)<|Zv (da rfl)<|Zy (cI ee rfl λO aL aq aM f=> ?_)
 have aN:=ZO aq hB
 have aO:=Zn aq e.lt
 obtain⟨hB,e⟩:=aM.k2 hB e
 replace f:At aL O #[wv 0 0,wv 0 1,wv 0 2,wv 0 3] 40:=f
 refine Zy (cz rfl rfl cA rfl f rfl rfl λbF ar aP=> ?_)
 replace hB:=Zg hB ar aN
 replace e:=At.grownNe e aO ar
 replace f:=aP
 refine ZZ rfl<|Zq<|Zr<|Zi rfl<|Zv (ep rfl rfl)<|ZX rfl (λV=> ?_) λV=> ?_
 refine Zs<|Zs<|Zs<|Zs<|Zb rfl<|ct<|cF rfl<|Zr<|Zw (.slice none 0 0) rfl<|ZZ rfl<|Zt<|dL (v:= .slice none 0 0) rfl (v1:= .int .i64 1) rfl ⟨hB,?_⟩
 rw[if_neg (JO hhP1_1 V)]
 refine Zv (cy rfl cA rfl e)<|Zv (cy rfl cA rfl f)<|ZC (vs:=[.agg #[_,_,_,_], .agg #[_,_,_,_]]) qO (iL _ _ _) rfl λbG bH aQ aR=> ?_
 obtain⟨hB,e,f⟩:=aQ.k3 hB e f
 obtain rfl:=aR
 refine Zv (eR rfl)<|Zb rfl<|ct<|ZQ rfl (λab=> ?_) λab=> ?_
 refine Zr<|Zw (.slice none 0 0) rfl<|ZZ rfl<|Zt<|dL (v:= .slice none 0 0) rfl (v1:= .int .i64 1) rfl ⟨hB,?_⟩
 rw[if_neg (Ji hhP1_1 V ab)]
 refine cu ?_
 have hof:xz s n=true:=Nk hhP1_1 V ab
 obtain⟨hn0,hn8⟩:=kV hof
 have hll:=lZ s
 refine Zr<|Zy (gQ (enc:=jh) (encV:=Value.bool) λX bI aS aT y=> ?_)
 have aU:=ZO aS hB
 obtain⟨hB,e,f⟩:=aT.k3 hB e f
 replace y:du jh Value.bool _ _ (fp []):=y
 refine Zw (.map (some X)) rfl<|ct<|Zq<|Zr<|Zv (cy rfl cA rfl e)<|ZC (vs:=[.agg #[_,_,_,_]]) um (nE _ _) rfl λM bJ aV h=> ?_
 have aW:=(Below.size hB)
 obtain⟨hB,e,f,y⟩:=aV.k4 hB e f y
 replace h:=cD.mono h aW
 refine Zv (cT (v:=M) rfl h.sl cM)<|ZZ rfl<|cx ?_
 refine cS (σ:=(Nat)×(List Cb)) [10,10,35,46] (λ(k,ks)=>[(35, .int .i64 (k:Int))]) (λsg W=>match sg with|(k,ks)=>(Below w.heap.size w W)∧(At W Q _ 40)∧(At W O _ 40)∧(cD dJ 1 3 W w.heap.size M _)∧(du jh Value.bool W X (fp ks))∧(k≤(d7 s).length)∧(∀c,c∈ks↔∃j,j<k∧c=⟨2^n.toNat-1,((d7 s).getD j 0).toNat⟩)∧(True)) (λ(k,ks)=>(d7 s).length-k) ((0,[])) ⟨rfl,trivial⟩ ⟨hB,e,f,h,y,(my _),(λc=>by simp),trivial⟩ ?_
 rintro⟨k,ks⟩ bK bL ⟨hB,e,f,h,y,hk,hks,_⟩ bM aX
 refine Zr<|Zv (dk rfl rfl)<|ct<|Zq<|ZQ rfl (λaY=> ?_) λaY=> ?_
 refine cu<|Zq<|cx<|Zr<|Zv (df (v:=M) rfl h.sl rfl cM Om (by omega))<|Zv (cB (v:= .int .i64 _) rfl cK (dh.cell h.sl dI 0 Om (by omega) 0 rfl))<|ZZ rfl ?_
 obtain⟨p,bN,bO,au⟩:=lV (s:=s) (i:=k) (by omega)
 refine cN<|Zw (.map (some X)) rfl<|Zi rfl<|Zv (UR rfl rfl hn0)<|Zv (VW rfl rfl hn0 hn8)<|Zi rfl<|Zv (ic (m:=p) (congrArg (Value.int .i64) au) Tryz.underlying3 Tryz.underlying5 oG)<|Zv (nQ (h0:=rfl) (k0:=rfl) (h1:=rfl) (k1:=rfl) (c0_0:= .int .u8 _) (c1_0:= .int .u8 _)) ?_
 refine gK (dd:=none) rfl rfl rfl (fJ (enc:=jh) (encV:=Value.bool) (k:=⟨_,_⟩) (v:=true) rfl rfl rfl ku nX (λa=>⟨a,rfl⟩) nL y (λbP Y aZ=> ?_))
 replace hB:=Zg hB Y aU
 replace e:=At.grownMap e y Y
 replace f:=At.grownMap f y Y
 replace h:=cD.grownMap h y Y
 replace y:=aZ
 rw[jP]at y
 refine ct<|ZT rfl rfl rfl ?_
 exact aX _ _ ((k+1,ja ks ⟨2^n.toNat-1,p⟩)) Za ⟨rfl,trivial⟩ ⟨hB,e,f,h,y,Om,(Lr hks au),trivial⟩ (by show (d7 s).length-(k+1)<(d7 s).length-k;omega)
 refine cR<|Zr<|Zw (.slice none 0 0) rfl<|ct<|Zq<|cx ?_
 refine cS (σ:=(Nat)×(List Cb)×(Value)×(List Cb)×(Nat)) [8,8,11,17,47,103] (λ(bn,now,v0,out,t)=>[(8, .map (some bn)),(11,v0)]) (λsg W=>match sg with|(bn,now,v0,out,t)=>(Below w.heap.size w W)∧(At W Q _ 40)∧(At W O _ 40)∧(cD dJ 1 3 W w.heap.size M _)∧(du jh Value.bool W bn (fp now))∧(cD im 2 34 W w.heap.size v0 (out))∧(pg s n t now)∧(yT s n t out)∧(jm out)∧(t≤n.toNat+1)∧(True)) (λ(bn,now,v0,out,t)=>t) ((X,ks, .slice none 0 0,[],n.toNat+1)) ⟨rfl,rfl,trivial⟩ ⟨hB,e,f,h,y,cD.nil,(DG hof (LN hks Om)),Mj,List.Pairwise.nil,(am _),trivial⟩ ?_
 rintro⟨bn,now,v0,out,t⟩ bQ bR ⟨hB,e,f,h,hmN,ho,hLv,hOut,hRis,ht,_⟩ bS a0
 refine Zq<|Zr<|Zw (.map (some bn)) rfl<|Zv (Ng rfl ku hmN)<|Zv (il rfl rfl)<|ct<|ZQ rfl (λac=> ?_) λac=> ?_
 refine cu<|cx ?_
 obtain⟨t',rfl⟩:=KT hLv ac
 refine Zr<|Zy (gQ (enc:=jh) (encV:=Value.bool) λA bT av a1 g=> ?_)
 have aw:=ZO av hB
 have Z:=Zn av hmN.lt
 obtain⟨hB,e,f,h,hmN,ho⟩:=a1.k6 hB e f h hmN ho
 replace g:du jh Value.bool _ _ (fp []):=g
 refine Zy (gQ (enc:=jh) (encV:=Value.bool) λP bU ad a2 l=> ?_)
 have a3:=ZO ad hB
 have ax:=Zn ad hmN.lt
 have ae:=Zn ad g.lt
 obtain⟨hB,e,f,h,hmN,ho,g⟩:=a2.k7 hB e f h hmN ho g
 replace l:du jh Value.bool _ _ (fp []):=l
 refine Zw (.map (some A)) rfl<|Zw (.map (some P)) rfl<|ct<|Zq<|Zr<|Zw (.map (some bn)) rfl<|Zy (Cd rfl ku hmN λay bV a4 a5 o=> ?_)
 have a6:=ZO a4 hB
 obtain⟨hB,e,f,h,hmN,ho,g,l⟩:=a5.k8 hB e f h hmN ho g l
 refine ct<|cx ?_
 refine cS (σ:=(List Cb)×(List Cb)×(List Cb)) [14,16,54,89] (λ(seen,nl,ml)=>[]) (λsg W=>match sg with|(seen,nl,ml)=>(Below w.heap.size w W)∧(At W Q _ 40)∧(At W O _ 40)∧(cD dJ 1 3 W w.heap.size M _)∧(du jh Value.bool W bn _)∧(cD im 2 34 W w.heap.size v0 _)∧(eD jh Value.bool W ay bn (fp now) seen)∧(du jh Value.bool W A (fp nl))∧(du jh Value.bool W P (fp ml))∧(∀d,d∈nl↔jJ now n seen d)∧(∀d,d∈ml↔gw now n seen d)∧(True)) (λ(seen,nl,ml)=>(fp now).length-seen.length) (([],[],[])) trivial ⟨hB,e,f,h,hmN,ho,o,g,l,Hd,BZ,trivial⟩ ?_
 rintro⟨seen,nl,ml⟩ bW bX ⟨hB,e,f,h,hmN,ho,o,g,l,hN,hM,_⟩ bY a7
 refine Zr ?_
 refine gK (dd:=some 54) rfl rfl rfl (Hn rfl o (λa8=> ?_) (λz bZ b0 az b1 K a9=> ?_))
 refine Zv (qy rfl)<|ct<|Zq<|dA rfl<|cR<|Zq ?_
 have hseen:=FC o a8
 have hN':=Kf hN hseen
 have hM':=Eb hM hseen
 refine Zr<|Zw (.map (some bn)) rfl<|Zy (Cd rfl ku hmN λba b2 bb af u=> ?_)
 have bc:=ZO bb hB
 obtain⟨hB,e,f,h,hmN,ho⟩:=af.k6 hB e f h hmN ho
 replace o:=af.iterT o
 obtain⟨g,l⟩:=af.k2 g l
 refine ct<|cx ?_
 refine cS (σ:=(List Cb)×(Value)×(List Cb)) [11,11,17,17,92,102] (λ(seen2,v2,out2)=>[(11,v2)]) (λsg W=>match sg with|(seen2,v2,out2)=>(Below w.heap.size w W)∧(At W Q _ 40)∧(At W O _ 40)∧(cD dJ 1 3 W w.heap.size M _)∧(du jh Value.bool W bn _)∧(du jh Value.bool W A _)∧(du jh Value.bool W P _)∧(eD jh Value.bool W ba bn (fp now) seen2)∧(cD im 2 34 W w.heap.size v2 (out2))∧(∀c,c∈out2↔c∈out∨(c∈seen2∧c∉ml))∧(jm out2)∧(True)) (λ(seen2,v2,out2)=>(fp now).length-seen2.length) (([],v0,out)) ⟨rfl,trivial⟩ ⟨hB,e,f,h,hmN,g,l,u,ho,Wi,hRis,trivial⟩ ?_
 rintro⟨seen2,v2,out2⟩ b3 b4 ⟨hB,e,f,h,hmN,g,l,u,B,R,hR2,_⟩ b5 aA
 refine Zr ?_
 refine gK (dd:=some 92) rfl rfl rfl (Hn rfl u (λbd=> ?_) (λN b6 b7 aB bf L bg=> ?_))
 refine Zv (qy rfl)<|ct<|Zq<|dA rfl<|cR ?_
 have hseen2:=FC u bd
 refine cN<|Zw (.map (some A)) rfl<|Zw (.map (some A)) rfl<|ct ?_
 exact a0 _ _ ((A,nl,v2,out2,t')) Za ⟨rfl,rfl,trivial⟩ ⟨hB,e,f,h,g,(by exact B),(G6 hn8 hLv Om hN'),(Mw hLv hOut hM' (Rg R hseen2)),hR2,Om,trivial⟩ (by show t'<t'+1;omega)
 replace hB:=Zg hB L bc
 replace e:=ab8 e u L
 replace f:=ab8 f u L
 replace h:=acd h u L
 replace hmN:=ab5 hmN u L
 replace g:=ab5 g u L
 replace l:=ab5 l u L
 replace B:=acd B u L
 replace u:=bg
 refine Zv (iO rfl)<|ct<|Zq<|cF rfl<|cu<|cx ?_
 have hkn:=(DT aB).1
 obtain⟨hkm,hkv⟩:=zu hLv hn8 hkn
 refine Zr<|Zv (Cy rfl u aB)<|Zv (c7 rfl)<|Zy (cI gV rfl λbh b8 aC ag C=> ?_)
 have bi:=ZO aC hB
 have bj:=aaQ (b:=bh) B (aae aC.symm)
 obtain⟨hB,e,f,h,hmN,g,l⟩:=ag.k7 hB e f h hmN g l
 replace u:=ag.iterT u
 replace B:=ag.ow B
 refine Zy (cz rfl rfl cZ rfl C rfl rfl λb9 H bk=> ?_)
 replace hB:=Zg hB H bi
 replace e:=At.grownAt e C H Dd
 replace f:=At.grownAt f C H Dd
 replace h:=cD.grownAt h C H Dd
 replace hmN:=du.grownAt hmN C H
 replace g:=du.grownAt g C H
 replace l:=du.grownAt l C H
 replace u:=eD.grownAt u C H
 replace B:=aat B bj H
 replace C:=bk
 refine ct<|Zr<|Zw (.map (some P)) rfl<|Zv (cy rfl cZ rfl C)<|Zv (fV (enc:=jh) (encV:=Value.bool) (v0:=false) (k:=⟨N.m,N.v⟩) rfl rfl ku nX (λa=>⟨a,rfl⟩) nL qj rfl l)<|Zv (eR rfl)<|ct<|ZQ rfl (λah=> ?_) λah=> ?_
 have hsm:=Pt hLv hn8 hOut R (λc hc=>D2 u c (aai _ hc)) hR2
 refine cN<|Zw v2 rfl<|Zv (cy rfl cZ rfl C)<|ZC (vs:=[v2, .agg #[_,_]]) P5 (y8 _ _ _ _ B.sl (by omega)) rfl λaD ca aE ai=> ?_
 have cb:=abU B
 have bl:=(Below.size hB)
 obtain⟨hB,e,f,h,hmN,g,l⟩:=aE.k7 hB e f h hmN g l
 replace u:=aE.iterT u
 replace ai:=cD.mono ai bl
 refine Zw aD rfl<|ct ?_
 exact aA _ _ ((N::seen2,aD,B8 out2 N)) Za ⟨rfl,trivial⟩ ⟨hB,e,f,h,hmN,g,l,u,(by exact ai),(RF R (OC ah)),(FZ hR2 (T9 hLv hOut R hkn bf)),trivial⟩ (by have hle:=ab7 u;show (fp now).length-(N::seen2).length<(fp now).length-seen2.length;simp only[aak]at hle ⊢;omega)
 refine cu ?_
 exact aA _ _ ((N::seen2,v2,out2)) Za ⟨rfl,trivial⟩ ⟨hB,e,f,h,hmN,g,l,u,(by exact B),(PC R (OB ah)),hR2,trivial⟩ (by have hle:=ab7 u;show (fp now).length-(N::seen2).length<(fp now).length-seen2.length;simp only[aak]at hle ⊢;omega)
 replace hB:=Zg hB K a6
 replace e:=ab8 e o K
 replace f:=ab8 f o K
 replace h:=acd h o K
 replace hmN:=ab5 hmN o K
 replace ho:=acd ho o K
 replace g:=ab5 g o K
 replace l:=ab5 l o K
 replace o:=a9
 refine Zv (iO rfl)<|ct<|Zq<|cF rfl<|cu<|cx ?_
 have hkn:=(DT az).1
 obtain⟨hkm,hkv⟩:=zu hLv hn8 hkn
 refine Zr<|Zv (Cy rfl o az)<|Zv (c7 rfl)<|Zy (cI gV rfl λaF cc aG aj r=> ?_)
 have bm:=ZO aG hB
 have bo:=aaQ (b:=aF) ho (aae aG.symm)
 obtain⟨hB,e,f,h,hmN,ho⟩:=aj.k6 hB e f h hmN ho
 replace o:=aj.iterT o
 obtain⟨g,l⟩:=aj.k2 g l
 refine Zy (cz rfl rfl cZ rfl r rfl rfl λcd I bp=> ?_)
 replace hB:=Zg hB I bm
 replace e:=At.grownAt e r I Dd
 replace f:=At.grownAt f r I Dd
 replace h:=cD.grownAt h r I Dd
 replace hmN:=du.grownAt hmN r I
 replace ho:=aat ho bo I
 replace o:=eD.grownAt o r I
 replace g:=du.grownAt g r I
 replace l:=du.grownAt l r I
 replace r:=bp
 refine ct<|Zr<|Zi rfl<|ZZ rfl<|cx ?_
 refine cS (σ:=(Nat)×(List Cb)×(List Cb)) [15,16,59,89] (λ(i,nl2,ml2)=>[(59, .int .i64 (i:Int))]) (λsg W=>match sg with|(i,nl2,ml2)=>(Below w.heap.size w W)∧(At W Q _ 40)∧(At W O _ 40)∧(cD dJ 1 3 W w.heap.size M _)∧(du jh Value.bool W bn _)∧(cD im 2 34 W w.heap.size v0 _)∧(eD jh Value.bool W ay bn _ _)∧(At W aF _ 34)∧(du jh Value.bool W A (fp nl2))∧(du jh Value.bool W P (fp ml2))∧((i:Int)≤n)∧(∀d,d∈nl2↔jJ now n seen d∨∃q,q<i∧jq now z q∧d=jF z q)∧(∀d,d∈ml2↔gw now n seen d∨(d=z∧∃q,q<i∧jq now z q))∧(True)) (λ(i,nl2,ml2)=>n.toNat-i) ((0,nl,ml)) ⟨rfl,trivial⟩ ⟨hB,e,f,h,hmN,ho,o,r,g,l,Om,(K7 hN),(Fk hM),trivial⟩ ?_
 rintro⟨i,nl2,ml2⟩ ce cf ⟨hB,e,f,h,hmN,ho,o,r,g,l,hi,hN2,hM2,_⟩ cg ak
 refine Zr<|Zv (dk rfl rfl)<|ct<|Zq<|ZQ rfl (λbq=> ?_) λbq=> ?_
 refine cu<|Zq<|cx<|Zr<|Zi rfl<|ZZ rfl ?_
 have h7:=Al (show i<8 by omega)
 have hd:z.m/2^i≤z.m:=aaY _ _
 refine Zd dz λbr al=> ?_
 obtain⟨hB,e,f,h,hmN,ho⟩:=al.k6 hB e f h hmN ho
 replace o:=al.iterT o
 obtain⟨r,g,l⟩:=al.k3 r g l
 have hS:=dz.refl br
 refine Tf 0 rfl rfl ea hS<|Tk 1 rfl (λ_ hq=>cB (v:= .int .u8 _) rfl dK (At.cell (hq.at r) rfl)) hS<|Tf 2 rfl rfl fE hS<|Tk 3 rfl (λ_ hq=>cB (v:= .int .u8 _) rfl dK (At.cell (hq.at r) rfl)) hS<|Ti 4 rfl rfl hS<|Tk 5 rfl (λ_ _=>jA (m:=1) rfl rfl Om (by simp only[IntKind.bits];omega) yR) hS<|Tk 6 rfl (λ_ _=>MD (n:=_) rfl rfl rfl m5 yR) hS<|Tk 7 rfl (λ_ _=>nQ (h0:=rfl) (k0:=rfl) (h1:=rfl) (k1:=rfl) (c0_0:= .int .u8 _) (c1_0:= .int .u8 _)) hS<|To 8 rfl (cI gV rfl λbs ch ao aa E=>⟨.inl (hS.trans aa),?_⟩)
 have bt:=ZO ao hB
 have bu:=aaQ (b:=bs) ho (aae ao.symm)
 have bv:=Zn ao r.lt
 obtain⟨hB,e,f,h,hmN,ho⟩:=aa.k6 hB e f h hmN ho
 replace o:=aa.iterT o
 obtain⟨r,g,l⟩:=aa.k3 r g l
 refine To 9 rfl (cz rfl rfl cZ rfl E rfl rfl λci F bw=>⟨.inr jW,?_⟩)
 replace hB:=Zg hB F bt
 replace e:=At.grownAt e E F Dd
 replace f:=At.grownAt f E F Dd
 replace h:=cD.grownAt h E F Dd
 replace hmN:=du.grownAt hmN E F
 replace ho:=aat ho bu F
 replace o:=eD.grownAt o E F
 replace r:=At.grownNe r bv F
 replace g:=du.grownAt g E F
 replace l:=du.grownAt l E F
 replace E:=bw
 refine Td<|Zr<|Zf rfl ea<|Zl rfl dK r rfl<|Zi rfl<|Zv (qd rfl rfl Om (by simp only[IntKind.bits];omega))<|Zv (mZ (n:=1) rfl rfl rfl T6 tk)<|Zv (dW rfl rfl)<|ZX rfl (λS=> ?_) λS=> ?_
 refine Zw (.map (some bn)) rfl<|Zv (cy rfl cZ rfl E)<|Zv (fV (enc:=jh) (encV:=Value.bool) (v0:=false) (k:=⟨z.m,z.v ^^^ 1*2^((i:Nat):Int).toNat⟩) rfl rfl ku nX (λa=>⟨a,rfl⟩) nL qj rfl hmN)<|Zb rfl<|ct<|ZQ rfl (λT=> ?_) λT=> ?_
 refine fe (λa b=>a.grownBy b (some A)) fQ (λbx ap=> ?_)
 obtain⟨hB,e,f,h,hmN,ho⟩:=ap.k6 hB e f h hmN ho
 replace o:=ap.iterT o
 obtain⟨r,g,l⟩:=ap.k3 r g l
 have aH:=g
 have hS:=World.grownBy.refl bx (some A)
 refine Tw 0 (.map (some A)) rfl rfl hS<|Tk 1 rfl (λ_ hq=>cy rfl cZ rfl (At.grownMap r aH hq)) hS<|Ti 2 rfl rfl hS<|Tw 4 (.map (some P)) rfl rfl hS<|Tk 5 rfl (λ_ hq=>cy rfl cZ rfl (At.grownMap r aH hq)) hS<|To 3 rfl (TC (vs:=[.agg #[_,_], .int .i64 _]) xo (lB _ _ _ _ m5 m5) rfl λcj ck U bz=>⟨.inl (cC hS (dz.grown U (some A))),?_⟩)
 obtain⟨hB,e,f,h,hmN,ho⟩:=U.k6 hB e f h hmN ho
 replace o:=U.iterT o
 obtain⟨r,g,l⟩:=U.k3 r g l
 replace hS:=cC hS (dz.grown U (some A))
 obtain rfl:=bz
 refine To 6 rfl (GI (enc:=jh) (encV:=Value.bool) (v0:=false) (k:=(jF z i)) rfl rfl ku nX (λa=>⟨a,rfl⟩) nL qj rfl g λcl cm D bA=>⟨.inl (cC hS D),?_⟩)
 replace hS:=cC hS D
 replace hB:=Zg hB D aw
 replace e:=At.grownMap e g D
 replace f:=At.grownMap f g D
 replace h:=cD.grownMap h g D
 replace hmN:=du.grownNe hmN Z D
 replace ho:=cD.grownMap ho g D
 replace o:=eD.grownMap o g Z D
 replace r:=At.grownMap r g D
 replace l:=du.grownNe l (Ne.symm ae) D
 replace g:=bA
 refine Tk 7 rfl (λ_ _=>da rfl) hS<|To 8 rfl (B7 (encV:=Value.bool) (v:=true) rfl rfl rfl g λcn G bB=>⟨.inl (cC hS G),?_⟩)
 replace hB:=Zg hB G aw
 replace e:=ach e g G
 replace f:=ach f g G
 replace h:=acp h g G
 replace hmN:=du.grownNe hmN Z G
 replace ho:=acp ho g G
 replace o:=acw o g Z G
 replace r:=ach r g G
 replace l:=du.grownNe l (Ne.symm ae) G
 replace g:=bB
 rw[jP]at g
 refine To 9 rfl (fJ (enc:=jh) (encV:=Value.bool) (k:=z) (v:=true) rfl rfl rfl ku nX (λa=>⟨a,rfl⟩) nL l λco J bC=>⟨.inr jW,?_⟩)
 replace hB:=Zg hB J a3
 replace e:=At.grownMap e l J
 replace f:=At.grownMap f l J
 replace h:=cD.grownMap h l J
 replace hmN:=du.grownNe hmN ax J
 replace ho:=cD.grownMap ho l J
 replace o:=eD.grownMap o l ax J
 replace r:=At.grownMap r l J
 replace g:=du.grownNe g ae J
 replace l:=bC
 rw[jP]at l
 refine Td<|ZT rfl rfl rfl ?_
 exact ak _ _ ((i+1,ja nl2 (jF z i),ja ml2 z)) Za ⟨rfl,trivial⟩ ⟨hB,e,f,h,hmN,ho,o,r,g,l,Om,(Mu hN2 (A9 S T)),(GP hM2 (A9 S T)),trivial⟩ (by show n.toNat-(i+1)<n.toNat-i;omega)
 refine cu<|ZT rfl rfl rfl ?_
 exact ak _ _ ((i+1,nl2,ml2)) Za ⟨rfl,trivial⟩ ⟨hB,e,f,h,hmN,ho,o,r,g,l,Om,(Bz hN2 (Bw T)),(wR hM2 (Bw T)),trivial⟩ (by show n.toNat-(i+1)<n.toNat-i;omega)
 refine Zs<|Zs<|Zs<|Zb rfl<|ct<|dA rfl<|cu<|ZT rfl rfl rfl ?_
 exact ak _ _ ((i+1,nl2,ml2)) Za ⟨rfl,trivial⟩ ⟨hB,e,f,h,hmN,ho,o,r,g,l,Om,(Bz hN2 (Bp S)),(wR hM2 (Bp S)),trivial⟩ (by show n.toNat-(i+1)<n.toNat-i;omega)
 refine cR ?_
 refine a7 _ _ ((z::seen,nl2,ml2)) ?_ ?_ ?_ ?_
 · repeat (first|exact dB.mask _ _ _|refine abG ?_ rfl _|refine aby ?_ _ rfl|refine abk rfl ?_)
 · exact trivial
 · exact⟨hB,e,f,h,hmN,ho,o,g,l,(Pb hN2 (by omega)),(GF hM2 (by omega)),trivial⟩
 · have hle:=ab7 o;show (fp now).length-(z::seen).length<(fp now).length-seen.length;simp only[aak]at hle ⊢;omega
 refine cR<|Zr<|Zw v0 rfl<|Zw v0 rfl<|ZZ rfl<|Zt<|dL (v:=v0) rfl (v1:= .int .i64 0) rfl ⟨hB,?_⟩
 obtain rfl:now=[]:=HF ac
 rw[if_pos hof]
 exact⟨_,rfl,by rw[←PF ht hLv hOut hRis];exact ho⟩
end
section
open Go Go.RowKit
theorem nF {a b:Cb}:jx a b=true↔∀j,a.m.testBit j=true→b.m.testBit j=true∧a.v.testBit j=b.v.testBit j:=by
 unfold jx
 rw[we,decide_eq_true_eq,decide_eq_true_eq]
 constructor
 ·rintro⟨h1,h2⟩ j hj
  have e1:=congrArg (λx=>x.testBit j) h1
  have e2:=congrArg (λx=>x.testBit j) h2
  simp only[dU,aad,Nat.testBit_xor,aaF,hj,aax,aaZ]at e1 e2
  exact⟨by simpa using e1,by simpa using e2⟩
 ·intro h
  constructor
  ·refine Z7 λj=> ?_
   rw[dU,aaF]
   cases hj:a.m.testBit j with
   |false=>rfl
   |true=>rw[(h j hj).1];rfl
  ·refine Z7 λj=> ?_
   rw[aad,Nat.testBit_xor,aaF]
   cases hj:a.m.testBit j with
   |false=>simp
   |true=>rw[(h j hj).2];simp
theorem HL (a:Cb):jx a a=true:=nF.2 λ_ h=>⟨h,rfl⟩
theorem D4 {a b c:Cb} (h:jx a b=true) (k:jx b c=true):jx a c=true:=by
 rw[nF]at*
 exact λj hj=>⟨(k j (h j hj).1).1,(h j hj).2.trans (k j (h j hj).1).2⟩
theorem OO {c:Cb} {i:Nat} (hi:i<8):jx (jF c i) c=true:=nF.2 λj hj=>by
 have hj':(lI c.m (i:Int)).testBit j=true:=hj
 have hv:(jF c i).v.testBit j=(c.v &&& lI c.m (i:Int)).testBit j:=rfl
 rw[fz hi,we]at hj'
 refine⟨hj'.1,?_⟩
 rw[hv,aad,fz hi,hj'.1,hj'.2]
 simp
theorem mD {a b:Cb} {p:Nat} (ha:a.v &&& a.m=a.v) (h:jx a b=true) (hp:p &&& b.m=b.v):p &&& a.m=a.v:=by
 rw[nF]at h
 refine Z7 λj=> ?_
 have e:=congrArg (λx=>x.testBit j) hp
 simp only[aad]at e
 rw[aad,eU ha j]
 cases hj:a.m.testBit j with
 |false=>simp
 |true=>
  obtain⟨h1,h2⟩:=h j hj
  rw[h2,←e,h1]
  simp
def lP (l:List Cb) (n:Nat):Nat→Nat
 |0=>0
 |k+1=>lP l n k ||| oH (l.getD k ⟨0,0⟩).m (l.getD k ⟨0,0⟩).v n
theorem ug {l:List Cb} {n:Nat} (hn:n≤8) (p:Nat):∀k,(lP l n k).testBit p=true↔∃j,j<k∧p<2^n∧p &&& (l.getD j ⟨0,0⟩).m=(l.getD j ⟨0,0⟩).v
 |0=>by simp[lP]
 |k+1=>by
  simp only[lP,aaP,aaU,ug hn p k,iM hn,we,decide_eq_true_eq]
  constructor
  ·rintro(⟨j,hj,h⟩|h)
   ·exact⟨j,by omega,h⟩
   ·exact⟨k,by omega,h⟩
  ·rintro⟨j,hj,h⟩
   rcases aac.1 hj with hj|rfl
   ·exact .inl ⟨j,hj,h⟩
   ·exact .inr h
theorem eZ {α:Type} {l:List α} {a d:α} (h:a∈l):∃j,j<l.length∧l.getD j d=a:=by
 obtain⟨j,hj,rfl⟩:=List.mem_iff_getElem.1 h
 exact⟨j,hj,by simp[hj]⟩
theorem Oz {s:Nat} {n:Int} {i:Nat} (h:i<(ej s n).length):iD ((ej s n).getD i ⟨0,0⟩).m ((ej s n).getD i ⟨0,0⟩).v s n=true:=oy.1 (dy h)
end
end Go.Proofs.YtedeonkjellcpaaGreatDoor
