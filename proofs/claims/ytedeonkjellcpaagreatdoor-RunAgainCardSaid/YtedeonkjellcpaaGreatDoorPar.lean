/- The walks of specs, of package multi, and of the document's rows. Plain words for what rows cover: the points of an output, point by point. Steps of the walks. No program in it. The walks of what rows cover, and of the document's rows, primes and growing. The plain law of texts: what is printed is r -/
import Derived.Test.YtedeonkjellcpaaGreatDoorWAll
namespace Go.Proofs.YtedeonkjellcpaaGreatDoor
set_option linter.unusedVariables false
set_option linter.unusedSimpArgs false
section
open Go Go.RowKit
theorem iM:d5 Tryz.prog 59 0=some 0:=by kernel_rfl
theorem gW:d5 Tryz.prog 59 1=some 1:=by kernel_rfl
theorem eY:eJ Tryz.prog 57=true:=by kernel_rfl
theorem ey:fl Tryz.prog 57=some (40,4,32):=by kernel_rfl
theorem gi:d5 Tryz.prog 59 2=some 2:=by kernel_rfl
theorem ee:kf Tryz.prog 59=some 3:=by kernel_rfl
theorem oC:cX Tryz.prog 100=true:=by kernel_rfl
theorem fF:d5 Tryz.prog 158 1=some 2:=by kernel_rfl
theorem gC:d5 Tryz.prog 158 0=some 0:=by kernel_rfl
theorem CZ:cX Tryz.prog 199=true:=by kernel_rfl
theorem dM:fl Tryz.prog 83=some (158,3,3):=by kernel_rfl
theorem dU:kf Tryz.prog 158=some 3:=by kernel_rfl
theorem jM:dW Tryz.prog 158=some (.agg #[.int .u8 0, .int .u8 0, .int .u8 0]):=by kernel_rfl
theorem il:(dW Tryz.prog 158).map (λz=>z.cells.size)=some 3:=by kernel_rfl
theorem ST:cX Tryz.prog 229=true:=by kernel_rfl
theorem tH:cX Tryz.prog 83=true:=by kernel_rfl
theorem SF:cX Tryz.prog 227=true:=by kernel_rfl
theorem kG {f:Nat→Value} {w:World} {d:Option Nat} {ty:TypeId} {ps:String} {af:Array Edge} {g:Option (Nat×Bool)} {x0 x1:Operand} {c0_0 c0_1 c1_0:Value} (h0:dk f x0= .agg #[c0_0,c0_1]) (h1:dk f x1=c1_0) (k1:c1_0.cells= #[c1_0]):
    (execOp (dk f) ⟨d, .build 158 #[(0,x0),(1,x1)],ty,ps,af,g⟩).run Tryz.prog w= .ok (.value (.agg #[c0_0,c0_1,c1_0])) w:=by
  obtain⟨i0,hi0,hz0⟩:=Do.1 (show (Tryz.prog.info? 158).bind (·.zero)=_ from jM)
  obtain⟨j5,hj5,hs5⟩:=an.1 pu
  obtain⟨j34,hj34,hs34⟩:=an.1 pn
  simp[execOp,h0,h1,k1,Instr.build,zeroValue,typeInfo,sizeOf,hi0,hz0,run_underlying Tryz.underlying158,Instr.fill,d7,hj5,hs5,hj34,hs34]
theorem Rc:cX Tryz.prog 228=true:=by kernel_rfl
theorem C8:cX Tryz.prog 197=true:=by kernel_rfl
theorem C4 {f:Nat→Value} {w:World} {d:Option Nat} {ty:TypeId} {ps:String} {af:Array Edge} {g:Option (Nat×Bool)}:
    (execOp (dk f) ⟨d, .build 158 #[],ty,ps,af,g⟩).run Tryz.prog w= .ok (.value (.agg #[.int .u8 0, .int .u8 0, .int .u8 0])) w:=by
  obtain⟨i0,hi0,hz0⟩:=Do.1 (show (Tryz.prog.info? 158).bind (·.zero)=_ from jM)
  obtain⟨j5,hj5,hs5⟩:=an.1 pu
  obtain⟨j34,hj34,hs34⟩:=an.1 pn
  simp[execOp,Instr.build,zeroValue,typeInfo,sizeOf,hi0,hz0,run_underlying Tryz.underlying158,Instr.fill,d7,hj5,hs5,hj34,hs34]
theorem iP (S:Sp) (onV mayV:Value) (w:World) (hon:dp fh 4 w onV S.on) (hmay:dp fh 4 w mayV S.may):
    Fn Tryz.prog 100 #[.agg #[.int .i64 S.n,onV,mayV]] w λv w'=>v= .bool (dt S):=by
 refine cM (n:=63) Tryz.func100 rfl rfl rfl λhB=> ?_
 refine Zr<|Zy (dw (c:= #[_,_,_]) rfl rfl λs W3 V t a=> ?_)
 replace hB:=Ze hB t
 refine Zb rfl<|ct<|Zr<|Zf rfl iM<|Zl rfl cR a rfl<|ZC vU (nA _ _) rfl λX W8 u x=> ?_
 obtain⟨hB,a⟩:=u.k2 hB a
 obtain⟨sa,er,rfl,hhP1_2⟩:=sU x
 refine Zw (.tuple #[.agg #[_,_,_,_], .int .i64 _]) rfl<|Zv (cZ rfl)<|Zv (c7 rfl)<|Zy (cK el rfl λo y z A b=> ?_)
 have B:=ZO z hB
 obtain⟨hB,a⟩:=A.k2 hB a
 replace b:At y o #[wv 0 0,wv 0 1,wv 0 2,wv 0 3] 40:=b
 refine Zy (cA rfl rfl cC rfl b rfl rfl λY p C=> ?_)
 replace hB:=Zg hB p B
 replace a:=At.grownAt a b p Dd
 replace b:=C
 refine ZZ rfl<|Zq<|Zr<|Zi rfl<|Zv (e7 rfl rfl)<|ZX rfl (λf=> ?_) λf=> ?_
 refine Zs<|Zs<|Zs<|Zs<|Zb rfl<|Zb rfl<|Zs<|Zs<|Zs<|Zs<|Zb rfl<|Zb rfl<|Zs<|Zs ?_
 refine Zs<|Zs<|Zs<|Zs<|Zs<|Zb rfl<|ct<|cQ rfl<|Zr<|Zb rfl<|ct<|Zt<|df (v:= .bool false) rfl ⟨hB,?_⟩
 exact xW (λh=>Wz hhP1_2 f ⟨h.1,h.2.1⟩)
 refine Zf rfl gW<|ZL onV rfl eY a rfl<|Zv (de (v:=onV) rfl (Below.slT hB hon) ey)<|Zv (dq rfl rfl)<|Zb rfl<|ZX rfl (λD=> ?_) λD=> ?_
 refine Zs<|Zs<|Zs<|Zs<|Zb rfl<|Zb rfl<|Zs<|Zs<|Zs<|Zs<|Zs<|Zs<|Zs<|Zb rfl ?_
 refine ct<|cQ rfl<|Zr<|Zb rfl<|ct<|Zt<|df (v:= .bool false) rfl ⟨hB,?_⟩
 exact xW Om
 refine Zf rfl gW<|ZL onV rfl eY a rfl<|Zv (de (v:=onV) rfl (Below.slT hB hon) ey)<|Zv (iG rfl rfl)<|Zb rfl<|ZX rfl (λE=> ?_) λE=> ?_
 refine Zs<|Zs<|Zs<|Zs<|Zs<|Zs<|Zs<|Zb rfl<|ct<|cQ rfl<|Zr<|Zb rfl<|ct<|Zt ?_
 refine df (v:= .bool false) rfl ⟨hB,?_⟩
 exact xW Om
 refine Zf rfl gW<|ZL onV rfl eY a rfl<|Zv (de (v:=onV) rfl (Below.slT hB hon) ey)<|Zf rfl gi<|ZL mayV rfl eY a rfl<|Zv (de (v:=mayV) rfl (Below.slT hB hmay) ey)<|Zv (e7 rfl rfl)<|Zb rfl<|ct<|ZQ rfl (λF=> ?_) λF=> ?_
 refine Zr<|Zb rfl<|ct<|Zt<|df (v:= .bool false) rfl ⟨hB,?_⟩
 exact xW Om
 refine cx<|Zq ?_
 obtain⟨h0,h8,rfl⟩:=zX hhP1_2 f
 refine Zr<|Zf rfl gW<|ZL onV rfl eY a rfl<|Zv (de (v:=onV) rfl (Below.slT hB hon) ey)<|ZZ rfl<|cy ?_
 refine cY (σ:=(Nat)) [2,2,5,6,39,62] (λk=>[(39, .int .i64 (k:Int))]) (λk W=>(Below w.heap.size w W)∧(At W s _ 59)∧(At W o _ 40)∧(k≤S.on.length)∧(∀q,q<k→ep (AC S q) (kg S q)=true∧ep (kg S q) (fm S.n.toNat)=true)∧(True)) (λk=>S.on.length-k) (0) ⟨rfl,trivial⟩ ⟨hB,a,b,(my _),eT,trivial⟩ ?_
 rintro k Z aa ⟨hB,a,b,hk,hq,_⟩ ab G
 refine Zr<|Zv (dq rfl rfl)<|ct<|Zq<|ZQ rfl (λH=> ?_) λH=> ?_
 refine cx<|Zq<|cy<|Zr<|Zi rfl<|Zv (dm (v:=onV) rfl (Below.slT hB hon) rfl ey Om (by omega))<|Zv (eQ rfl cC (dp.cell (Below.slT hB hon) dr 0 Om (by omega) 0 rfl) (dp.cell (Below.slT hB hon) dr 0 Om (by omega) 1 rfl) (dp.cell (Below.slT hB hon) dr 0 Om (by omega) 2 rfl) (dp.cell (Below.slT hB hon) dr 0 Om (by omega) 3 rfl))<|Zy (cK el rfl λI J r K d=> ?_)
 have L:=ZO r hB
 have M:=Zn r b.lt
 obtain⟨hB,a,b⟩:=K.k3 hB a b
 replace d:At J I #[wv 0 0,wv 0 1,wv 0 2,wv 0 3] 40:=d
 refine Zi rfl<|Zy (cA rfl rfl cC rfl d rfl rfl λac g N=> ?_)
 replace hB:=Zg hB g L
 replace a:=At.grownAt a d g Dd
 replace b:=At.grownNe b M g
 replace d:=N
 refine ct<|Zd dC λO P=> ?_
 obtain⟨hB,a,b,d⟩:=P.k4 hB a b d
 have hS:=dC.refl O
 refine Tk 0 rfl (λ_ hq=>cz rfl cC rfl (hq.at d)) hS<|Tf 1 rfl rfl gi hS<|Tk 2 rfl (λ_ hq=>cD (v:=mayV) rfl eY (At.cell (hq.at a) rfl)) hS<|Ti 3 rfl rfl hS<|Tk 4 rfl (λ_ hq=>dm (v:=mayV) rfl (hq.slT (Below.slT hB hmay)) rfl ey Om (by omega)) hS<|Tk 5 rfl (λ_ hq=>eQ rfl cC (dp.cell (hq.slT (Below.slT hB hmay)) dr 0 Om (by omega) 0 rfl) (dp.cell (hq.slT (Below.slT hB hmay)) dr 0 Om (by omega) 1 rfl) (dp.cell (hq.slT (Below.slT hB hmay)) dr 0 Om (by omega) 2 rfl) (dp.cell (hq.slT (Below.slT hB hmay)) dr 0 Om (by omega) 3 rfl)) hS<|To 6 rfl (TC (vs:=[.agg #[_,_,_,_], .agg #[_,_,_,_]]) oW (gN _ _ _) rfl λad ae i Q=>⟨.inl (hS.trans i),?_⟩)
 have e:=hB
 have R:=a
 have T:=b
 obtain⟨hB,a,b⟩:=i.k3 hB a b
 replace hS:=hS.trans i
 obtain rfl:=Q
 refine Tk 7 rfl (λ_ _=>eR rfl) hS<|Tx 8 rfl (λ_ _=>jY (v:= .bool _) rfl) hS (λj=> ?_) λj=> ?_
 refine Tp 9 rfl hS<|Tp 10 rfl hS<|Tp 11 rfl hS<|Tp 12 rfl hS<|Tp 13 rfl hS<|Tp 14 rfl hS<|Tp 15 rfl hS<|Tp 16 rfl hS<|Ty 17 rfl rfl hS<|Td<|cQ rfl<|Zr<|Zb rfl<|ct ?_
 refine Zt<|df (v:= .bool false) rfl ⟨hB,?_⟩
 exact Kb (k:=k) Om (λh=>Bool.noConfusion (h.1.symm.trans (kZ j)))
 refine Tf 9 rfl rfl gi hS<|Tk 10 rfl (λ_ hq=>cD (v:=mayV) rfl eY (At.cell (hq.at R) rfl)) hS<|Ti 11 rfl rfl hS<|Tk 12 rfl (λ_ hq=>dm (v:=mayV) rfl (hq.slT (Below.slT e hmay)) rfl ey Om (by omega)) hS<|Tk 13 rfl (λ_ hq=>eQ rfl cC (dp.cell (hq.slT (Below.slT e hmay)) dr 0 Om (by omega) 0 rfl) (dp.cell (hq.slT (Below.slT e hmay)) dr 0 Om (by omega) 1 rfl) (dp.cell (hq.slT (Below.slT e hmay)) dr 0 Om (by omega) 2 rfl) (dp.cell (hq.slT (Below.slT e hmay)) dr 0 Om (by omega) 3 rfl)) hS<|Tk 14 rfl (λ_ hq=>cz rfl cC rfl (hq.at T)) hS<|To 15 rfl (TC (vs:=[.agg #[_,_,_,_], .agg #[_,_,_,_]]) oW (gN _ _ _) rfl λaf ag l U=>⟨.inl (hS.trans l),?_⟩)
 obtain⟨hB,a,b⟩:=l.k3 hB a b
 replace hS:=hS.trans l
 obtain rfl:=U
 refine Tk 16 rfl (λ_ _=>eR rfl) hS<|Ty 17 rfl rfl hS<|Td<|ZQ rfl (λm=> ?_) λm=> ?_
 refine Zr<|Zb rfl<|ct<|Zt<|df (v:= .bool false) rfl ⟨hB,?_⟩
 exact Kb (k:=k) Om (λh=>Bool.noConfusion (h.2.symm.trans (kZ m)))
 refine cx<|ZT rfl rfl rfl ?_
 exact G _ _ (k+1) Za ⟨rfl,trivial⟩ ⟨hB,a,b,Om,(d6 hq ⟨mN j,mN m⟩),trivial⟩ Zo
 refine cT<|Zr<|Zb rfl<|ct<|Zt<|df (v:= .bool true) rfl ⟨hB,?_⟩
 obtain rfl:k=S.on.length:=by omega
 exact Qb Om hq
theorem pT (S:Sp) (onV mayV:Value) (c:Cb) (w:World) (hon:dp fh 4 w onV S.on) (hmay:dp fh 4 w mayV S.may) (hc:c.m<256∧c.v<256) (hl:S.may.length≤7):
    Fn Tryz.prog 199 #[.agg #[.int .i64 S.n,onV,mayV], .agg #[.int .u8 (c.m:Int), .int .u8 (c.v:Int)]] w λv w'=>v= .int .u8 ((qL S c:Nat):Int):=by
 refine cM (n:=27) Tryz.func199 rfl rfl rfl λhB=> ?_
 refine Zr<|Zy (dw (c:= #[_,_,_]) rfl rfl λh W3 A i a=> ?_)
 replace hB:=Ze hB i
 refine Zy (dw (c:= #[_,_]) rfl rfl λj W6 B l b=> ?_)
 obtain⟨hB,a⟩:=l.k2 hB a
 refine ZZ rfl<|Zr<|ZZ rfl<|Zq<|Zr<|Zf rfl gi<|ZL mayV rfl eY a rfl<|Zv (de (v:=mayV) rfl (Below.slT hB hmay) ey)<|ZZ rfl<|cy ?_
 refine cY (σ:=(Nat)) [5,7,11,25] (λk=>[(11, .int .i64 (k:Int)),(5, .int .u8 ((mp S c k:Nat):Int))]) (λk W=>(Below w.heap.size w W)∧(At W h _ 59)∧(At W j _ 34)∧(k≤S.may.length)∧(True)) (λk=>S.may.length-k) (0) ⟨rfl,rfl,trivial⟩ ⟨hB,a,b,(my _),trivial⟩ ?_
 rintro k C D ⟨hB,a,b,hk,_⟩ E g
 refine Zr<|Zv (dq rfl rfl)<|ct<|Zq<|ZQ rfl (λo=> ?_) λo=> ?_
 refine cx<|Zq<|cy<|Zr<|Zi rfl<|Zv (dm (v:=mayV) rfl (Below.slT hB hmay) rfl ey Om (by omega))<|Zv (eQ rfl cC (dp.cell (Below.slT hB hmay) dr 0 Om (by omega) 0 rfl) (dp.cell (Below.slT hB hmay) dr 0 Om (by omega) 1 rfl) (dp.cell (Below.slT hB hmay) dr 0 Om (by omega) 2 rfl) (dp.cell (Below.slT hB hmay) dr 0 Om (by omega) 3 rfl))<|Zy (cK el rfl λp r s t d=> ?_)
 have u:=ZO s hB
 obtain⟨hB,a,b⟩:=t.k3 hB a b
 replace d:At r p #[wv 0 0,wv 0 1,wv 0 2,wv 0 3] 40:=d
 refine Zi rfl<|Zy (cA rfl rfl cC rfl d rfl rfl λF e x=> ?_)
 replace hB:=Zg hB e u
 replace a:=At.grownAt a d e Dd
 replace b:=At.grownAt b d e Dd
 replace d:=x
 refine ct<|Zr<|Zv (cz rfl dh rfl b)<|Zv (cz rfl cC rfl d)<|Zf rfl iM<|Zl rfl cR a rfl<|ZC (vs:=[.agg #[_,_], .agg #[_,_,_,_], .int .i64 _]) DV (nY c.m c.v _ _ _ hc.1 hc.2) rfl λG H y z=> ?_
 obtain⟨hB,a,b⟩:=y.k3 hB a b
 obtain rfl:=z
 refine ct<|ZQ rfl (λf=> ?_) λf=> ?_
 have hlt:=wb S c k
 have h7:=DP (show k<8 by omega)
 refine cI<|Zi rfl<|Zi rfl<|Zv (jN (m:=1) rfl rfl Om (by simp only[IntKind.bits];omega) y6)<|Zv (A6 (n:=_) rfl rfl rfl pZ y6)<|ZZ rfl<|ZT rfl rfl rfl ?_
 exact g _ _ (k+1) Za ⟨rfl,(by exact congrArg (λq:Nat=>Value.int .u8 (q:Int)) (UY f)),trivial⟩ ⟨hB,a,b,Om,trivial⟩ Zo
 refine cx<|ZT rfl rfl rfl ?_
 exact g _ _ (k+1) Za ⟨rfl,(by exact congrArg (λq:Nat=>Value.int .u8 (q:Int)) (UW f)),trivial⟩ ⟨hB,a,b,Om,trivial⟩ Zo
 refine cT<|Zr<|Zi rfl<|ZZ rfl<|Zt<|df (v:= .int .u8 _) rfl ⟨hB,?_⟩
 obtain rfl:k=S.may.length:=by omega
 rfl
theorem nO (S:Sp) (onV mayV:Value) (m u o:Nat) (w:World) (hon:dp fh 4 w onV S.on) (hmay:dp fh 4 w mayV S.may) (hm:m<256) (hv:u<256) (ho:o<256):
    Fn Tryz.prog 197 #[.agg #[.int .i64 S.n,onV,mayV], .agg #[.int .u8 (m:Int), .int .u8 (u:Int), .int .u8 (o:Int)]] w λv w'=>v= .bool (rC S ⟨⟨m,u⟩,o⟩):=by
 refine cM (n:=22) Tryz.func197 rfl rfl rfl λhB=> ?_
 refine Zr<|Zy (dw (c:= #[_,_,_]) rfl rfl λt W3 x i a=> ?_)
 replace hB:=Ze hB i
 refine Zy (dw (c:= #[_,_,_]) rfl rfl λy W6 z j e=> ?_)
 obtain⟨hB,a⟩:=j.k2 hB a
 refine Zb rfl<|ct<|Zd dC λl p=> ?_
 obtain⟨hB,a,e⟩:=p.k3 hB a e
 have hS:=dC.refl l
 refine Tk 0 rfl (λ_ hq=>cz rfl ee rfl (hq.at a)) hS<|To 1 rfl (TC (vs:=[.agg #[_,_,_]]) oC (iP S _ _ _ (Below.slT hB hon) (Below.slT hB hmay)) rfl λA B f q=>⟨.inl (hS.trans f),?_⟩)
 have r:=a
 have d:=e
 replace hB:=Ze hB f
 replace hS:=hS.trans f
 obtain rfl:=q
 refine Tx 2 rfl (λ_ _=>jY (v:= .bool _) rfl) hS (λb=> ?_) λb=> ?_
 refine Tf 3 rfl rfl fF hS<|Tk 4 rfl (λ_ hq=>cD (v:= .int .u8 _) rfl dN (At.cell (hq.at d) rfl)) hS<|Tk 5 rfl (λ_ _=>iG rfl rfl) hS<|Ty 6 rfl rfl hS<|Tx 7 rfl (λ_ _=>jY (v:= .bool _) rfl) hS (λg=> ?_) λg=> ?_
 refine Tf 8 rfl rfl fF hS<|Tk 9 rfl (λ_ hq=>cD (v:= .int .u8 _) rfl dN (At.cell (hq.at d) rfl)) hS<|Tk 10 rfl (λ_ hq=>cz rfl ee rfl (hq.at r)) hS<|Tf 11 rfl rfl gC hS<|Tk 12 rfl (λ_ hq=>iq rfl dh (At.cell (hq.at d) rfl) (At.cell (hq.at d) rfl)) hS<|To 13 rfl (TC (vs:=[.agg #[_,_,_], .agg #[_,_]]) CZ (pT S _ _ ⟨m,u⟩ _ (Below.slT hB hon) (Below.slT hB hmay) ⟨hm,hv⟩ (by obtain⟨_,_,_,h4,h5,_⟩:=dz.1 b;omega)) rfl λC D h s=>⟨.inl (hS.trans h),?_⟩)
 replace hB:=Ze hB h
 replace hS:=hS.trans h
 obtain rfl:=s
 refine Tk 14 rfl (λ_ _=>rl (n:=_) rfl rfl rfl pN (by have h1:=wb S ⟨m,u⟩ S.may.length;have h2:=Nw (k:=S.may.length) (by obtain⟨_,_,_,h4,h5,_⟩:=dz.1 b;omega);show mp S ⟨m,u⟩ S.may.length<256;omega)) hS<|Tk 15 rfl (λ_ _=>dJ rfl rfl) hS<|Ty 16 rfl rfl hS<|Ty 17 rfl rfl hS<|Td<|Zt<|df (v:= .bool _) rfl ⟨hB,?_⟩
 exact congrArg Value.bool (Xl b g)
 refine Tp 8 rfl hS<|Tp 9 rfl hS<|Tp 10 rfl hS<|Tp 11 rfl hS<|Tp 12 rfl hS<|Tp 13 rfl hS<|Tp 14 rfl hS<|Tp 15 rfl hS<|Ty 16 rfl rfl hS<|Ty 17 rfl rfl hS<|Td<|Zt<|df (v:= .bool false) rfl ⟨hB,?_⟩
 exact xn (Yk g)
 refine Tp 3 rfl hS<|Tp 4 rfl hS<|Tp 5 rfl hS<|Ty 6 rfl rfl hS<|Ty 7 rfl rfl hS<|Tp 8 rfl hS<|Tp 9 rfl hS<|Tp 10 rfl hS<|Tp 11 rfl hS<|Tp 12 rfl hS<|Tp 13 rfl hS<|Tp 14 rfl hS<|Tp 15 rfl hS<|Ty 16 rfl rfl hS ?_
 refine Ty 17 rfl rfl hS<|Td<|Zt<|df (v:= .bool false) rfl ⟨hB,?_⟩
 exact xn (Yz b)
theorem A2 (m u o m2 u2 o2:Nat) (w:World):
    Fn Tryz.prog 229 #[.agg #[.int .u8 (m:Int), .int .u8 (u:Int), .int .u8 (o:Int)], .agg #[.int .u8 (m2:Int), .int .u8 (u2:Int), .int .u8 (o2:Int)]] w λv w'=>v= .bool (D8 ⟨⟨m,u⟩,o⟩ ⟨⟨m2,u2⟩,o2⟩):=by
 refine cM (n:=38) Tryz.func229 rfl rfl rfl λhB=> ?_
 refine Zr<|Zy (dw (c:= #[_,_,_]) rfl rfl λh W3 i f a=> ?_)
 replace hB:=Ze hB f
 refine Zy (dw (c:= #[_,_,_]) rfl rfl λj W6 k g b=> ?_)
 obtain⟨hB,a⟩:=g.k2 hB a
 refine Zb rfl<|ct<|Zq<|cy<|Zr<|Zf rfl fF<|Zl rfl dN a rfl<|Zf rfl fF<|Zl rfl dN b rfl<|Zv (e7 rfl rfl)<|Zb rfl<|ct<|ZQ rfl (λd=> ?_) λd=> ?_
 refine Zr<|Zf rfl fF<|Zl rfl dN a rfl<|Zf rfl fF<|Zl rfl dN b rfl<|Zv (dq rfl rfl)<|Zb rfl<|ct<|Zt<|df (v:= .bool _) rfl ⟨hB,?_⟩
 exact congrArg Value.bool (Xh d)
 refine Zr<|Zf rfl gC<|Zf rfl eo<|Zl rfl dN a rfl<|Zf rfl gC<|Zf rfl eo<|Zl rfl dN b rfl<|Zv (e7 rfl rfl)<|Zb rfl<|ct<|ZQ rfl (λe=> ?_) λe=> ?_
 refine Zr<|Zf rfl gC<|Zf rfl eo<|Zl rfl dN a rfl<|Zf rfl gC<|Zf rfl eo<|Zl rfl dN b rfl<|Zv (dq rfl rfl)<|Zb rfl<|ct<|Zt<|df (v:= .bool _) rfl ⟨hB,?_⟩
 exact congrArg Value.bool (YT d e)
 refine cx<|Zr<|Zf rfl gC<|Zf rfl fM<|Zl rfl dN a rfl<|Zf rfl gC<|Zf rfl fM<|Zl rfl dN b rfl<|Zv (dq rfl rfl)<|Zb rfl<|ct<|Zt<|df (v:= .bool _) rfl ?_
 refine⟨hB,?_⟩
 exact congrArg Value.bool (YF d e)
theorem pA (xa:Value) (l:List Rw) (q:Nat) (w:World) (hl:dp gx 3 w xa l) (hq:cX Tryz.prog q=true) (hdo:∀(m u o m2 u2 o2:Nat) (w:World),Fn Tryz.prog q #[.agg #[.int .u8 (m:Int), .int .u8 (u:Int), .int .u8 (o:Int)], .agg #[.int .u8 (m2:Int), .int .u8 (u2:Int), .int .u8 (o2:Int)]] w λv w'=>v= .bool (D8 ⟨⟨m,u⟩,o⟩ ⟨⟨m2,u2⟩,o2⟩)) (hlb:l.length≤2000000):
    Fn Tryz.prog 228 #[xa, .func (.func q) #[] #[]] w λv w'=>cH gx 3 158 w' w.heap.size v (fo l l.length):=by
 refine cM (n:=44) Tryz.func228 rfl rfl rfl λhB=> ?_
 refine Zr<|Zw (.slice none 0 0) rfl<|ct<|Zr<|Zw (.slice none 0 0) rfl<|ct<|Zq<|Zr<|Zw xa rfl<|Zv (de (v:=xa) rfl (Below.slT hB hl) dM)<|ZZ rfl<|cy ?_
 refine cY (σ:=(Nat)×(Value)) [5,5,7,8,11,42] (λ(k,v0)=>[(11, .int .i64 (k:Int)),(5,v0)]) (λsg W=>match sg with|(k,v0)=>(Below w.heap.size w W)∧(cH gx 3 158 W w.heap.size v0 (fo l k))∧(k≤l.length)∧(True)) (λ(k,v0)=>l.length-k) ((0, .slice none 0 0)) ⟨rfl,rfl,trivial⟩ ⟨hB,cH.nil,(my _),trivial⟩ ?_
 rintro⟨k,v0⟩ aj W9 ⟨hB,ho,hk,_⟩ ak L
 refine Zr<|Zv (dq rfl rfl)<|ct<|Zq<|ZQ rfl (λS=> ?_) λS=> ?_
 refine cx<|Zq<|cy ?_
 have hsl:=ql l k
 have hC:(fo l k).length≤jn v0:=(Sl.eqv ho.sl).2.1
 refine Zr<|Zv (dm (v:=xa) rfl (Below.slT hB hl) rfl dM Om (by omega))<|Zv (jc rfl dU (dp.cell (Below.slT hB hl) eA ⟨⟨0,0⟩,0⟩ Om (by omega) 0 rfl) (dp.cell (Below.slT hB hl) eA ⟨⟨0,0⟩,0⟩ Om (by omega) 1 rfl) (dp.cell (Below.slT hB hl) eA ⟨⟨0,0⟩,0⟩ Om (by omega) 2 rfl))<|Zy (cK jM rfl λM al O T f=> ?_)
 have U:=ZO O hB
 have V:=abE (b:=M) ho (aa1 O.symm)
 obtain⟨hB,ho⟩:=T.k2 hB ho
 refine Zy (cA rfl rfl dU rfl f rfl rfl λao P X=> ?_)
 replace hB:=Zg hB P U
 replace ho:=abg ho V P
 replace f:=X
 refine ct<|Zr<|Zw v0 rfl<|Zv (de (v:=v0) rfl ho.sl dM)<|ZZ rfl<|Zq<|cy ?_
 refine cY (σ:=(Nat)) [8,8,17,30] (λi=>[(8, .int .i64 (i:Int))]) (λi W=>(Below w.heap.size w W)∧(cH gx 3 158 W w.heap.size v0 _)∧(At W M _ 158)∧(i≤(fo l k).length)∧(qs (fo l k) (l.getD k ⟨⟨0,0⟩,0⟩) (fo l k).length=qs (fo l k) (l.getD k ⟨⟨0,0⟩,0⟩) i)∧(True)) (λi=>i) ((fo l k).length) ⟨rfl,trivial⟩ ⟨hB,ho,f,(am _),rfl,trivial⟩ ?_
 rintro i ap aq ⟨hB,ho,f,hi,hp,_⟩ ar Y
 refine Zq<|Zd dC λZ aa=> ?_
 obtain⟨hB,ho,f⟩:=aa.k3 hB ho f
 have hS:=dC.refl Z
 refine Ti 0 rfl rfl hS<|Tk 1 rfl (λ_ _=>iG rfl rfl) hS<|Tx 2 rfl (λ_ _=>jY (v:= .bool _) rfl) hS (λab=> ?_) λab=> ?_
 refine Tw 3 (.func (.func q) #[] #[]) rfl rfl hS<|Tk 4 rfl (λ_ hq=>cz rfl dU rfl (hq.at f)) hS<|Tw 5 v0 rfl rfl hS<|Ti 6 rfl rfl hS<|Tk 7 rfl (λ_ _=>jS rfl rfl Om Om) hS<|Tk 8 rfl (λ_ hq=>dm (v:=v0) rfl ((hq.ow ho)).sl rfl dM Om (by omega)) hS<|Tk 9 rfl (λ_ hq=>jc rfl dU (dp.cell ((hq.ow ho)).sl eA ⟨⟨0,0⟩,0⟩ Om (by omega) 0 rfl) (dp.cell ((hq.ow ho)).sl eA ⟨⟨0,0⟩,0⟩ Om (by omega) 1 rfl) (dp.cell ((hq.ow ho)).sl eA ⟨⟨0,0⟩,0⟩ Om (by omega) 2 rfl)) hS<|To 10 rfl (Yd.call (zw (q:=q) rfl hq (v0:= .agg #[_,_,_]) rfl (v1:= .agg #[_,_,_]) rfl) (hdo _ _ _ _ _ _ _) λau av A ac=>⟨.inl (hS.trans A),?_⟩)
 obtain⟨hB,ho,f⟩:=A.k3 hB ho f
 replace hS:=hS.trans A
 obtain rfl:=ac
 refine Ty 11 rfl rfl hS<|Td<|ZQ rfl (λB=> ?_) λB=> ?_
 refine cx<|cy<|cI<|Zi rfl<|Zv (jS rfl rfl Om Om)<|ZZ rfl ?_
 exact Y _ _ (i-1) Za ⟨congrArg (Value.int .i64) (by omega:(i:Int)-1=((i-1:Nat):Int)),trivial⟩ ⟨hB,ho,f,Om,(hp.trans (Ia Om B)),trivial⟩ Zo
 refine cT ?_
 have hpos:qs (fo l k) (l.getD k ⟨⟨0,0⟩,0⟩) (fo l k).length=i:=hp.trans (Ca (by exact .inr B))
 have hsl:=ql l k
 have hC:(fo l k).length≤jn v0:=(Sl.eqv ho.sl).2.1
 have hil:((i:Nat):Int).toNat=i:=rfl
 refine eP dC fC (λC ad=> ?_)
 obtain⟨hB,ho,f⟩:=ad.k3 hB ho f
 have hS:=dC.refl C
 refine Tw 0 v0 rfl rfl hS<|Ti 1 rfl rfl hS<|Ti 2 rfl rfl hS<|Tk 3 rfl (λ_ hq=>nt (v:=v0) rfl ((hq.ow ho)).sl dM rfl rfl Om Om Om) hS ?_
 have c:dp gx 3 C (fV 3 v0 0 i i) (((fo l k).drop 0).take (i-0)):=acQ eA ho.sl (by omega) (by omega) (by omega) (by omega)
 refine Tk 4 rfl (λ_ hq=>cz rfl dU rfl (hq.at f)) hS<|Tw 6 v0 rfl rfl hS<|Ti 7 rfl rfl hS<|Tk 8 rfl (λ_ hq=>nD (v:=v0) rfl ((hq.ow ho)).sl dM rfl Om Om) hS ?_
 have d:dp gx 3 C (fV 3 v0 i (fo l k).length (jn v0)) (((fo l k).drop i).take ((fo l k).length-i)):=acQ eA ho.sl (by omega) (by omega) (by omega) (by omega)
 refine To 5 rfl (eC (u:= .agg #[_,_,_]) rfl dM il rfl Dd Dd λg aw y D E=>⟨.inl (hS.trans D),?_⟩)
 have F:=ZO y hB
 have r:=go (dC.size hS) (aa1 y.symm)
 have ae:=ac4 (b:=g) c (aa1 y.symm)
 have af:=ac4 (b:=g) d (aa1 y.symm)
 obtain⟨hB,ho,c,d⟩:=D.k4 hB ho c d
 replace hS:=hS.trans D
 have Q:=jf (enc:=gx) (a:=(l.getD k ⟨⟨0,0⟩,0⟩)) E rfl rfl F
 refine To 9 rfl (dR (v:= .slice (some ⟨g,0,none⟩) 1 1) (v2:=fV 3 v0 i (fo l k).length (jn v0)) rfl rfl dM il Dd Q d (lC) (mV hB) iw iw λG ax s h=>⟨.inl (dg hS s (am _) (λj hj=>by have e:g=j:=aaY hj;rw[←e];exact r)),?_⟩)
 replace hS:dC _ _:=dg hS s (am _) (λj hj=>by have e:g=j:=aaY hj;rw[←e];exact r)
 replace h:=cH.app (enc:=gx) rfl rfl rfl rfl h
 replace hB:=ZG hB s Q
 replace c:=acS c ae s
 replace d:=acS d af s
 refine To 10 rfl (kb (N:=w.heap.size) (v:=fV 3 v0 0 i i) (v2:=G) rfl rfl dM il c (zF iw) h.sl fD (Below.size hB) iw iw λt ay H p=>⟨.inl (hS.trans H),?_⟩)
 replace p:=cH.app (enc:=gx) rfl rfl rfl rfl p
 obtain⟨hB,c,d,h⟩:=H.k4 hB c d h
 replace hS:=hS.trans H
 refine Tw 11 t rfl rfl hS<|Td<|ZT rfl rfl rfl ?_
 exact L _ _ ((k+1,t)) Za ⟨rfl,rfl,trivial⟩ ⟨hB,(by rw[fo,KS,hpos];have e:((fo l k).drop i).take ((fo l k).length-i)=(fo l k).drop i:=aca fD;rw[e]at p;simpa using p),Om,trivial⟩ (by show l.length-(k+1)<l.length-k;omega)
 refine Tp 3 rfl hS<|Tp 4 rfl hS<|Tp 5 rfl hS<|Tp 6 rfl hS<|Tp 7 rfl hS<|Tp 8 rfl hS<|Tp 9 rfl hS<|Tp 10 rfl hS<|Ty 11 rfl rfl hS<|Td<|dH rfl<|cT ?_
 have hpos:qs (fo l k) (l.getD k ⟨⟨0,0⟩,0⟩) (fo l k).length=i:=hp.trans (Ca (by exact .inl (by omega)))
 have hsl:=ql l k
 have hC:(fo l k).length≤jn v0:=(Sl.eqv ho.sl).2.1
 have hil:((i:Nat):Int).toNat=i:=rfl
 refine eP dC fC (λI ag=> ?_)
 obtain⟨hB,ho,f⟩:=ag.k3 hB ho f
 have hS:=dC.refl I
 refine Tw 0 v0 rfl rfl hS<|Ti 1 rfl rfl hS<|Ti 2 rfl rfl hS<|Tk 3 rfl (λ_ hq=>nt (v:=v0) rfl ((hq.ow ho)).sl dM rfl rfl Om Om Om) hS ?_
 have c:dp gx 3 I (fV 3 v0 0 i i) (((fo l k).drop 0).take (i-0)):=acQ eA ho.sl (by omega) (by omega) (by omega) (by omega)
 refine Tk 4 rfl (λ_ hq=>cz rfl dU rfl (hq.at f)) hS<|Tw 6 v0 rfl rfl hS<|Ti 7 rfl rfl hS<|Tk 8 rfl (λ_ hq=>nD (v:=v0) rfl ((hq.ow ho)).sl dM rfl Om Om) hS ?_
 have d:dp gx 3 I (fV 3 v0 i (fo l k).length (jn v0)) (((fo l k).drop i).take ((fo l k).length-i)):=acQ eA ho.sl (by omega) (by omega) (by omega) (by omega)
 refine To 5 rfl (eC (u:= .agg #[_,_,_]) rfl dM il rfl Dd Dd λg az z J E=>⟨.inl (hS.trans J),?_⟩)
 have F:=ZO z hB
 have r:=go (dC.size hS) (aa1 z.symm)
 have ah:=ac4 (b:=g) c (aa1 z.symm)
 have ai:=ac4 (b:=g) d (aa1 z.symm)
 obtain⟨hB,ho,c,d⟩:=J.k4 hB ho c d
 replace hS:=hS.trans J
 have R:=jf (enc:=gx) (a:=(l.getD k ⟨⟨0,0⟩,0⟩)) E rfl rfl F
 refine To 9 rfl (dR (v:= .slice (some ⟨g,0,none⟩) 1 1) (v2:=fV 3 v0 i (fo l k).length (jn v0)) rfl rfl dM il Dd R d (lC) (mV hB) iw iw λG aA x h=>⟨.inl (dg hS x (am _) (λj hj=>by have e:g=j:=aaY hj;rw[←e];exact r)),?_⟩)
 replace hS:dC _ _:=dg hS x (am _) (λj hj=>by have e:g=j:=aaY hj;rw[←e];exact r)
 replace h:=cH.app (enc:=gx) rfl rfl rfl rfl h
 replace hB:=ZG hB x R
 replace c:=acS c ah x
 replace d:=acS d ai x
 refine To 10 rfl (kb (N:=w.heap.size) (v:=fV 3 v0 0 i i) (v2:=G) rfl rfl dM il c (zF iw) h.sl fD (Below.size hB) iw iw λt aB K p=>⟨.inl (hS.trans K),?_⟩)
 replace p:=cH.app (enc:=gx) rfl rfl rfl rfl p
 obtain⟨hB,c,d,h⟩:=K.k4 hB c d h
 replace hS:=hS.trans K
 refine Tw 11 t rfl rfl hS<|Td<|ZT rfl rfl rfl ?_
 exact L _ _ ((k+1,t)) Za ⟨rfl,rfl,trivial⟩ ⟨hB,(by rw[fo,KS,hpos];have e:((fo l k).drop i).take ((fo l k).length-i)=(fo l k).drop i:=aca fD;rw[e]at p;simpa using p),Om,trivial⟩ (by show l.length-(k+1)<l.length-k;omega)
 refine cT<|Zr<|Zw v0 rfl<|Zw v0 rfl<|ct<|Zt<|df (v:=v0) rfl ⟨hB,?_⟩
 obtain rfl:k=l.length:=by omega
 exact ho
theorem Gj (S:Sp) (onV mayV:Value) (w:World) (hon:dp fh 4 w onV S.on) (hmay:dp fh 4 w mayV S.may):
    Fn Tryz.prog 176 #[.agg #[.int .i64 S.n,onV,mayV]] w λv w'=>if dt S=true then ∃x,v= .tuple #[x, .int .i64 0]∧cH gx 3 158 w' w.heap.size x (eV S)else v= .tuple #[.slice none 0 0, .int .i64 1]:=by
 refine cM (n:=78) Tryz.func176 rfl rfl rfl λhB=> ?_
 refine Zr<|Zy (dw (c:= #[_,_,_]) rfl rfl λr W3 ax M a=> ?_)
 replace hB:=Ze hB M
 refine Zw (.slice none 0 0) rfl<|ZZ rfl<|Zq<|Zr<|Zv (cz rfl ee rfl a)<|ZC (vs:=[.agg #[_,_,_]]) oC (iP S _ _ _ (Below.slT hB hon) (Below.slT hB hmay)) rfl λay az N O=> ?_
 obtain⟨hB,a⟩:=N.k2 hB a
 obtain rfl:=O
 refine Zv (eR rfl)<|ct<|ZQ rfl (λt=> ?_) λt=> ?_
 refine Zr<|Zw (.slice none 0 0) rfl<|ZZ rfl<|Zt<|dG (v:= .slice none 0 0) rfl (v1:= .int .i64 1) rfl ⟨hB,?_⟩
 rw[if_neg (by rw[kZ t];decide)]
 refine cx ?_
 have hr:dt S=true:=mN t
 obtain⟨h0,h8,h1,h4,h5,hin⟩:=dz.1 hr
 have aA:=Nw (k:=S.may.length) (by omega)
 have aB:=abo S.may.length
 refine Zr<|Zw (.slice none 0 0) rfl<|ct<|Zq<|Zr<|ZZ rfl<|cy ?_
 refine cY (σ:=(Nat)×(Value)) [4,10,12,12,16,75] (λ(o,v0)=>[(5, .int .i64 (o:Int)),(4,v0)]) (λsg W=>match sg with|(o,v0)=>(Below w.heap.size w W)∧(At W r _ 59)∧(cH gx 3 158 W w.heap.size v0 (kv S o))∧(1≤o∧o≤2^S.may.length)∧(True)) (λ(o,v0)=>2^S.may.length-o) ((1, .slice none 0 0)) ⟨rfl,rfl,trivial⟩ ⟨hB,a,(by rw[show kv S 1=[] from rfl];exact cH.nil),Om,trivial⟩ ?_
 rintro⟨o,v0⟩ aC aD ⟨hB,a,ho,hoo,_⟩ aE P
 refine Zq<|Zr<|Zi rfl<|Zf rfl gi<|ZL mayV rfl eY a rfl<|Zv (de (v:=mayV) rfl (Below.slT hB hmay) ey)<|Zv (jN (m:=1) rfl rfl Om (by simp only[IntKind.bits];omega) tW)<|Zv (dq rfl rfl)<|ct<|ZQ rfl (λy=> ?_) λy=> ?_
 refine cx<|Zq<|cy ?_
 have hol:o<2^S.may.length:=by simp only[abd,so]at y;omega
 have hal:=ww (S:=S) h8 o
 refine Zr<|Zf rfl iM<|Zl rfl cR a rfl<|ZC vU (nA _ _) rfl λaF aG Q R=> ?_
 obtain⟨hB,a,ho⟩:=Q.k3 hB a ho
 obtain⟨sa,er,rfl,hhP7_2⟩:=sU R
 refine Zw (.tuple #[.agg #[_,_,_,_], .int .i64 _]) rfl<|Zv (cZ rfl)<|Zv (c7 rfl)<|Zy (cK el rfl λz T U V d=> ?_)
 have F:=ZO U hB
 obtain⟨hB,a,ho⟩:=V.k3 hB a ho
 replace d:At T z #[wv 0 0,wv 0 1,wv 0 2,wv 0 3] 40:=d
 refine Zy (cA rfl rfl cC rfl d rfl rfl λaH A X=> ?_)
 replace hB:=Zg hB A F
 replace a:=At.grownAt a d A Dd
 replace ho:=cH.grownAt ho d A Dd
 replace d:=X
 refine ZZ rfl<|Zq ?_
 obtain⟨_,_,hsa⟩:=zX hhP7_2 (λh=>h (hhP7_2.elim (λq=>q.2.2.2) (λq=>absurd ⟨h0,h8⟩ q.1)))
 subst hsa
 refine Zr<|Zf rfl gi<|ZL mayV rfl eY a rfl<|Zv (de (v:=mayV) rfl (Below.slT hB hmay) ey)<|ZZ rfl<|cy ?_
 refine cY (σ:=(Nat)) [8,8,33,48] (λk=>[(33, .int .i64 (k:Int))]) (λk W=>(Below w.heap.size w W)∧(At W r _ 59)∧(cH gx 3 158 W w.heap.size v0 _)∧(At W z #[wv (l4 S o k) 0,wv (l4 S o k) 1,wv (l4 S o k) 2,wv (l4 S o k) 3] 40)∧(k≤S.may.length)∧(True)) (λk=>S.may.length-k) (0) ⟨rfl,trivial⟩ ⟨hB,a,ho,d,(my _),trivial⟩ ?_
 rintro k aI aJ ⟨hB,a,ho,d,hk,_⟩ aK G
 refine Zr<|Zv (dq rfl rfl)<|ct<|Zq<|ZQ rfl (λY=> ?_) λY=> ?_
 refine cx<|Zq<|cy<|Zr<|Zi rfl<|ZZ rfl<|Zr<|Zi rfl<|Zi rfl<|Zv (qQ rfl rfl Om (by simp only[IntKind.bits];omega))<|Zv (m5 (n:=1) rfl rfl rfl (by simp only[iA];have:=abV o (2^((k:Nat):Int).toNat);omega) Dd)<|Zv (dJ rfl rfl) ?_
 refine ct<|ZQ rfl (λB=> ?_) λB=> ?_
 refine eP dC fC (λZ aa=> ?_)
 obtain⟨hB,a,ho,d⟩:=aa.k4 hB a ho d
 have hS:=dC.refl Z
 refine Tk 0 rfl (λ_ hq=>cz rfl cC rfl (hq.at d)) hS<|Tf 1 rfl rfl gi hS<|Tk 2 rfl (λ_ hq=>cD (v:=mayV) rfl eY (At.cell (hq.at a) rfl)) hS<|Ti 3 rfl rfl hS<|Tk 4 rfl (λ_ hq=>dm (v:=mayV) rfl (hq.slT (Below.slT hB hmay)) rfl ey Om (by omega)) hS<|Tk 5 rfl (λ_ hq=>eQ rfl cC (dp.cell (hq.slT (Below.slT hB hmay)) dr 0 Om (by omega) 0 rfl) (dp.cell (hq.slT (Below.slT hB hmay)) dr 0 Om (by omega) 1 rfl) (dp.cell (hq.slT (Below.slT hB hmay)) dr 0 Om (by omega) 2 rfl) (dp.cell (hq.slT (Below.slT hB hmay)) dr 0 Om (by omega) 3 rfl)) hS<|To 6 rfl (TC (vs:=[.agg #[_,_,_,_], .agg #[_,_,_,_]]) tH (pB _ _ _) rfl λaL aM H ab=>⟨.inl (hS.trans H),?_⟩)
 obtain⟨hB,a,ho,d⟩:=H.k4 hB a ho d
 obtain rfl:=ab
 refine To 7 rfl (cA rfl rfl cC rfl d rfl rfl λaN C ac=>⟨.inr ka,?_⟩)
 replace hB:=Zg hB C F
 replace a:=At.grownAt a d C Dd
 replace ho:=cH.grownAt ho d C Dd
 replace d:=ac
 refine Td<|ZT rfl rfl rfl ?_
 exact G _ _ (k+1) Za ⟨rfl,trivial⟩ ⟨hB,a,ho,(by (rw[←Ur (JR B)];exact d)),Om,trivial⟩ Zo
 refine cx<|ZT rfl rfl rfl ?_
 exact G _ _ (k+1) Za ⟨rfl,trivial⟩ ⟨hB,a,ho,(by (rw[←T9 (JG B)];exact d)),Om,trivial⟩ Zo
 refine cT ?_
 obtain rfl:k=S.may.length:=by omega
 refine Zr<|Zv (cz rfl cC rfl d)<|Zf rfl iM<|Zl rfl cR a rfl<|ZC (vs:=[.agg #[_,_,_,_], .int .i64 _]) SF (Gr (ic S o) _ _) rfl λaO aP ad ae=> ?_
 have af:=(Below.size hB)
 obtain⟨hB,a,ho,d⟩:=ad.k4 hB a ho d
 obtain⟨x_hP14_3,er_hP14_3,l_hP14_3,rfl,ho_hP14_3,hc_hP14_3⟩:=R1 ae
 replace ho_hP14_3:=cH.mono ho_hP14_3 af
 refine Zw (.tuple #[x_hP14_3, .int .i64 _]) rfl<|Zv (cZ rfl)<|Zv (c7 rfl)<|Zw x_hP14_3 rfl<|ZZ rfl ?_
 obtain⟨q2,q3⟩:=hc_hP14_3.elim (λh=>h.2) (λh=>absurd (M4 hr o) (by rw[h.1];decide))
 subst q2 q3
 have hpl:=wN (s:=ic S o) h8
 refine Zr<|Zw x_hP14_3 rfl<|Zv (de (v:=x_hP14_3) rfl ho_hP14_3.sl eE)<|ZZ rfl<|cy ?_
 refine cY (σ:=(Nat)×(Value)) [4,4,12,12,58,75] (λ(i,v1)=>[(58, .int .i64 (i:Int)),(4,v1)]) (λsg W=>match sg with|(i,v1)=>(Below w.heap.size w W)∧(At W r _ 59)∧(At W z _ 40)∧(cH iD 2 34 W w.heap.size x_hP14_3 _)∧(cH gx 3 158 W w.heap.size v1 (kv S o++js S o i))∧(i≤(eD (ic S o) S.n).length)∧(True)) (λ(i,v1)=>(eD (ic S o) S.n).length-i) ((0,v0)) ⟨rfl,rfl,trivial⟩ ⟨hB,a,d,ho_hP14_3,(by rw[js,abK];exact ho),(my _),trivial⟩ ?_
 rintro⟨i,v1⟩ aQ aR ⟨hB,a,d,ho_hP14_3,f,hi,_⟩ aS I
 refine Zr<|Zv (dq rfl rfl)<|ct<|Zq<|ZQ rfl (λag=> ?_) λag=> ?_
 refine cx<|Zq<|cy ?_
 have hci:((eD (ic S o) S.n).getD i ⟨0,0⟩).m<256∧((eD (ic S o) S.n).getD i ⟨0,0⟩).v<256:=Po h8 (by omega)
 have hrl:=tK S o i
 have hol2:=wb S ((eD (ic S o) S.n).getD i ⟨0,0⟩) S.may.length
 refine Zr<|Zv (dm (v:=x_hP14_3) rfl ho_hP14_3.sl rfl eE Om (by omega))<|Zv (iq rfl dh (dp.cell ho_hP14_3.sl gt ⟨0,0⟩ Om (by omega) 0 rfl) (dp.cell ho_hP14_3.sl gt ⟨0,0⟩ Om (by omega) 1 rfl))<|Zy (cK gU rfl λah aT J ai g=> ?_)
 have aj:=ZO J hB
 have ak:=abE (b:=ah) ho_hP14_3 (aa1 J.symm)
 obtain⟨hB,a,d,ho_hP14_3,f⟩:=ai.k5 hB a d ho_hP14_3 f
 refine Zy (cA rfl rfl dh rfl g rfl rfl λaU j al=> ?_)
 replace hB:=Zg hB j aj
 replace a:=At.grownAt a g j Dd
 replace d:=At.grownAt d g j Dd
 replace ho_hP14_3:=abg ho_hP14_3 ak j
 replace f:=cH.grownAt f g j Dd
 replace g:=al
 refine ct<|Zr<|Zv (cz rfl ee rfl a)<|Zv (cz rfl dh rfl g)<|ZC (vs:=[.agg #[_,_,_], .agg #[_,_]]) CZ (pT S _ _ ((eD (ic S o) S.n).getD i ⟨0,0⟩) _ (Below.slT hB hon) (Below.slT hB hmay) hci Om) rfl λaV aW ao ap=> ?_
 obtain⟨hB,a,d,ho_hP14_3,f,g⟩:=ao.k6 hB a d ho_hP14_3 f g
 obtain rfl:=ap
 refine Zi rfl<|Zv (i7 rfl Tryz.underlying3 Tryz.underlying5 pZ)<|Zv (dJ rfl rfl)<|ct<|ZQ rfl (λD=> ?_) λD=> ?_
 refine cI<|Zw v1 rfl<|Zv (cz rfl dh rfl g)<|Zi rfl<|Zv (i7 rfl Tryz.underlying3 Tryz.underlying5 pZ)<|Zv (kG (h0:=rfl) (h1:=rfl) (k1:=rfl) (c1_0:= .int .u8 _))<|Zy (eC (u:= .agg #[_,_,_]) rfl dM il rfl Dd Dd λaq aX aY ar au=> ?_)
 obtain⟨hB,a,d,ho_hP14_3,f⟩:=ar.k5 hB a d ho_hP14_3 f
 refine Zy (dR (v:=v1) (v2:= .slice (some ⟨aq,0,none⟩) 1 1) rfl rfl dM il Dd f (eK au rfl) rfl (mV hB) Am Am λK aZ l E=> ?_)
 replace E:=cH.snoc (enc:=gx) (x:=⟨(eD (ic S o) S.n).getD i ⟨0,0⟩,o⟩) rfl rfl rfl rfl E
 replace hB:=ZG hB l f
 replace a:=At.grownOw a f l Dd
 replace d:=At.grownOw d f l Dd
 replace ho_hP14_3:=cH.grownOw ho_hP14_3 f l Dd
 refine Zw K rfl<|ct<|ZT rfl rfl rfl ?_
 exact I _ _ ((i+1,K)) Za ⟨rfl,rfl,trivial⟩ ⟨hB,a,d,ho_hP14_3,(by (rw[←ME (PB D),←abm];exact E)),Om,trivial⟩ (by show (eD (ic S o) S.n).length-(i+1)<(eD (ic S o) S.n).length-i;omega)
 refine cx<|ZT rfl rfl rfl ?_
 exact I _ _ ((i+1,v1)) Za ⟨rfl,rfl,trivial⟩ ⟨hB,a,d,ho_hP14_3,(by (rw[←NA (λh=>D (congrArg Int.ofNat h))];exact f)),Om,trivial⟩ (by show (eD (ic S o) S.n).length-(i+1)<(eD (ic S o) S.n).length-i;omega)
 refine cT<|cI<|Zi rfl<|Zv (eB rfl rfl Om Om)<|ZZ rfl ?_
 exact P _ _ ((o+1,v1)) Za ⟨rfl,rfl,trivial⟩ ⟨hB,a,(by rw[←H0 Om];have e:i=(eD (ic S o) S.n).length:=Om;subst e;exact f),Om,trivial⟩ (by show 2^S.may.length-(o+1)<2^S.may.length-o;omega)
 refine cT ?_
 obtain rfl:o=2^S.may.length:=by simp only[abd,so]at y;omega
 have hal:=ww (S:=S) h8 (2^S.may.length)
 refine Zr<|Zw v0 rfl<|ZC Rc (pA _ (eV S) 229 _ ho.sl ST (λm u o m2 u2 o2 w=>A2 m u o m2 u2 o2 w) (show (kv S (2^S.may.length)).length≤2000000 by omega)) rfl λL a0 av p=> ?_
 have a1:=acL ho
 have aw:=(Below.size hB)
 replace hB:=Ze hB av
 replace p:=cH.mono p aw
 rw[Kx]at p
 refine Zw L rfl<|ZZ rfl<|Zt<|dG (v:=L) rfl (v1:= .int .i64 0) rfl ⟨hB,?_⟩
 rw[if_pos hr]
 exact⟨_,rfl,p⟩
theorem vO (S:Sp) (onV mayV:Value) (x:Rw) (w:World) (hon:dp fh 4 w onV S.on) (hmay:dp fh 4 w mayV S.may) (hbx:x.c.m<256∧x.c.v<256∧x.o<256):
    Fn Tryz.prog 150 #[.agg #[.int .i64 S.n,onV,mayV], .agg #[.int .u8 (x.c.m:Int), .int .u8 (x.c.v:Int), .int .u8 (x.o:Int)]] w λv w'=>v=if rC S x=true then .tuple #[.agg #[.int .u8 ((wI S x).c.m:Int), .int .u8 ((wI S x).c.v:Int), .int .u8 ((wI S x).o:Int)], .int .i64 0]else .tuple #[.agg #[.int .u8 0, .int .u8 0, .int .u8 0], .int .i64 1]:=by
 refine cM (n:=36) Tryz.func150 rfl rfl rfl λhB=> ?_
 refine Zr<|Zy (dw (c:= #[_,_,_]) rfl rfl λJ W3 ap K d=> ?_)
 replace hB:=Ze hB K
 refine Zy (dw (c:= #[_,_,_]) rfl rfl λL W6 M N a=> ?_)
 have k:=ZO M hB
 obtain⟨hB,d⟩:=N.k2 hB d
 refine Zy (cK jM rfl λO W9 F P b=> ?_)
 have G:=ZO F hB
 have l:=Zn F a.lt
 obtain⟨hB,d,a⟩:=P.k3 hB d a
 refine ZZ rfl<|Zq<|Zr<|Zv (cz rfl ee rfl d)<|Zv (cz rfl dU rfl a)<|ZC (vs:=[.agg #[_,_,_], .agg #[_,_,_]]) C8 (nO S _ _ _ _ _ _ (Below.slT hB hon) (Below.slT hB hmay) hbx.1 hbx.2.1 hbx.2.2) rfl λaq ar Q R=> ?_
 obtain⟨hB,d,a,b⟩:=Q.k4 hB d a b
 obtain rfl:=R
 refine Zv (eR rfl)<|ct<|ZQ rfl (λp=> ?_) λp=> ?_
 refine Zr<|Zv (C4)<|Zy (cA rfl rfl dU rfl b rfl rfl λau T U=> ?_)
 replace hB:=Zg hB T G
 replace b:=U
 refine ZZ rfl<|Zt<|eh rfl dU b rfl (v1:= .int .i64 1) rfl ⟨hB,?_⟩
 rw[if_neg (by rw[show rC S x=false from kZ p];decide)]
 refine cx<|Zq ?_
 have hi:rC S x=true:=mN p
 obtain⟨h0,h8,h1,h4,h5,hin⟩:=dz.1 (im.1 hi).1
 refine Zr<|Zf rfl iM<|Zl rfl cR d rfl<|ZZ rfl<|cy ?_
 refine cY (σ:=(Nat)) [6,7,15,29] (λi=>[(15, .int .i64 (i:Int))]) (λi W=>(Below w.heap.size w W)∧(At W J _ 59)∧(At W O _ 158)∧(At W L #[.int .u8 ((ef S x i).m:Int), .int .u8 ((ef S x i).v:Int), .int .u8 (x.o:Int)] 158)∧((i:Int)≤S.n)∧(True)) (λi=>S.n.toNat-i) (0) ⟨rfl,trivial⟩ ⟨hB,d,b,a,Om,trivial⟩ ?_
 rintro i av aw ⟨hB,d,b,a,hi2,_⟩ ax g
 refine Zr<|Zv (dq rfl rfl)<|ct<|Zq<|ZQ rfl (λV=> ?_) λV=> ?_
 refine cx<|Zq<|cy ?_
 have hg:=uL (S:=S) (x:=x) ⟨hbx.1,hbx.2.1⟩ i
 have hle:=yu (ef S x i).m (i:Int)
 have hle2:(ef S x i).v &&& lA (ef S x i).m (i:Int)≤(ef S x i).v:=Nat.and_le_left
 refine Zr<|Zi rfl<|ZZ rfl<|Zd dC λX Y=> ?_
 obtain⟨hB,d,b,a⟩:=Y.k4 hB d b a
 have hS:=dC.refl X
 refine Tf 0 rfl rfl gC hS<|Tk 1 rfl (λ_ hq=>iq rfl dh (At.cell (hq.at a) rfl) (At.cell (hq.at a) rfl)) hS<|Ti 2 rfl rfl hS<|Tf 4 rfl rfl fF hS<|Tk 5 rfl (λ_ hq=>cD (v:= .int .u8 _) rfl dN (At.cell (hq.at a) rfl)) hS ?_
 refine v8 3 7 ka rfl rfl rfl rfl rfl rfl rfl rfl (Yd.call (yc xK (v0:= .agg #[_,_]) rfl (v1:= .int .i64 _) rfl) (lS _ _ (i:Int) _ hg.1 hg.2) (λZ ay q r=>⟨.inl (hS.trans q),?_⟩)) (cK jM rfl (λaa az s t e=>⟨.inl (hS.trans t),?_⟩))
 obtain⟨hB,d,b,a⟩:=q.k4 hB d b a
 replace hS:=hS.trans q
 obtain rfl:=r
 refine Tk 6 rfl (λ_ _=>kG (h0:=rfl) (h1:=rfl) (k1:=rfl) (c1_0:= .int .u8 _)) hS<|To 7 rfl (cK jM rfl λaa aA u H e=>⟨.inl (hS.trans H),?_⟩)
 have y:=ZO u hB
 have z:=Zn u b.lt
 have A:=Zn u a.lt
 obtain⟨hB,d,b,a⟩:=H.k4 hB d b a
 refine To 8 rfl (cA rfl rfl dU rfl e rfl rfl λaB h ab=>⟨.inr ka,?_⟩)
 replace hB:=Zg hB h y
 replace d:=At.grownAt d e h Dd
 replace b:=At.grownNe b z h
 replace a:=At.grownNe a A h
 replace e:=ab
 refine Td<|Zr<|Zv (cz rfl ee rfl d)<|Zv (cz rfl dU rfl e)<|ZC (vs:=[.agg #[_,_,_], .agg #[_,_,_]]) C8 (nO S _ _ (jP (ef S x i) i).m (jP (ef S x i) i).v x.o _ (Below.slT hB hon) (Below.slT hB hmay) (by show lA (ef S x i).m (i:Int)<256;omega) (by show (ef S x i).v &&& lA (ef S x i).m (i:Int)<256;omega) hbx.2.2) rfl λac aC ad B=> ?_
 obtain⟨hB,d,b,a,e⟩:=ad.k5 hB d b a e
 obtain rfl:=B
 refine ct<|ZQ rfl (λf=> ?_) λf=> ?_
 refine cI<|Zv (cz rfl dU rfl e)<|Zy (cA rfl rfl dU rfl a rfl rfl λaD C ae=> ?_)
 replace hB:=Zg hB C k
 replace d:=At.grownAt d a C Dd
 replace b:=At.grownNe b (Ne.symm l) C
 replace a:=ae
 refine ct<|ZT rfl rfl rfl ?_
 exact g _ _ (i+1) Za ⟨rfl,trivial⟩ ⟨hB,d,b,(by (rw[←J3 f];exact a)),Om,trivial⟩ Zo
 refine cx<|ZT rfl rfl rfl ?_
 exact g _ _ (i+1) Za ⟨rfl,trivial⟩ ⟨hB,d,b,(by (rw[←Ks f];exact a)),Om,trivial⟩ Zo
 have y:=ZO s hB
 have z:=Zn s b.lt
 have A:=Zn s a.lt
 obtain⟨hB,d,b,a⟩:=t.k4 hB d b a
 replace hS:=hS.trans t
 refine To 3 rfl (TC (vs:=[.agg #[_,_], .int .i64 _]) xK (lS _ _ (i:Int) _ hg.1 hg.2) rfl λZ aE D r=>⟨.inl (hS.trans D),?_⟩)
 obtain⟨hB,d,b,a,e⟩:=D.k5 hB d b a e
 replace hS:=hS.trans D
 obtain rfl:=r
 refine Tk 6 rfl (λ_ _=>kG (h0:=rfl) (h1:=rfl) (k1:=rfl) (c1_0:= .int .u8 _)) hS<|To 8 rfl (cA rfl rfl dU rfl e rfl rfl λaF j af=>⟨.inr ka,?_⟩)
 replace hB:=Zg hB j y
 replace d:=At.grownAt d e j Dd
 replace b:=At.grownNe b z j
 replace a:=At.grownNe a A j
 replace e:=af
 refine Td<|Zr<|Zv (cz rfl ee rfl d)<|Zv (cz rfl dU rfl e)<|ZC (vs:=[.agg #[_,_,_], .agg #[_,_,_]]) C8 (nO S _ _ (jP (ef S x i) i).m (jP (ef S x i) i).v x.o _ (Below.slT hB hon) (Below.slT hB hmay) (by show lA (ef S x i).m (i:Int)<256;omega) (by show (ef S x i).v &&& lA (ef S x i).m (i:Int)<256;omega) hbx.2.2) rfl λac aG ag B=> ?_
 obtain⟨hB,d,b,a,e⟩:=ag.k5 hB d b a e
 obtain rfl:=B
 refine ct<|ZQ rfl (λf=> ?_) λf=> ?_
 refine cI<|Zv (cz rfl dU rfl e)<|Zy (cA rfl rfl dU rfl a rfl rfl λaH E ah=> ?_)
 replace hB:=Zg hB E k
 replace d:=At.grownAt d a E Dd
 replace b:=At.grownNe b (Ne.symm l) E
 replace a:=ah
 refine ct<|ZT rfl rfl rfl ?_
 exact g _ _ (i+1) Za ⟨rfl,trivial⟩ ⟨hB,d,b,(by (rw[←J3 f];exact a)),Om,trivial⟩ Zo
 refine cx<|ZT rfl rfl rfl ?_
 exact g _ _ (i+1) Za ⟨rfl,trivial⟩ ⟨hB,d,b,(by (rw[←Ks f];exact a)),Om,trivial⟩ Zo
 refine cT ?_
 obtain rfl:i=S.n.toNat:=by omega
 refine Zr<|Zv (cz rfl ee rfl d)<|Zf rfl gC<|Zv (iq rfl dh (At.cell a rfl) (At.cell a rfl))<|ZC (vs:=[.agg #[_,_,_], .agg #[_,_]]) CZ (pT S _ _ (ef S x S.n.toNat) _ (Below.slT hB hon) (Below.slT hB hmay) (uL ⟨hbx.1,hbx.2.1⟩ _) Om) rfl λaI aJ ai aj=> ?_
 obtain⟨hB,b,a⟩:=ai.k3 hB b a
 obtain rfl:=aj
 refine Zf rfl fF<|Zy (db (v:= .int .u8 _) rfl rfl dN rfl a fD λaK I ak=> ?_)
 replace hB:=Zg hB I k
 replace b:=At.grownNe b (Ne.symm l) I
 replace a:=ak
 replace a:At _ _ #[_,_,_] _:=a
 refine ct<|Zr<|Zv (cz rfl dU rfl a)<|Zy (cA rfl rfl dU rfl b rfl rfl λaL al ao=> ?_)
 replace hB:=Zg hB al G
 replace b:=ao
 refine ZZ rfl<|Zt<|eh rfl dU b rfl (v1:= .int .i64 0) rfl ⟨hB,?_⟩
 rw[if_pos hi]
 rfl
end
section
open Go Go.RowKit
def iC (l:List Rw):Prop:=∀x,x∈l→x.c.m<256∧x.c.v<256∧x.o<256
theorem iC.get {l:List Rw} (h:iC l) {k:Nat} (hk:k<l.length):(l.getD k ⟨⟨0,0⟩,0⟩).c.m<256∧(l.getD k ⟨⟨0,0⟩,0⟩).c.v<256∧(l.getD k ⟨⟨0,0⟩,0⟩).o<256:=h _ (dB hk)
theorem NE {S:Sp} {l:List Rw} {k:Nat} (hk:k<l.length) (h:¬NF S (l.getD k ⟨⟨0,0⟩,0⟩)=true):Value.bool false= .bool (km S l):=xn λhm=>h (j8.1 hm k hk)
theorem Xk {S:Sp} {x:Rw} (h:(!dP x.c.m x.c.v S.n)=true):¬NF S x=true:=λhk=>by
 rw[(fY.1 hk).1]at h;cases h
theorem XZ {S:Sp} {x:Rw} (h:(x.o:Int)=0):¬NF S x=true:=λhk=>by
 have:=(fY.1 hk).2.1;omega
theorem YG {S:Sp} {x:Rw} (h:((1*2^S.on.length:Nat):Int)≤(x.o:Int)):¬NF S x=true:=λhk=>by
 have:=(fY.1 hk).2.2
 rw[abd]at h;omega
theorem X5 {S:Sp} {x:Rw} (h:(!dP x.c.m x.c.v S.n)=false) (h2:¬(x.o:Int)=0) (h3:¬((1*2^S.on.length:Nat):Int)≤(x.o:Int)):NF S x=true:=by
 rw[abd]at h3
 exact fY.2 ⟨mN h,by omega,by omega⟩
def AR (l:List Rw) (n out:Int):Bool:=decide (0≤n∧n≤8∧0≤out∧out<4)&&l.all λx=>dP x.c.m x.c.v n
theorem uo {l:List Rw} {n out:Int}:AR l n out=true↔(0≤n∧n≤8∧0≤out∧out<4)∧∀k,k<l.length→dP (l.getD k ⟨⟨0,0⟩,0⟩).c.m (l.getD k ⟨⟨0,0⟩,0⟩).c.v n=true:=by
 unfold AR
 rw[th,decide_eq_true_eq,aa2]
 constructor
 ·rintro⟨h1,h2⟩;exact⟨h1,λk hk=>h2 _ (dB hk)⟩
 ·rintro⟨h1,h2⟩
  refine⟨h1,λx hx=> ?_⟩
  obtain⟨k,hk,rfl⟩:=fi (d:=⟨⟨0,0⟩,0⟩) hx
  exact h2 k hk
theorem xS {l:List Rw} {n out:Int} (h:¬(0≤n∧n≤8∧0≤out∧out<4)):¬AR l n out=true:=λk=>h (uo.1 k).1
theorem Wp {l:List Rw} {n out:Int} {k:Nat} (hk:k<l.length) (h:dP (l.getD k ⟨⟨0,0⟩,0⟩).c.m (l.getD k ⟨⟨0,0⟩,0⟩).c.v n=false):¬AR l n out=true:=λq=>by
 rw[(uo.1 q).2 k hk]at h;cases h
theorem R0 {l:List Rw} {n out:Int} {v:Value} (h:v=if AR l n out=true then .tuple #[ej (nM l n.toNat out.toNat l.length), .int .i64 0]else .tuple #[ej 0, .int .i64 1]):
  ∃(sa:Nat) (er:Int),v= .tuple #[ej sa, .int .i64 er]∧((AR l n out=true∧sa=nM l n.toNat out.toNat l.length∧er=0)∨(AR l n out=false∧sa=0∧er=1)):=by
 by_cases ho:AR l n out=true
 ·rw[if_pos ho]at h
  exact⟨_,_,h, .inl ⟨ho,rfl,rfl⟩⟩
 ·rw[if_neg ho]at h
  exact⟨_,_,h, .inr ⟨by simpa using ho,rfl,rfl⟩⟩
theorem Q4 {S:Sp} {l:List Rw} {o:Nat} (hr:dt S=true) (hm:km S l=true) (ho:o<S.on.length):AR l S.n (o:Int)=true:=by
 obtain⟨h0,h8,h1,h4,h5,_⟩:=dz.1 hr
 exact uo.2 ⟨by omega,λk hk=>(fY.1 (j8.1 hm k hk)).1⟩
theorem Uu {S:Sp} {l:List Rw} (h:dt S=false):Value.bool false= .bool (gz S l):=xn λk=>by
 rw[(eU.1 k).1]at h;cases h
theorem WN {S:Sp} {l:List Rw} (h:km S l=false):Value.bool false= .bool (gz S l):=xn λk=>by
 rw[(eU.1 k).2.1]at h;cases h
theorem V9 {S:Sp} {l:List Rw} {o:Nat} (ho:o<S.on.length) (h:ep (AC S o) (nM l S.n.toNat o l.length)=false):Value.bool false= .bool (gz S l):=xn λk=>by
 have:=(eU.1 k).2.2 o ho
 unfold CG at this
 rw[h]at this;cases this
theorem Vv {S:Sp} {l:List Rw} {o:Nat} (ho:o<S.on.length) (h:ep (nM l S.n.toNat o l.length) (kg S o)=false):Value.bool false= .bool (gz S l):=xn λk=>by
 have:=(eU.1 k).2.2 o ho
 unfold CG at this
 rw[h,abq]at this;cases this
theorem M8 {S:Sp} {l:List Rw} {o:Nat} (h1:ep (AC S o) (nM l S.n.toNat o l.length)=true) (h2:ep (nM l S.n.toNat o l.length) (kg S o)=true):CG S l o=true:=by
 unfold CG;rw[h1,h2];rfl
def DR (l:List Rw) (p o:Nat):Bool:=l.any λx=>x.o.testBit o&&pa x.c.m x.c.v p
theorem sB {l:List Rw} {p o:Nat}:DR l p o=true↔∃k,k<l.length∧((l.getD k ⟨⟨0,0⟩,0⟩).o.testBit o&&pa (l.getD k ⟨⟨0,0⟩,0⟩).c.m (l.getD k ⟨⟨0,0⟩,0⟩).c.v p)=true:=by
 unfold DR
 rw[abH]
 constructor
 ·rintro⟨x,hx,h⟩
  obtain⟨k,hk,rfl⟩:=fi (d:=⟨⟨0,0⟩,0⟩) hx
  exact⟨k,hk,h⟩
 ·rintro⟨k,hk,h⟩;exact⟨_,dB hk,h⟩
theorem ig {S:Sp} {l:List Rw} {o:Nat} (hr:dt S=true) (hm:km S l=true) (ho:o<S.on.length):
  CG S l o=true↔∀p,p<2^S.n.toNat→((AC S o).testBit p=true→DR l p o=true)∧(DR l p o=true→(kg S o).testBit p=true):=by
 obtain⟨h0,h8,h1,h4,h5,hin⟩:=dz.1 hr
 have hp:=fw h8
 obtain⟨w1,w2⟩:=hin o ho
 have hcv:∀p,p<2^S.n.toNat→((nM l S.n.toNat o l.length).testBit p=true↔DR l p o=true):=λp hpn=>by
  rw[lX (by omega) p _ (am _),sB]
  have key:∀k,k<l.length→(Ww (l.getD k ⟨⟨0,0⟩,0⟩) o p↔((l.getD k ⟨⟨0,0⟩,0⟩).o.testBit o&&pa (l.getD k ⟨⟨0,0⟩,0⟩).c.m (l.getD k ⟨⟨0,0⟩,0⟩).c.v p)=true):=λk hk=>by
   have hv:=(du.1 (fY.1 (j8.1 hm k hk)).1).2.2.2
   unfold Ww hold pa
   rw[th,decide_eq_true_eq,hv]
  constructor
  ·rintro⟨_,k,hk,h⟩;exact⟨k,hk,(key k hk).1 h⟩
  ·rintro⟨k,hk,h⟩;exact⟨hpn,k,hk,(key k hk).2 h⟩
 unfold CG
 rw[th,dL,dL]
 constructor
 ·rintro⟨g1,g2⟩ p hpn
  exact⟨λh=>(hcv p hpn).1 (g1 p (by omega) h),λh=>g2 p (by omega) ((hcv p hpn).2 h)⟩
 ·intro g
  have hlt:∀p,p<256→(kg S o).testBit p=true→p<2^S.n.toNat:=λp hp2 h=>by
   have:=dL.1 w2 p hp2 h
   rw[fk]at this
   simpa using this
  refine⟨λp hp2 h=> ?_,λp hp2 h=> ?_⟩
  ·have hpn:=hlt p hp2 (dL.1 w1 p hp2 h)
   exact(hcv p hpn).2 ((g p hpn).1 h)
  ·have hpn:=((lX (by omega) p _ (am _)).1 h).1
   exact(g p hpn).2 ((hcv p hpn).1 h)
theorem Pw {o:Nat} {i:Int} (h:((o/2^i.toNat &&& 1:Nat):Int)=1):o.testBit i.toNat=true:=oy.1 h
theorem Oj {o:Nat} {i:Int} (h:¬((o/2^i.toNat &&& 1:Nat):Int)=1):¬o.testBit i.toNat=true:=λk=>h (oy.2 k)
end
section
open Go Go.RowKit
theorem qj:cX Tryz.prog 131=true:=by kernel_rfl
theorem J5:cX Tryz.prog 105=true:=by kernel_rfl
theorem QS:cX Tryz.prog 200=true:=by kernel_rfl
theorem yE (S:Sp) (onV mayV:Value) (xa:Value) (l:List Rw) (w:World) (hon:dp fh 4 w onV S.on) (hmay:dp fh 4 w mayV S.may) (hl:dp gx 3 w xa l) (hlb:l.length≤2000000) (hlr:iC l) (h4:S.on.length≤20):
    Fn Tryz.prog 105 #[.agg #[.int .i64 S.n,onV,mayV],xa] w λv w'=>v= .bool (km S l):=by
 refine cM (n:=35) Tryz.func105 rfl rfl rfl λhB=> ?_
 refine Zr<|Zy (dw (c:= #[_,_,_]) rfl rfl λj W3 H p a=> ?_)
 replace hB:=Ze hB p
 refine Zb rfl<|ct<|Zq<|Zr<|Zw xa rfl<|Zv (de (v:=xa) rfl (Below.slT hB hl) dM)<|ZZ rfl<|cy ?_
 refine cY (σ:=(Nat)) [4,4,6,6,9,34] (λk=>[(9, .int .i64 (k:Int))]) (λk W=>(Below w.heap.size w W)∧(At W j _ 59)∧(k≤l.length)∧(∀q,q<k→NF S (l.getD q ⟨⟨0,0⟩,0⟩)=true)∧(True)) (λk=>l.length-k) (0) ⟨rfl,trivial⟩ ⟨hB,a,(my _),eT,trivial⟩ ?_
 rintro k I J ⟨hB,a,hk,hq,_⟩ K r
 refine Zr<|Zv (dq rfl rfl)<|ct<|Zq<|ZQ rfl (λs=> ?_) λs=> ?_
 refine cx<|Zq<|cy ?_
 obtain⟨t,u,L⟩:=hlr.get (k:=k) (by omega)
 refine Zr<|Zv (dm (v:=xa) rfl (Below.slT hB hl) rfl dM Om (by omega))<|Zv (jc rfl dU (dp.cell (Below.slT hB hl) eA ⟨⟨0,0⟩,0⟩ Om (by omega) 0 rfl) (dp.cell (Below.slT hB hl) eA ⟨⟨0,0⟩,0⟩ Om (by omega) 1 rfl) (dp.cell (Below.slT hB hl) eA ⟨⟨0,0⟩,0⟩ Om (by omega) 2 rfl))<|Zy (cK jM rfl λM N y z b=> ?_)
 have A:=ZO y hB
 obtain⟨hB,a⟩:=z.k2 hB a
 refine Zy (cA rfl rfl dU rfl b rfl rfl λO h B=> ?_)
 replace hB:=Zg hB h A
 replace a:=At.grownAt a b h Dd
 replace b:=B
 refine ct<|Zd dC λC D=> ?_
 obtain⟨hB,a,b⟩:=D.k3 hB a b
 have hS:=dC.refl C
 refine Tf 0 rfl rfl gC hS<|Tk 1 rfl (λ_ hq=>iq rfl dh (At.cell (hq.at b) rfl) (At.cell (hq.at b) rfl)) hS<|Tf 2 rfl rfl iM hS<|Tk 3 rfl (λ_ hq=>cD (v:= .int .i64 _) rfl cR (At.cell (hq.at a) rfl)) hS<|To 4 rfl (TC (vs:=[.agg #[_,_], .int .i64 _]) Ct (nq _ _ _ _ t u) rfl λP Q d E=>⟨.inl (hS.trans d),?_⟩)
 have F:=hB
 have G:=a
 have i:=b
 obtain⟨hB,a⟩:=d.k2 hB a
 replace hS:=hS.trans d
 obtain rfl:=E
 refine Tk 5 rfl (λ_ _=>eR rfl) hS<|Tx 6 rfl (λ_ _=>jY (v:= .bool _) rfl) hS (λe=> ?_) λe=> ?_
 refine Tp 7 rfl hS<|Tp 8 rfl hS<|Tp 9 rfl hS<|Ty 10 rfl rfl hS<|Ty 11 rfl rfl hS<|Tp 12 rfl hS<|Tp 13 rfl hS<|Tp 14 rfl hS<|Tp 15 rfl hS<|Tp 16 rfl hS<|Tp 17 rfl hS<|Tp 18 rfl hS<|Tp 19 rfl hS<|Ty 20 rfl rfl hS ?_
 refine Td<|cQ rfl<|Zr<|Zb rfl<|ct<|Zt<|df (v:= .bool false) rfl ⟨hB,?_⟩
 exact NE (k:=k) Om (Xk e)
 refine Tf 7 rfl rfl fF hS<|Tk 8 rfl (λ_ hq=>cD (v:= .int .u8 _) rfl dN (At.cell (hq.at i) rfl)) hS<|Tk 9 rfl (λ_ _=>dJ rfl rfl) hS<|Ty 10 rfl rfl hS<|Tx 11 rfl (λ_ _=>jY (v:= .bool _) rfl) hS (λf=> ?_) λf=> ?_
 refine Tp 12 rfl hS<|Tp 13 rfl hS<|Tp 14 rfl hS<|Tp 15 rfl hS<|Tp 16 rfl hS<|Tp 17 rfl hS<|Tp 18 rfl hS<|Tp 19 rfl hS<|Ty 20 rfl rfl hS<|Td<|cQ rfl<|Zr<|Zb rfl<|ct ?_
 refine Zt<|df (v:= .bool false) rfl ⟨hB,?_⟩
 exact NE (k:=k) Om (XZ f)
 refine Tf 12 rfl rfl fF hS<|Tk 13 rfl (λ_ hq=>cD (v:= .int .u8 _) rfl dN (At.cell (hq.at i) rfl)) hS<|Tk 14 rfl (λ_ _=>i7 rfl Tryz.underlying5 Tryz.underlying3 (by show (l.getD k ⟨⟨0,0⟩,0⟩).o<9223372036854775808;omega)) hS<|Tf 15 rfl rfl gW hS<|Tk 16 rfl (λ_ hq=>cD (v:=onV) rfl eY (At.cell (hq.at G) rfl)) hS<|Tk 17 rfl (λ_ hq=>de (v:=onV) rfl (hq.slT (Below.slT F hon)) ey) hS<|Tk 18 rfl (λ_ _=>jN (m:=1) rfl rfl Om (by simp only[IntKind.bits];omega) tW) hS<|Tk 19 rfl (λ_ _=>kn rfl rfl) hS<|Ty 20 rfl rfl hS<|Td<|ZQ rfl (λg=> ?_) λg=> ?_
 refine Zr<|Zb rfl<|ct<|Zt<|df (v:= .bool false) rfl ⟨hB,?_⟩
 exact NE (k:=k) Om (YG g)
 refine cx<|ZT rfl rfl rfl ?_
 exact r _ _ (k+1) Za ⟨rfl,trivial⟩ ⟨hB,a,Om,(d6 hq (X5 (x:=(l.getD k ⟨⟨0,0⟩,0⟩)) e f g)),trivial⟩ Zo
 refine cT<|Zr<|Zb rfl<|ct<|Zt<|df (v:= .bool true) rfl ⟨hB,?_⟩
 obtain rfl:k=l.length:=by omega
 exact Ou (j8.2 hq)
theorem Bd (xa:Value) (l:List Rw) (n out:Int) (w:World) (hl:dp gx 3 w xa l) (hlb:l.length≤2000000) (hlr:iC l):
    Fn Tryz.prog 200 #[xa, .int .i64 n, .int .i64 out] w λv w'=>v=if AR l n out=true then .tuple #[ej (nM l n.toNat out.toNat l.length), .int .i64 0]else .tuple #[ej 0, .int .i64 1]:=by
 refine cM (n:=56) Tryz.func200 rfl rfl rfl λhB=> ?_
 refine Zr<|Zy (cK el rfl λt W3 u D a=> ?_)
 have f:=ZO u hB
 replace hB:=Ze hB D
 replace a:At W3 t #[wv 0 0,wv 0 1,wv 0 2,wv 0 3] 40:=a
 refine ZZ rfl<|Zq<|Zr<|Zi rfl<|Zv (dq rfl rfl)<|ZX rfl (λE=> ?_) λE=> ?_
 refine Zs<|Zs<|Zb rfl<|Zb rfl<|Zs<|Zs<|Zb rfl<|Zb rfl<|Zs<|Zs<|Zb rfl<|ct<|cQ rfl<|Zr ?_
 refine Zv (v:=ej 0) (gm)<|Zy (cA rfl rfl cC rfl a rfl rfl λau F G=> ?_)
 replace hB:=Zg hB F f
 replace a:=G
 refine ZZ rfl<|Zt<|eh rfl cC a rfl (v1:= .int .i64 1) rfl ⟨hB,?_⟩
 rw[if_neg (xS (by omega))]
 refine Zi rfl<|Zv (iG rfl rfl)<|Zb rfl<|ZX rfl (λH=> ?_) λH=> ?_
 refine Zs<|Zs<|Zb rfl<|Zb rfl<|Zs<|Zs<|Zb rfl<|ct<|cQ rfl<|Zr<|Zv (v:=ej 0) (gm)<|Zy (cA rfl rfl cC rfl a rfl rfl λav I J=> ?_)
 replace hB:=Zg hB I f
 replace a:=J
 refine ZZ rfl<|Zt<|eh rfl cC a rfl (v1:= .int .i64 1) rfl ⟨hB,?_⟩
 rw[if_neg (xS (by omega))]
 refine Zi rfl<|Zv (dq rfl rfl)<|Zb rfl<|ZX rfl (λK=> ?_) λK=> ?_
 refine Zs<|Zs<|Zb rfl<|ct<|cQ rfl<|Zr<|Zv (v:=ej 0) (gm)<|Zy (cA rfl rfl cC rfl a rfl rfl λaw L M=> ?_)
 replace hB:=Zg hB L f
 replace a:=M
 refine ZZ rfl<|Zt<|eh rfl cC a rfl (v1:= .int .i64 1) rfl ⟨hB,?_⟩
 rw[if_neg (xS (by omega))]
 refine Zi rfl<|Zv (kn rfl rfl)<|Zb rfl<|ct<|ZQ rfl (λN=> ?_) λN=> ?_
 refine Zr<|Zv (v:=ej 0) (gm)<|Zy (cA rfl rfl cC rfl a rfl rfl λax O P=> ?_)
 replace hB:=Zg hB O f
 replace a:=P
 refine ZZ rfl<|Zt<|eh rfl cC a rfl (v1:= .int .i64 1) rfl ⟨hB,?_⟩
 rw[if_neg (xS (by omega))]
 refine cx<|Zr<|Zy (cK el rfl λx Q y R b=> ?_)
 have S:=ZO y hB
 have z:=Zn y a.lt
 obtain⟨hB,a⟩:=R.k2 hB a
 replace b:At Q x #[wv 0 0,wv 0 1,wv 0 2,wv 0 3] 40:=b
 refine ct<|Zq<|Zr<|Zw xa rfl<|Zv (de (v:=xa) rfl (Below.slT hB hl) dM)<|ZZ rfl<|cy ?_
 refine cY (σ:=(Nat)) [7,7,10,12,30,54] (λk=>[(30, .int .i64 (k:Int))]) (λk W=>(Below w.heap.size w W)∧(At W t _ 40)∧(At W x #[wv (nM l n.toNat out.toNat k) 0,wv (nM l n.toNat out.toNat k) 1,wv (nM l n.toNat out.toNat k) 2,wv (nM l n.toNat out.toNat k) 3] 40)∧(k≤l.length)∧(∀q,q<k→dP (l.getD q ⟨⟨0,0⟩,0⟩).c.m (l.getD q ⟨⟨0,0⟩,0⟩).c.v n=true)∧(True)) (λk=>l.length-k) (0) ⟨rfl,trivial⟩ ⟨hB,a,b,(my _),eT,trivial⟩ ?_
 rintro k ay az ⟨hB,a,b,hk,hq,_⟩ aA A
 refine Zr<|Zv (dq rfl rfl)<|ct<|Zq<|ZQ rfl (λT=> ?_) λT=> ?_
 refine cx<|Zq<|cy ?_
 obtain⟨U,V,aB⟩:=hlr.get (k:=k) (by omega)
 have u:(l.getD k ⟨⟨0,0⟩,0⟩).o/2^out.toNat≤(l.getD k ⟨⟨0,0⟩,0⟩).o:=abV _ _
 refine Zr<|Zv (dm (v:=xa) rfl (Below.slT hB hl) rfl dM Om (by omega))<|Zv (jc rfl dU (dp.cell (Below.slT hB hl) eA ⟨⟨0,0⟩,0⟩ Om (by omega) 0 rfl) (dp.cell (Below.slT hB hl) eA ⟨⟨0,0⟩,0⟩ Om (by omega) 1 rfl) (dp.cell (Below.slT hB hl) eA ⟨⟨0,0⟩,0⟩ Om (by omega) 2 rfl))<|Zy (cK jM rfl λaC aD X Y d=> ?_)
 have Z:=ZO X hB
 obtain⟨hB,a,b⟩:=Y.k3 hB a b
 refine Zy (cA rfl rfl dU rfl d rfl rfl λaE j aa=> ?_)
 replace hB:=Zg hB j Z
 replace a:=At.grownAt a d j Dd
 replace b:=At.grownAt b d j Dd
 replace d:=aa
 refine ct<|Zr<|Zf rfl gC<|Zv (iq rfl dh (At.cell d rfl) (At.cell d rfl))<|Zi rfl<|ZC (vs:=[.agg #[_,_], .int .i64 _]) yM (kx _ _ _ _ U V) rfl λaF aG ab ac=> ?_
 obtain⟨hB,a,b,d⟩:=ab.k4 hB a b d
 obtain⟨sa,er,rfl,hhP7_3⟩:=vY ac
 refine Zw (.tuple #[.agg #[_,_,_,_], .int .i64 _]) rfl<|Zv (cZ rfl)<|Zv (c7 rfl)<|Zy (cK el rfl λad ae p af g=> ?_)
 have ag:=ZO p hB
 have ah:=Zn p a.lt
 have ai:=Zn p b.lt
 obtain⟨hB,a,b,d⟩:=af.k4 hB a b d
 replace g:At ae ad #[wv 0 0,wv 0 1,wv 0 2,wv 0 3] 40:=g
 refine Zy (cA rfl rfl cC rfl g rfl rfl λaH i aj=> ?_)
 replace hB:=Zg hB i ag
 replace a:=At.grownNe a ah i
 replace b:=At.grownNe b ai i
 replace d:=At.grownAt d g i Dd
 replace g:=aj
 refine ZZ rfl<|Zq<|Zr<|Zi rfl<|Zv (e7 rfl rfl)<|ct<|ZQ rfl (λr=> ?_) λr=> ?_
 refine Zr<|Zv (v:=ej 0) (gm)<|Zi rfl<|Zy (cA rfl rfl cC rfl a rfl rfl λaI ak al=> ?_)
 replace hB:=Zg hB ak f
 replace a:=al
 refine ZZ rfl<|Zt<|eh rfl cC a rfl (v1:= .int .i64 _) rfl ⟨hB,?_⟩
 obtain⟨hrr,her⟩:=hhP7_3.resolve_left (λh=>r h.2.2)
 rw[if_neg (Wp (k:=k) (by omega) hrr),her]
 refine cx ?_
 obtain⟨hrr,hsa,_⟩:=hhP7_3.resolve_right (λh=>r (λe=>by rw[h.2]at e;cases e))
 subst hsa
 refine Zr<|Zf rfl fF<|Zl rfl dN d rfl<|Zi rfl<|Zv (qQ rfl rfl Om (by simp only[IntKind.bits];omega))<|Zv (m5 (n:=1) rfl rfl rfl (by show (l.getD k ⟨⟨0,0⟩,0⟩).o/2^out.toNat<256;omega) Dd)<|Zv (dJ rfl rfl)<|ct<|ZQ rfl (λs=> ?_) λs=> ?_
 refine cI<|Zv (cz rfl cC rfl b)<|Zv (cz rfl cC rfl g)<|ZC (vs:=[.agg #[_,_,_,_], .agg #[_,_,_,_]]) qj (pq _ _ _) rfl λaJ aK ao ap=> ?_
 obtain⟨hB,a,b⟩:=ao.k3 hB a b
 obtain rfl:=ap
 refine Zy (cA rfl rfl cC rfl b rfl rfl λaL B aq=> ?_)
 replace hB:=Zg hB B S
 replace a:=At.grownNe a z B
 replace b:=aq
 refine ct<|ZT rfl rfl rfl ?_
 exact A _ _ (k+1) Za ⟨rfl,trivial⟩ ⟨hB,a,(by (rw[←U8 (l:=l) (k:=k) (Pw s)];exact b)),Om,(d6 hq hrr),trivial⟩ Zo
 refine cx<|ZT rfl rfl rfl ?_
 exact A _ _ (k+1) Za ⟨rfl,trivial⟩ ⟨hB,a,(by (rw[←Wd (l:=l) (k:=k) (Oj s)];exact b)),Om,(d6 hq hrr),trivial⟩ Zo
 refine cT<|Zr<|Zv (cz rfl cC rfl b)<|Zy (cA rfl rfl cC rfl a rfl rfl λaM C ar=> ?_)
 replace hB:=Zg hB C f
 replace b:=At.grownNe b (Ne.symm z) C
 replace a:=ar
 refine ZZ rfl<|Zt<|eh rfl cC a rfl (v1:= .int .i64 0) rfl ⟨hB,?_⟩
 obtain rfl:k=l.length:=by omega
 rw[if_pos (uo.2 ⟨by omega,hq⟩)]
theorem tB (S:Sp) (onV mayV:Value) (xa:Value) (l:List Rw) (w:World) (hon:dp fh 4 w onV S.on) (hmay:dp fh 4 w mayV S.may) (hl:dp gx 3 w xa l) (hlb:l.length≤2000000) (hlr:iC l) (h4:S.on.length≤20):
    Fn Tryz.prog 151 #[.agg #[.int .i64 S.n,onV,mayV],xa] w λv w'=>v= .bool (gz S l):=by
 refine cM (n:=49) Tryz.func151 rfl rfl rfl λhB=> ?_
 refine Zr<|Zy (dw (c:= #[_,_,_]) rfl rfl λu W3 aa x a=> ?_)
 replace hB:=Ze hB x
 refine Zb rfl<|ct<|Zq<|Zr<|Zv (cz rfl ee rfl a)<|ZC (vs:=[.agg #[_,_,_]]) oC (iP S _ _ _ (Below.slT hB hon) (Below.slT hB hmay)) rfl λab ac y z=> ?_
 obtain⟨hB,a⟩:=y.k2 hB a
 obtain rfl:=z
 refine Zv (eR rfl)<|ZX rfl (λf=> ?_) λf=> ?_
 refine Zs<|Zs<|Zs<|Zs<|Zb rfl<|ct<|cQ rfl<|Zr<|Zb rfl<|ct<|Zt<|df (v:= .bool false) rfl ⟨hB,?_⟩
 exact Uu (kZ f)
 refine Zv (cz rfl ee rfl a)<|Zw xa rfl<|ZC (vs:=[.agg #[_,_,_],xa]) J5 (yE S _ _ _ l _ (Below.slT hB hon) (Below.slT hB hmay) (Below.slT hB hl) hlb hlr h4) rfl λad ae A B=> ?_
 obtain⟨hB,a⟩:=A.k2 hB a
 obtain rfl:=B
 refine Zv (eR rfl)<|Zb rfl<|ct<|ZQ rfl (λg=> ?_) λg=> ?_
 refine Zr<|Zb rfl<|ct<|Zt<|df (v:= .bool false) rfl ⟨hB,?_⟩
 exact WN (kZ g)
 refine cx<|Zq ?_
 have hr:dt S=true:=mN f
 have hm:km S l=true:=mN g
 obtain⟨h0,h8,h1,h5,h6,_⟩:=dz.1 hr
 refine Zr<|Zf rfl gW<|ZL onV rfl eY a rfl<|Zv (de (v:=onV) rfl (Below.slT hB hon) ey)<|ZZ rfl<|cy ?_
 refine cY (σ:=(Nat)) [4,8,21,48] (λk=>[(21, .int .i64 (k:Int))]) (λk W=>(Below w.heap.size w W)∧(At W u _ 59)∧(k≤S.on.length)∧(∀q,q<k→CG S l q=true)∧(True)) (λk=>S.on.length-k) (0) ⟨rfl,trivial⟩ ⟨hB,a,(my _),eT,trivial⟩ ?_
 rintro k af ag ⟨hB,a,hk,hq,_⟩ ah C
 refine Zr<|Zv (dq rfl rfl)<|ct<|Zq<|ZQ rfl (λD=> ?_) λD=> ?_
 refine cx<|Zq<|cy<|Zr<|Zi rfl<|Zv (dm (v:=onV) rfl (Below.slT hB hon) rfl ey Om (by omega))<|Zv (eQ rfl cC (dp.cell (Below.slT hB hon) dr 0 Om (by omega) 0 rfl) (dp.cell (Below.slT hB hon) dr 0 Om (by omega) 1 rfl) (dp.cell (Below.slT hB hon) dr 0 Om (by omega) 2 rfl) (dp.cell (Below.slT hB hon) dr 0 Om (by omega) 3 rfl))<|Zy (cK el rfl λE F G H b=> ?_)
 have I:=ZO G hB
 obtain⟨hB,a⟩:=H.k2 hB a
 replace b:At F E #[wv 0 0,wv 0 1,wv 0 2,wv 0 3] 40:=b
 refine Zi rfl<|Zy (cA rfl rfl cC rfl b rfl rfl λai s J=> ?_)
 replace hB:=Zg hB s I
 replace a:=At.grownAt a b s Dd
 replace b:=J
 refine ct<|Zr<|Zw xa rfl<|Zf rfl iM<|Zl rfl cR a rfl<|Zi rfl<|ZC QS (Bd _ l S.n (k:Int) _ (Below.slT hB hl) hlb hlr) rfl λaj ak K L=> ?_
 obtain⟨hB,a,b⟩:=K.k3 hB a b
 obtain⟨sa,er,rfl,hhP6_4⟩:=R0 L
 refine Zw (.tuple #[.agg #[_,_,_,_], .int .i64 _]) rfl<|Zv (cZ rfl)<|Zv (c7 rfl)<|Zy (cK el rfl λM N t O d=> ?_)
 have P:=ZO t hB
 have Q:=Zn t b.lt
 obtain⟨hB,a,b⟩:=O.k3 hB a b
 replace d:At N M #[wv 0 0,wv 0 1,wv 0 2,wv 0 3] 40:=d
 refine Zy (cA rfl rfl cC rfl d rfl rfl λal i R=> ?_)
 replace hB:=Zg hB i P
 replace a:=At.grownAt a d i Dd
 replace b:=At.grownNe b Q i
 replace d:=R
 refine ZZ rfl ?_
 obtain⟨_,hsa,_⟩:=hhP6_4.resolve_right (λh=>by have h2:=Q4 (l:=l) hr hm (show k<S.on.length by omega);rw[h.1]at h2;cases h2)
 rw[so]at hsa
 subst hsa
 refine Zd dC λT U=> ?_
 obtain⟨hB,a,b,d⟩:=U.k4 hB a b d
 have hS:=dC.refl T
 refine Tk 0 rfl (λ_ hq=>cz rfl cC rfl (hq.at b)) hS<|Tk 1 rfl (λ_ hq=>cz rfl cC rfl (hq.at d)) hS<|To 2 rfl (TC (vs:=[.agg #[_,_,_,_], .agg #[_,_,_,_]]) oW (gN _ _ _) rfl λao ap j V=>⟨.inl (hS.trans j),?_⟩)
 have e:=hB
 have X:=a
 have Y:=d
 obtain⟨hB,a⟩:=j.k2 hB a
 replace hS:=hS.trans j
 obtain rfl:=V
 refine Tk 3 rfl (λ_ _=>eR rfl) hS<|Tx 4 rfl (λ_ _=>jY (v:= .bool _) rfl) hS (λm=> ?_) λm=> ?_
 refine Tp 5 rfl hS<|Tp 6 rfl hS<|Tp 7 rfl hS<|Tp 8 rfl hS<|Tp 9 rfl hS<|Tp 10 rfl hS<|Tp 11 rfl hS<|Tp 12 rfl hS<|Ty 13 rfl rfl hS<|Td<|cQ rfl<|Zr<|Zb rfl<|ct ?_
 refine Zt<|df (v:= .bool false) rfl ⟨hB,?_⟩
 exact V9 (o:=k) Om (kZ m)
 refine Tk 5 rfl (λ_ hq=>cz rfl cC rfl (hq.at Y)) hS<|Tf 6 rfl rfl gi hS<|Tk 7 rfl (λ_ hq=>cD (v:=mayV) rfl eY (At.cell (hq.at X) rfl)) hS<|Ti 8 rfl rfl hS<|Tk 9 rfl (λ_ hq=>dm (v:=mayV) rfl (hq.slT (Below.slT e hmay)) rfl ey Om (by omega)) hS<|Tk 10 rfl (λ_ hq=>eQ rfl cC (dp.cell (hq.slT (Below.slT e hmay)) dr 0 Om (by omega) 0 rfl) (dp.cell (hq.slT (Below.slT e hmay)) dr 0 Om (by omega) 1 rfl) (dp.cell (hq.slT (Below.slT e hmay)) dr 0 Om (by omega) 2 rfl) (dp.cell (hq.slT (Below.slT e hmay)) dr 0 Om (by omega) 3 rfl)) hS<|To 11 rfl (TC (vs:=[.agg #[_,_,_,_], .agg #[_,_,_,_]]) oW (gN _ _ _) rfl λaq ar p Z=>⟨.inl (hS.trans p),?_⟩)
 obtain⟨hB,a⟩:=p.k2 hB a
 replace hS:=hS.trans p
 obtain rfl:=Z
 refine Tk 12 rfl (λ_ _=>eR rfl) hS<|Ty 13 rfl rfl hS<|Td<|ZQ rfl (λr=> ?_) λr=> ?_
 refine Zr<|Zb rfl<|ct<|Zt<|df (v:= .bool false) rfl ⟨hB,?_⟩
 exact Vv (o:=k) Om (kZ r)
 refine cx<|ZT rfl rfl rfl ?_
 exact C _ _ (k+1) Za ⟨rfl,trivial⟩ ⟨hB,a,Om,(d6 hq (M8 (mN m) (mN r))),trivial⟩ Zo
 refine cT<|Zr<|Zb rfl<|ct<|Zt<|df (v:= .bool true) rfl ⟨hB,?_⟩
 obtain rfl:k=S.on.length:=by omega
 exact Ou (eU.2 ⟨hr,hm,hq⟩)
end
section
open Go Go.RowKit
section
variable {s:List UInt8} {m u i k n:Nat}
theorem XR (k i:Nat):(1*2^k).testBit i=decide (i=k):=by
 rw[abd,abh]
 exact decide_eq_decide.2 ⟨λh=>h.symm,λh=>h.symm⟩
theorem CJ (s:List UInt8):∀k i,(Az s k).testBit i=(decide (i<k)&&decide (fZ s i=48∨fZ s i=49))
 |0,i=>by simp[Az]
 |k+1,i=>by
  rw[Az]
  by_cases h:fZ s k=48∨fZ s k=49
  ·rw[if_pos h,abI,CJ s k i,XR]
   by_cases hi:i=k
   ·subst hi;simp[h]
   ·have e:decide (i<k+1)=decide (i<k):=decide_eq_decide.2 (by omega)
    rw[e,decide_eq_false hi,acJ]
  ·rw[if_neg h,CJ s k i]
   by_cases hi:i=k
   ·subst hi;simp[h]
   ·have e:decide (i<k+1)=decide (i<k):=decide_eq_decide.2 (by omega)
    rw[e]
theorem D3 (s:List UInt8):∀k i,(yI s k).testBit i=(decide (i<k)&&decide (fZ s i=49))
 |0,i=>by simp[yI]
 |k+1,i=>by
  rw[yI]
  by_cases h:fZ s k=49
  ·rw[if_pos h,abI,D3 s k i,XR]
   by_cases hi:i=k
   ·subst hi;simp[h]
   ·have e:decide (i<k+1)=decide (i<k):=decide_eq_decide.2 (by omega)
    rw[e,decide_eq_false hi,acJ]
  ·rw[if_neg h,D3 s k i]
   by_cases hi:i=k
   ·subst hi;simp[h]
   ·have e:decide (i<k+1)=decide (i<k):=decide_eq_decide.2 (by omega)
    rw[e]
theorem Ib (h:s.length≤8):dP (pb s).m (pb s).v (s.length:Int)=true:=by
 refine du.2 ⟨by omega,by omega,by rw[so];exact zb s s.length,?_⟩
 refine aaz λi=> ?_
 show (yI s s.length &&& Az s s.length).testBit i=(yI s s.length).testBit i
 rw[aa3,CJ,D3]
 by_cases h1:i<s.length<;>by_cases h2:fZ s i=49<;>simp[h1,h2]
theorem KD (h:jy s=true):s.length≤8:=by
 unfold jy at h
 rw[th]at h
 exact of_decide_eq_true h.1
theorem zm (h:i<k):fZ (qx m u k) i=(D7 m u i).toNat:=by
 unfold fZ qx
 rw[me,ab0,List.getElem?_range h]
 rfl
theorem Ug:(D7 m u i).toNat=48∨(D7 m u i).toNat=49↔m.testBit i=true:=by
 unfold D7
 rw[abB]
 by_cases h:m/2^i%2=0
 ·rw[if_pos h];simp[h]
 ·rw[if_neg h]
  have h1:m/2^i%2=1:=by omega
  by_cases h2:u/2^i%2=0
  ·rw[if_pos h2];simp[h1]
  ·rw[if_neg h2];simp[h1]
theorem TS:(D7 m u i).toNat=49↔(m.testBit i=true∧u.testBit i=true):=by
 unfold D7
 rw[abB,abB]
 by_cases h:m/2^i%2=0
 ·rw[if_pos h];simp[h]
 ·rw[if_neg h]
  have h1:m/2^i%2=1:=by omega
  by_cases h2:u/2^i%2=0
  ·rw[if_pos h2];simp[h2]
  ·rw[if_neg h2]
   have h3:u/2^i%2=1:=by omega
   simp[h1,h3]
theorem Ds (m u i:Nat):kh (D7 m u i).toNat=true:=by
 unfold D7
 by_cases h:m/2^i%2=0
 ·rw[if_pos h];rfl
 ·rw[if_neg h]
  by_cases h2:u/2^i%2=0
  ·rw[if_pos h2];rfl
  ·rw[if_neg h2];rfl
theorem R4 {n:Int} (h:dP m u n=true):jy (qx m u n.toNat)=true∧pb (qx m u n.toNat)=⟨m,u⟩:=by
 obtain⟨h0,h8,hm,hv⟩:=du.1 h
 refine⟨Dm (by rw[lE];omega) λq hq=> ?_,?_⟩
 ·rw[lE]at hq
  rw[zm hq]
  exact Ds m u q
 ·have hml:∀i,n.toNat≤i→m.testBit i=false:=λi hi=>acb (abe hm (aa8 (by decide) hi))
  have e1:Az (qx m u n.toNat) (qx m u n.toNat).length=m:=by
   refine aaz λi=> ?_
   rw[CJ,lE]
   by_cases hi:i<n.toNat
   ·rw[zm hi,decide_eq_true hi,abu]
    cases hb:m.testBit i
    ·exact decide_eq_false λe=>by rw[Ug.1 e]at hb;cases hb
    ·exact decide_eq_true (Ug.2 hb)
   ·rw[decide_eq_false hi,abD,hml i (by omega)]
  have e2:yI (qx m u n.toNat) (qx m u n.toNat).length=u:=by
   refine aaz λi=> ?_
   have hv2:u.testBit i=true→m.testBit i=true:=λhb=>by
    rw[←hv,aa3,th]at hb
    exact hb.2
   rw[D3,lE]
   by_cases hi:i<n.toNat
   ·rw[zm hi,decide_eq_true hi,abu]
    cases hb:u.testBit i
    ·exact decide_eq_false λe=>by rw[(TS.1 e).2]at hb;cases hb
    ·exact decide_eq_true (TS.2 ⟨hv2 hb,hb⟩)
   ·rw[decide_eq_false hi,abD]
    cases hb:u.testBit i
    ·rfl
    ·rw[hml i (by omega)]at hv2;exact absurd (hv2 hb) (by decide)
  unfold pb
  rw[e1,e2]
end
section
variable {l:Ln} {ni no:Int} {line:List UInt8}
theorem wJ:∀(a b:List UInt8),(32:UInt8)∉a→Lib.index (a++32::b) [32]=(a.length:Int)
 |[],b,_=>by
  rw[abG,Lib.index]
  simp[List.isPrefixOf]
 |c::a,b,h=>by
  have h1:c≠32:=λe=>h U6
  have ih:=wJ a b (λe=>h (abf _ e))
  rw[abR,Lib.index]
  have hp:([32]:List UInt8).isPrefixOf (c::(a++32::b))=false:=by simp[List.isPrefixOf,Ne.symm h1]
  rw[hp,ih]
  simp only[ack,if_false,beq_iff_eq]
  rw[if_neg (by omega)]
  simp
theorem CD {a b:List UInt8} (h:(32:UInt8)∉a):Lib.cut (a++32::b) [32]=(a,b,true):=by
 unfold Lib.cut
 rw[wJ a b h,if_pos (by omega),so]
 have e:a++32::b=(a++[32])++b:=by simp
 rw[List.take_left,show a.length+([32]:List UInt8).length=(a++[32]).length by simp,e,List.drop_left]
theorem OH (m u n:Nat):(32:UInt8)∉qx m u n:=by
 intro h
 obtain⟨i,_,e⟩:=aa6.1 h
 have:=Ds m u i
 rw[e]at this
 cases this
theorem FW {x:Int} (h:0≤x∧x<3):rV (HS x).toNat=x∧kh (HS x).toNat=true:=by
 have:x=0∨x=1∨x=2:=by omega
 rcases this with rfl|rfl|rfl<;>exact⟨rfl,rfl⟩
theorem Kt {os:List Int} (h:∀x,x∈os→0≤x∧x<3):iE (lH os)=os:=by
 unfold iE lH
 rw[List.map_map]
 conv=>rhs;rw[←List.map_id os]
 exact acd λx hx=>(FW (h x hx)).1
theorem F5 (ni:Int) (l:Ln):Lib.cut (vS ni l) [32]=(qx l.c.m l.c.v ni.toNat,lH l.os,true):=by
 unfold vS Ay
 rw[abm]
 exact CD (OH _ _ _)
theorem Sm (h:pE ni no l=true) (hn:0≤ni):gw ni no (vS ni l)=true∧pH (vS ni l)=l:=by
 obtain⟨h1,h2,h3⟩:=nJ.1 h
 obtain⟨k1,k2⟩:=R4 h1
 refine⟨sK.2 ?_,?_⟩
 ·rw[F5]
  refine⟨rfl,k1,by rw[lE];omega,by rw[pf];exact h2,λq hq=> ?_⟩
  simp only[pf]at hq
  have e:fZ (lH l.os) q=(HS (l.os.getD q 0)).toNat:=by
   unfold fZ lH
   rw[me,ab0,we hq,me,we hq]
   rfl
  simp only[e]
  exact(FW (h3 _ (ph (d:=0) hq))).2
 ·unfold pH
  rw[F5]
  simp only[k2,Kt h3]
theorem Ly (h:gw ni no line=true):pE ni no (pH line)=true:=by
 obtain⟨_,h2,h3,h4,h5⟩:=sK.1 h
 refine nJ.2 ⟨?_,?_,?_⟩
 ·rw[←h3];exact Ib (KD h2)
 ·show ((iE _).length:Int)=no
  rw[mf];exact h4
 ·intro x hx
  obtain⟨b,hb,rfl⟩:=aa6.1 hx
  obtain⟨i,hi,rfl⟩:=List.getElem_of_mem hb
  have h6:=h5 i hi
  have e:fZ (Lib.cut line [32]).2.1 i=((Lib.cut line [32]).2.1[i]).toNat:=by
   unfold fZ
   rw[me,we hi]
   rfl
  rw[e]at h6
  generalize ((Lib.cut line [32]).2.1[i]).toNat=b at h6
  unfold kh at h6
  simp only[abF,beq_iff_eq]at h6
  rcases h6 with (h6|h6)|h6<;>subst h6<;>decide
end
theorem JE {line word:List UInt8} {lo hi:Int} (h0:0≤lo) (h:fG line word lo hi≥0):lo≤fG line word lo hi∧fG line word lo hi≤hi:=by
 unfold fG at*
 cases hn:xB line word with
 |none=>rw[hn]at h;simp only at h;omega
 |some n=>
  rw[hn]at h
  simp only at h ⊢
  by_cases hc:lo≤n∧(n:Int)≤hi
  ·rw[if_pos hc];exact hc
  ·rw[if_neg hc]at h;omega
structure SA (r:Rd):Prop where
 k0:0≤r.T.kind
 k3:r.T.kind≤3
 i:1≤r.st→0≤r.T.ni∧r.T.ni≤8
 o:2≤r.st→1≤r.T.no∧r.T.no≤4
 len:r.T.ls.length≤64
 all:∀l,l∈r.T.ls→pE r.T.ni r.T.no l=true
 early:r.st<4→r.T.ls=[]
 s0:0≤r.st
theorem TO {b:Bool} (h:JS b=0):b=true:=by
 unfold JS at h
 cases b
 ·cases h
 ·rfl
section
variable {r:Rd} {l:List UInt8}
theorem SA.take (h:SA r) (he:(ff r l).2=0):SA (ff r l).1:=by
 have hlen:=E6 h.len he
 have hs0:=h.s0
 revert he hlen
 unfold ff
 by_cases h0:r.st=0
 ·rw[if_pos h0]
  intro he _
  have hn:=JE (by decide) (of_decide_eq_true (TO he))
  have hl:=h.early (by omega)
  exact⟨h.k0,h.k3,λ_=>hn,λh2=>absurd h2 (by show ¬2≤r.st+1;omega),h.len,λl hl2=>(by rw[show ({r.T with ni:=fG _ [46,105] 0 8}:Tb).ls=[] from hl]at hl2;cases hl2),λ_=>hl,by show 0≤r.st+1;omega⟩
 rw[if_neg h0]
 by_cases h1:r.st=1
 ·rw[if_pos h1]
  intro he _
  have hn:=JE (by decide) (of_decide_eq_true (TO he))
  have hl:=h.early (by omega)
  exact⟨h.k0,h.k3,λ_=>h.i (by omega),λ_=>hn,h.len,λl hl2=>(by rw[show ({r.T with no:=fG _ [46,111] 1 4}:Tb).ls=[] from hl]at hl2;cases hl2),λ_=>hl,by show 0≤r.st+1;omega⟩
 rw[if_neg h1]
 by_cases h5:r.st=5
 ·rw[if_pos h5]
  intro he
  cases he
 rw[if_neg h5]
 have hi:=h.i (by omega)
 have ho:=h.o (by omega)
 by_cases hp:Lib.hasPrefix l gT=true∧r.st=2
 ·rw[if_pos hp]
  have hl:=h.early (by omega)
  cases hk:Ar (Lib.trimPrefix l gT)with
  |none=>intro he;cases he
  |some k=>
   intro _ _
   have hk3:k≤3:=by
    unfold Ar at hk
    repeat' split at hk
    all_goals first|(cases hk;decide)|cases hk
   exact⟨show (0:Int)≤(k:Int)by omega,show (k:Int)≤3 by omega,λ_=>hi,λ_=>ho,h.len,h.all,λ_=>hl,show (0:Int)≤3 by decide⟩
 rw[if_neg hp]
 by_cases hn:fG l [46,112] 0 64≥0∧r.st≤3
 ·rw[if_pos hn]
  intro _ _
  exact⟨h.k0,h.k3,λ_=>hi,λ_=>ho,h.len,h.all,λh4=>absurd h4 (show ¬(4:Int)<4 by decide),show (0:Int)≤4 by decide⟩
 rw[if_neg hn]
 by_cases he:l=[46,101]
 ·rw[if_pos he]
  intro _ _
  exact⟨h.k0,h.k3,λ_=>hi,λ_=>ho,h.len,h.all,λh4=>absurd h4 (show ¬(5:Int)<4 by decide),show (0:Int)≤5 by decide⟩
 rw[if_neg he]
 by_cases hr:gw r.T.ni r.T.no l=true
 ·rw[if_pos hr]
  intro _ hlen
  refine⟨h.k0,h.k3,λ_=>hi,λ_=>ho,hlen,λx hx=> ?_,λh4=>absurd h4 (show ¬(4:Int)<4 by decide),show (0:Int)≤4 by decide⟩
  rcases aah.1 hx with hx|hx
  ·exact h.all x hx
  ·rw[aaL]at hx
   rw[hx]
   exact Ly hr
 ·rw[if_neg hr]
  intro he
  cases he
theorem Hg {ls:List (List UInt8)}:∀k,k≤ls.length→(∀q,q<k→lx (iz ls q) (ls.getD q [])=0)→SA (iz ls k)
 |0,_,_=>by
  rw[EY]
  exact⟨by decide,by decide,λh=>absurd h (by decide),λh=>absurd h (by decide),by decide,λl hl=>(by cases hl),λ_=>rfl,by decide⟩
 |k+1,hk,hq=>by
  have ih:=Hg k (by omega) (λq h=>hq q (by omega))
  have he:=hq k (by omega)
  rw[mD (by omega)]
  cases hs:oO (ls.getD k [])with
  |true=>rw[(jh hs).1];exact ih
  |false=>rw[(fH hs).1];rw[(fH hs).2]at he;exact ih.take he
end
section
variable {s:List UInt8}
theorem ro (s:List UInt8):((cF s).2.2≠0∧(cF s).1=P3)∨((cF s).2.2=0∧(cF s).2.1=0∧fy (cF s).1=true):=by
 by_cases h8:8000<s.length
 ·rw[yt h8];exact .inl ⟨by decide,rfl⟩
 ·have hn:(cN s).length=((cN s).length-1)+1:=by have:=acp.2 (l7 s);omega
  cases hb:Cx (cN s) ((cN s).length-1)with
  |some k=>
   have e:cF s=(P3,k,lx (iz (cN s) k) ((cN s).getD k [])):=by
    unfold cF
    rw[if_neg h8,hb]
   rw[e]
   unfold Cx at hb
   have:=List.find?_some hb
   exact .inl ⟨by simpa using this,rfl⟩
  |none=>
   have hq:=K4 hb
   by_cases he:(cN s).getD ((cN s).length-1) []=[]
   ·by_cases h5:(iz (cN s) ((cN s).length-1)).st=5
    ·rw[Dv h8 hn hq he h5]
     refine .inr ⟨rfl,rfl,?_⟩
     have hR:=Hg ((cN s).length-1) (by omega) hq
     have hi:=hR.i (by omega)
     have ho:=hR.o (by omega)
     unfold fy
     rw[decide_eq_true ⟨hR.k0,hR.k3,hi.1,hi.2,ho.1,ho.2,hR.len⟩,abu]
     exact aa2.2 hR.all
    ·rw[yr h8 hn hq he h5];exact .inl ⟨show (7:Int)≠0 by decide,rfl⟩
   ·rw[zM h8 hn hq he];exact .inl ⟨show (2:Int)≠0 by decide,rfl⟩
theorem F0 (h:(cF s).2.2=0):fy (cF s).1=true:=by
 rcases ro s with ⟨h1,_⟩|⟨_,_,h2⟩
 ·exact absurd h h1
 ·exact h2
theorem FZ {T:Tb} (h:fy T=true):∀i,i<T.ls.length→(T.ls.getD i jE).c.m<256∧(T.ls.getD i jE).c.v<256:=λi hi=>by
 obtain⟨h1,_⟩:=nJ.1 (pr h hi)
 obtain⟨_,h8,hm,hv⟩:=du.1 h1
 have h2:2^T.ni.toNat≤256:=by
  have:=aa8 (show 0<2 by decide) (show T.ni.toNat≤8 by omega)
  simpa using this
 have h3:(T.ls.getD i jE).c.v≤(T.ls.getD i jE).c.m:=by rw[←hv];exact aci
 omega
theorem zV (s:List UInt8):∀i,i<(cF s).1.ls.length→((cF s).1.ls.getD i jE).c.m<256∧((cF s).1.ls.getD i jE).c.v<256:=by
 rcases ro s with ⟨_,h⟩|⟨_,_,h⟩
 ·rw[h];intro i hi;cases hi
 ·exact FZ h
end
def gP (T:Tb):List (List UInt8):=
 [[46,105]++32::ir T.ni.toNat,[46,111]++32::ir T.no.toNat,gT++gn.getD T.kind.toNat [],[46,112]++32::ir T.ls.length]++(T.ls.map (vS T.ni)++[[46,101]])
theorem yP:∀(a b:List UInt8),(10:UInt8)∉a→cN (a++10::b)=a::cN b
 |[],b,_=>by rw[abG,cN,if_pos rfl]
 |c::a,b,h=>by
  have h1:c≠10:=λe=>h U6
  rw[abR,cN,if_neg h1,yP a b (λe=>h (abf _ e))]
theorem yH:∀(ls:List (List UInt8)),(∀l,l∈ls→(10:UInt8)∉l)→cN (ls.flatMap λl=>l++[10])=ls++[[]]
 |[],_=>rfl
 |l::ls,h=>by
  rw[abv,abm,List.singleton_append,yP l _ (h l aa9),yH ls (λx hx=>h x (abf _ hx))]
  rfl
theorem uq (T:Tb):∀k,k≤T.ls.length→jb T k=Gy T++((T.ls.take k).map (vS T.ni)).flatMap λl=>l++[10]
 |0,_=>by simp[jb]
 |k+1,hk=>by
  rw[jb,uq T k (by omega),abt,we (by omega),ace,List.flatMap_append,me,we (by omega)]
  simp
theorem Ej (T:Tb):iV T=(gP T).flatMap λl=>l++[10]:=by
 unfold iV gP
 rw[uq T _ (am _),aa7]
 unfold Gy gT
 simp
theorem zH (n:Nat) (h:n<100):(10:UInt8)∉ir n:=by
 have:∀n,n<100→(10:UInt8)∉ir n:=by decide+kernel
 exact this n h
theorem Mj {T:Tb} (h:fy T=true):∀l,l∈gP T→(10:UInt8)∉l:=by
 obtain⟨hk0,hk3,hi0,hi8,ho1,ho4,h64⟩:=iR h
 intro l hl
 unfold gP at hl
 simp only[aah,abl,aa6,List.not_mem_nil,or_false]at hl
 rcases hl with (rfl|rfl|rfl|rfl)|(⟨x,hx,rfl⟩|rfl)
 ·have:=zH T.ni.toNat (by omega);simp[this]
 ·have:=zH T.no.toNat (by omega);simp[this]
 ·obtain⟨q,hq⟩:=abj hk0
  rw[hq,so]
  have h4:q<4:=by omega
  unfold gT
  match q,h4 with
  |0,_|1,_|2,_|3,_=>decide
 ·have:=zH T.ls.length (by omega);simp[this]
 ·unfold vS Ay
  intro hm
  simp only[aah,aaL]at hm
  rcases hm with (hm|hm)|hm
  ·obtain⟨i,_,e⟩:=aa6.1 hm
   have:=Ds x.c.m x.c.v i
   rw[e]at this;cases this
  ·cases hm
  ·obtain⟨y,hy,e⟩:=aa6.1 hm
   unfold HS at e
   split at e
   ·cases e
   ·split at e<;>cases e
 ·decide
section
variable {T:Tb} {r:Rd}
theorem ym {word:List UInt8} {n:Nat} {lo hi:Int} (hn:n<100) (h1:lo≤(n:Int)) (h2:(n:Int)≤hi):fG (word++32::ir n) word lo hi=(n:Int):=by
 unfold fG
 rw[sm hn rfl]
 simp only
 rw[if_pos ⟨h1,h2⟩]
theorem Iv {b:Bool} (h:b=true):JS b=0:=by rw[h];rfl
theorem sr (l:List UInt8):oO (46::l)=false:=rfl
theorem LJ (h:fy T=true):∃r,((gP T).take 4).foldl kX Ik=r∧r=⟨⟨T.kind,T.ni,T.no,[]⟩,4,(T.ls.length:Int)⟩∧lx Ik ((gP T).getD 0 [])=0∧
  lx (kX Ik ((gP T).getD 0 [])) ((gP T).getD 1 [])=0∧lx (kX (kX Ik ((gP T).getD 0 [])) ((gP T).getD 1 [])) ((gP T).getD 2 [])=0∧
  lx (kX (kX (kX Ik ((gP T).getD 0 [])) ((gP T).getD 1 [])) ((gP T).getD 2 [])) ((gP T).getD 3 [])=0:=by
 obtain⟨hk0,hk3,hi0,hi8,ho1,ho4,h64⟩:=iR h
 obtain⟨qk,hqk⟩:=abj hk0
 have a0:ff Ik ([46,105]++32::ir T.ni.toNat)=(⟨⟨1,T.ni,0,[]⟩,1,-1⟩,0):=by
  rw[Uy rfl,ym (by omega) (by omega) (by omega),show ((T.ni.toNat:Nat):Int)=T.ni by omega,Iv (decide_eq_true hi0)]
  rfl
 have a1:ff ⟨⟨1,T.ni,0,[]⟩,1,-1⟩ ([46,111]++32::ir T.no.toNat)=(⟨⟨1,T.ni,T.no,[]⟩,2,-1⟩,0):=by
  rw[VB (show ¬(1:Int)=0 by decide) rfl,ym (by omega) (by omega) (by omega),show ((T.no.toNat:Nat):Int)=T.no by omega,Iv (decide_eq_true (by omega))]
  rfl
 have a2:ff ⟨⟨1,T.ni,T.no,[]⟩,2,-1⟩ (gT++gn.getD T.kind.toNat [])=(⟨⟨T.kind,T.ni,T.no,[]⟩,3,-1⟩,0):=by
  rw[Vf (i:=qk) (show ¬(2:Int)=0 by decide) (show ¬(2:Int)=1 by decide) (show ¬(2:Int)=5 by decide) (mt.2 ⟨_,rfl⟩) rfl (by omega) (by rw[pO,hqk];rfl),hqk]
 have a3:ff ⟨⟨T.kind,T.ni,T.no,[]⟩,3,-1⟩ ([46,112]++32::ir T.ls.length)=(⟨⟨T.kind,T.ni,T.no,[]⟩,4,(T.ls.length:Int)⟩,0):=by
  rw[Vt (show ¬(3:Int)=0 by decide) (show ¬(3:Int)=1 by decide) (show ¬(3:Int)=5 by decide) (λe=>absurd e.2 (show ¬(3:Int)=2 by decide)) (by rw[ym (by omega) (by omega) (by omega)];omega) (show (3:Int)≤3 by decide),ym (by omega) (by omega) (by omega)]
 have s0:=fH (r:=Ik) (sr ([105]++32::ir T.ni.toNat))
 have s1:=fH (r:=⟨⟨1,T.ni,0,[]⟩,1,-1⟩) (sr ([111]++32::ir T.no.toNat))
 have s2:=fH (r:=⟨⟨1,T.ni,T.no,[]⟩,2,-1⟩) (sr ([116,121,112,101,32]++gn.getD T.kind.toNat []))
 have s3:=fH (r:=⟨⟨T.kind,T.ni,T.no,[]⟩,3,-1⟩) (sr ([112]++32::ir T.ls.length))
 have e0:kX Ik ((gP T).getD 0 [])=⟨⟨1,T.ni,0,[]⟩,1,-1⟩:=s0.1.trans (congrArg Prod.fst a0)
 have e1:kX ⟨⟨1,T.ni,0,[]⟩,1,-1⟩ ((gP T).getD 1 [])=⟨⟨1,T.ni,T.no,[]⟩,2,-1⟩:=s1.1.trans (congrArg Prod.fst a1)
 have e2:kX ⟨⟨1,T.ni,T.no,[]⟩,2,-1⟩ ((gP T).getD 2 [])=⟨⟨T.kind,T.ni,T.no,[]⟩,3,-1⟩:=s2.1.trans (congrArg Prod.fst a2)
 have e3:kX ⟨⟨T.kind,T.ni,T.no,[]⟩,3,-1⟩ ((gP T).getD 3 [])=⟨⟨T.kind,T.ni,T.no,[]⟩,4,(T.ls.length:Int)⟩:=s3.1.trans (congrArg Prod.fst a3)
 refine⟨_,rfl,?_,s0.2.trans (congrArg Prod.snd a0),?_,?_,?_⟩
 ·show kX (kX (kX (kX Ik ((gP T).getD 0 [])) ((gP T).getD 1 [])) ((gP T).getD 2 [])) ((gP T).getD 3 [])=_
  rw[e0,e1,e2,e3]
 ·rw[e0];exact s1.2.trans (congrArg Prod.snd a1)
 ·rw[e0,e1];exact s2.2.trans (congrArg Prod.snd a2)
 ·rw[e0,e1,e2];exact s3.2.trans (congrArg Prod.snd a3)
theorem Nv {l:Ln} {ni:Int}:∃c r,vS ni l=c::r∧c≠46∧c≠35:=by
 unfold vS Ay qx
 cases h:ni.toNat with
 |zero=>exact⟨32,lH l.os,rfl,by decide,by decide⟩
 |succ k=>
  rw[List.range_succ_eq_map]
  have:=Ds l.c.m l.c.v 0
  refine⟨D7 l.c.m l.c.v 0,_,by rw[ab8,abR,abR],λe=> ?_,λe=> ?_⟩<;>rw[e]at this<;>cases this
theorem Cd {l:Ln} (hl:pE T.ni T.no l=true) (hn:0≤T.ni) {ls:List Ln} (hlen:ls.length<64) {told:Int}:
  kX ⟨⟨T.kind,T.ni,T.no,ls⟩,4,told⟩ (vS T.ni l)=⟨⟨T.kind,T.ni,T.no,ls++[l]⟩,4,told⟩∧lx ⟨⟨T.kind,T.ni,T.no,ls⟩,4,told⟩ (vS T.ni l)=0:=by
 obtain⟨c,rest,hc,h46,h35⟩:=Nv (l:=l) (ni:=T.ni)
 obtain⟨h1,h2⟩:=Sm hl hn
 have hsk:oO (vS T.ni l)=false:=by
  rw[hc]
  refine mR fD λe=>h35 ?_
  have:c.toNat=35:=by
   have e2:((fZ (c::rest) 0:Nat):Int)=(c.toNat:Int):=rfl
   omega
  exact UInt8.toNat.inj this
 have hne:¬vS T.ni l=[46,101]:=by rw[hc];intro e;exact h46 (abT e).1
 have hnum:fG (vS T.ni l) [46,112] 0 64= -1:=by
  unfold fG
  rw[nu λk _ e=>h46 (by rw[hc]at e;exact(abT e).1)]
 have hk:=Qc (r:=⟨⟨T.kind,T.ni,T.no,ls⟩,4,told⟩) (l:=vS T.ni l) (show ¬(4:Int)=0 by decide) (show ¬(4:Int)=1 by decide) (show ¬(4:Int)=5 by decide) (λe=>absurd e.2 (show ¬(4:Int)=2 by decide)) (λe=>absurd e.2 (show ¬(4:Int)≤3 by decide)) hne h1
 have hs:=fH (r:=⟨⟨T.kind,T.ni,T.no,ls⟩,4,told⟩) hsk
 rw[hk]at hs
 refine⟨hs.1.trans ?_,hs.2.trans ?_⟩
 ·simp only[h2]
 ·exact if_neg (by show ¬ls.length=64;omega)
theorem SY (a b:List (List UInt8)) (k:Nat) (hk:k≤b.length):iz (a++b) (a.length+k)=(b.take k).foldl kX (iz a a.length):=by
 unfold iz
 rw[List.take_length_add_append,List.foldl_append,aa7]
theorem wa (a b:List (List UInt8)) (k:Nat):(a++b).getD (a.length+k) []=b.getD k []:=by
 simp only[me]
 rw[abz (by omega),Nat.add_sub_cancel_left]
theorem BL (h:fy T=true) (told:Int):∀k,k≤T.ls.length→((T.ls.map (vS T.ni)).take k).foldl kX ⟨⟨T.kind,T.ni,T.no,[]⟩,4,told⟩=⟨⟨T.kind,T.ni,T.no,T.ls.take k⟩,4,told⟩
 |0,_=>rfl
 |k+1,hk=>by
  obtain⟨_,_,hi0,_,_,_,h64⟩:=iR h
  have hl:=pr h (show k<T.ls.length by omega)
  rw[abt,ab0,we (by omega),List.foldl_append,BL h told k (by omega)]
  rw[me,we (show k<T.ls.length by omega)]at hl
  have:=(Cd hl hi0 (ls:=T.ls.take k) Ht (told:=told)).1
  rw[abt,we (by omega)]
  exact this
theorem yQ (h:fy T=true):(iV T).length≤1000:=by
 obtain⟨_,_,_,_,_,_,h64⟩:=iR h
 have:=oH h T.ls.length (am _)
 unfold iV
 simp only[An,aa5,abU]
 omega
theorem E5 (h:fy T=true):cF (iV T)=(T,0,0):=by
 obtain⟨hk0,hk3,hi0,hi8,ho1,ho4,h64⟩:=iR h
 have hL:cN (iV T)=gP T++[[]]:=by rw[Ej];exact yH _ (Mj h)
 have hlen:(gP T).length=T.ls.length+5:=by unfold gP;simp
 have hn:(cN (iV T)).length=(T.ls.length+5)+1:=by rw[hL,An,hlen];rfl
 obtain⟨r,hr,hre,q0,q1,q2,q3⟩:=LJ h
 have hsplit:gP T=(gP T).take 4++(T.ls.map (vS T.ni)++[[46,101]]):=rfl
 have hget:∀q,q<T.ls.length+5→(cN (iV T)).getD q []=(gP T).getD q []:=λq hq=>by
  rw[hL]
  simp only[me]
  rw[abL (by omega)]
 have hrd:∀q,q≤T.ls.length+5→iz (cN (iV T)) q=iz (gP T) q:=λq hq=>by
  unfold iz
  rw[hL,acK (by omega)]
 have hrow:∀k,k≤T.ls.length→iz (gP T) (4+k)=⟨⟨T.kind,T.ni,T.no,T.ls.take k⟩,4,(T.ls.length:Int)⟩:=λk hk=>by
  have e4:iz ((gP T).take 4) 4=r:=by unfold iz;rw[←hr];rfl
  have:=SY ((gP T).take 4) (T.ls.map (vS T.ni)++[[46,101]]) k iw
  rw[←hsplit]at this
  have e5:((gP T).take 4).length=4:=rfl
  rw[e5,e4,hre,acK (by simpa using hk),BL h _ k hk]at this
  exact this
 have hlast:ff ⟨T,4,(T.ls.length:Int)⟩ [46,101]=(⟨T,5,(T.ls.length:Int)⟩,0):=by
  rw[Rn (show ¬(4:Int)=0 by decide) (show ¬(4:Int)=1 by decide) (show ¬(4:Int)=5 by decide) (λe=>absurd e.2 (show ¬(4:Int)=2 by decide)) (λe=>absurd e.2 (show ¬(4:Int)≤3 by decide)) rfl]
  rw[Iv fD]
 have hall:iz (gP T) (4+T.ls.length)=⟨T,4,(T.ls.length:Int)⟩:=by rw[hrow _ (am _),aa7]
 have hgl:(gP T).getD (4+T.ls.length) []=[46,101]:=by
  have e:gP T=((gP T).take 4++T.ls.map (vS T.ni))++[[46,101]]:=rfl
  rw[e]
  have:=wa ((gP T).take 4++T.ls.map (vS T.ni)) [[46,101]] 0
  have e2:((gP T).take 4++T.ls.map (vS T.ni)).length=4+T.ls.length:=by simp[gP];omega
  rw[e2]at this
  exact this
 have hfin:iz (gP T) (T.ls.length+5)=⟨T,5,(T.ls.length:Int)⟩:=by
  rw[show T.ls.length+5=(4+T.ls.length)+1 by omega,mD (by omega),hall,hgl,(fH (sr [101])).1,hlast]
 have hq:∀q,q<T.ls.length+5→lx (iz (cN (iV T)) q) ((cN (iV T)).getD q [])=0:=λq hq=>by
  rw[hget q hq,hrd q (by omega)]
  have r1:iz (gP T) 1=kX Ik ((gP T).getD 0 []):=rfl
  have r2:iz (gP T) 2=kX (kX Ik ((gP T).getD 0 [])) ((gP T).getD 1 []):=rfl
  have r3:iz (gP T) 3=kX (kX (kX Ik ((gP T).getD 0 [])) ((gP T).getD 1 [])) ((gP T).getD 2 []):=rfl
  by_cases h4:q<4
  ·match q,h4 with
   |0,_=>exact q0
   |1,_=>rw[r1];exact q1
   |2,_=>rw[r2];exact q2
   |3,_=>rw[r3];exact q3
  ·obtain⟨k,rfl⟩:∃k,q=4+k:=⟨q-4,by omega⟩
   by_cases hk:k<T.ls.length
   ·rw[hrow k (by omega)]
    have hl:=pr h hk
    have hg:(gP T).getD (4+k) []=vS T.ni (T.ls.getD k jE):=by
     have:=wa ((gP T).take 4) (T.ls.map (vS T.ni)++[[46,101]]) k
     rw[←hsplit]at this
     refine this.trans ?_
     simp only[me]
     rw[abL (by simpa using hk),ab0,we hk]
     rfl
    rw[hg]
    exact(Cd hl hi0 (ls:=T.ls.take k) Ht).2
   ·obtain rfl:k=T.ls.length:=by omega
    rw[hall,hgl,(fH (sr [101])).2,hlast]
 have hend:(cN (iV T)).getD (T.ls.length+5) []=[]:=by
  rw[hL]
  have:=wa (gP T) [[]] 0
  rw[hlen]at this
  exact this
 have hT:=yQ h
 rw[Dv (by omega) hn hq hend (by rw[hrd _ (am _),hfin]),hrd _ (am _),hfin]
end
end
section
open Go Go.RowKit
def s8 (T:Tb) (o:Nat) (m:Int):Nat→Nat
 |0=>0
 |k+1=>if (T.ls.getD k jE).os.getD o 0=m then s8 T o m k ||| qU (T.ls.getD k jE).c.m (T.ls.getD k jE).c.v T.ni.toNat else s8 T o m k
def nW (T:Tb) (o:Nat) (m:Int):Nat:=s8 T o m T.ls.length
def MF (k:Int) (all ones nz fr:Nat):Nat:=if k=0 then ones else if k=1 then ones ||| fr else andNot all nz
def AJ (T:Tb) (o:Nat):Nat:=MF T.kind (fm T.ni.toNat) (nW T o 1) (nW T o 0) (nW T o 2)
def nT (T:Tb) (o:Nat):Bool:=decide (2≤T.kind)&&decide (nW T o 1 &&& nW T o 0≠0)
def pg (T:Tb) (k:Nat):List Nat:=(List.range k).map λo=>nW T o 1
def lK (T:Tb) (k:Nat):List Nat:=(List.range k).map (AJ T)
def eg (T:Tb):Sp:=⟨T.ni,pg T T.no.toNat,lK T T.no.toNat⟩
def oo (T:Tb):Int:=if fy T=true then (if (List.range T.no.toNat).any (nT T)=true then 4 else 0)else 1
section
variable {T:Tb} {o k p:Nat} {m:Int}
theorem Vl (h:(T.ls.getD k jE).os.getD o 0=m):s8 T o m k ||| qU (T.ls.getD k jE).c.m (T.ls.getD k jE).c.v T.ni.toNat=s8 T o m (k+1):=(if_pos h).symm
theorem Nm (h:¬(T.ls.getD k jE).os.getD o 0=m):s8 T o m k=s8 T o m (k+1):=(if_neg h).symm
theorem vi (hn:T.ni.toNat≤8) (p:Nat):∀k,(s8 T o m k).testBit p=true↔p<2^T.ni.toNat∧∃j,j<k∧(T.ls.getD j jE).os.getD o 0=m∧hold (T.ls.getD j jE).c p
 |0=>by simp[s8]
 |k+1=>by
  have ih:=vi hn p k
  rw[s8]
  split
  ·rename_i h
   rw[abI,abF,ih,jr hn,th,decide_eq_true_eq,decide_eq_true_eq]
   constructor
   ·rintro(⟨h1,j,hj,r⟩|⟨h1,h2⟩)
    ·exact⟨h1,j,by omega,r⟩
    ·exact⟨h1,k,by omega,h,h2⟩
   ·rintro⟨h1,j,hj,r⟩
    rcases aaK.1 hj with hj|rfl
    ·exact .inl ⟨h1,j,hj,r⟩
    ·exact .inr ⟨h1,r.2⟩
  ·rename_i h
   rw[ih]
   constructor
   ·rintro⟨h1,j,hj,r⟩;exact⟨h1,j,by omega,r⟩
   ·rintro⟨h1,j,hj,r⟩
    rcases aaK.1 hj with hj|rfl
    ·exact⟨h1,j,hj,r⟩
    ·exact absurd r.1 h
theorem J1 (h:fy T=true):T.ni.toNat≤8:=by obtain⟨_,_,_,h8,_⟩:=iR h;omega
theorem MH (hn:T.ni.toNat≤8) (hp:256≤p):(s8 T o m k).testBit p=false:=aa0.2 λh=>by
 have h1:=((vi hn p k).1 h).1
 have h2:2^T.ni.toNat≤256:=by
  have:=aa8 (show 0<2 by decide) hn
  simpa using this
 omega
theorem Og (hn:T.ni.toNat≤8):nW T o m<2^256:=gF.2 λj hj=>MH hn hj
theorem Gz {s:Nat} (h:s<2^256):(((wd s 0:Nat):Int)=((wd 0 0:Nat):Int)∧((wd s 1:Nat):Int)=((wd 0 1:Nat):Int)∧((wd s 2:Nat):Int)=((wd 0 2:Nat):Int)∧((wd s 3:Nat):Int)=((wd 0 3:Nat):Int))↔s=0:=by
 constructor
 ·rintro⟨h0,h1,h2,h3⟩
  exact Rk h (by decide) (by omega) (by omega) (by omega) (by omega)
 ·rintro rfl;exact⟨rfl,rfl,rfl,rfl⟩
theorem Nu {a b:Nat} (h:a<2^256):a &&& b<2^256:=abr Nat.and_le_left h
theorem RH (h2:2≤T.kind) (hn:T.ni.toNat≤8) (h:¬(((wd (nW T o 1 &&& nW T o 0) 0:Nat):Int)=((wd 0 0:Nat):Int)∧((wd (nW T o 1 &&& nW T o 0) 1:Nat):Int)=((wd 0 1:Nat):Int)∧((wd (nW T o 1 &&& nW T o 0) 2:Nat):Int)=((wd 0 2:Nat):Int)∧((wd (nW T o 1 &&& nW T o 0) 3:Nat):Int)=((wd 0 3:Nat):Int))):nT T o=true:=by
 unfold nT
 rw[decide_eq_true h2,abu]
 exact decide_eq_true λe=>h ((Gz (Nu (Og hn))).2 e)
theorem Ra (hn:T.ni.toNat≤8) (h:¬¬(((wd (nW T o 1 &&& nW T o 0) 0:Nat):Int)=((wd 0 0:Nat):Int)∧((wd (nW T o 1 &&& nW T o 0) 1:Nat):Int)=((wd 0 1:Nat):Int)∧((wd (nW T o 1 &&& nW T o 0) 2:Nat):Int)=((wd 0 2:Nat):Int)∧((wd (nW T o 1 &&& nW T o 0) 3:Nat):Int)=((wd 0 3:Nat):Int))):nT T o=false:=by
 unfold nT
 rw[decide_eq_false (p:=nW T o 1 &&& nW T o 0≠0) λe=>e ((Gz (Nu (Og hn))).1 (aaN h)),abq]
theorem Jo (h:¬2≤T.kind):nT T o=false:=by unfold nT;rw[decide_eq_false h,abD]
theorem K0 (T:Tb) (k:Nat):pg T (k+1)=pg T k++[nW T k 1]:=by simp[pg,List.range_succ]
theorem HM (T:Tb) (k:Nat):lK T (k+1)=lK T k++[AJ T k]:=by simp[lK,List.range_succ]
theorem ku (T:Tb) (k:Nat):(pg T k).length=k:=by simp[pg]
theorem qd (T:Tb) (k:Nat):(lK T k).length=k:=by simp[lK]
theorem FI (T:Tb) {n:Nat} (h:k<n):(pg T n).getD k 0=nW T k 1:=by simp[pg,h]
theorem Bl (T:Tb) {n:Nat} (h:k<n):(lK T n).getD k 0=AJ T k:=by simp[lK,h]
theorem YU (h:¬fy T=true):oo T=1:=if_neg h
theorem YM (h:fy T=true) (ho:o<T.no.toNat) (hc:nT T o=true):oo T=4:=by
 unfold oo;rw[if_pos h,if_pos (abH.2 ⟨o,aba.2 ho,hc⟩)]
theorem Mf (h:fy T=true) (hc:∀o,o<T.no.toNat→nT T o=false):oo T=0:=by
 unfold oo
 rw[if_pos h,if_neg]
 intro k
 obtain⟨o,ho,h2⟩:=abH.1 k
 rw[hc o (aba.1 ho)]at h2;cases h2
theorem O3:oo T=0↔fy T=true∧∀o,o<T.no.toNat→nT T o=false:=by
 constructor
 ·intro h
  unfold oo at h
  split at h
  ·rename_i h1
   refine⟨h1,λo ho=>aa0.2 λhc=> ?_⟩
   rw[if_pos (abH.2 ⟨o,aba.2 ho,hc⟩)]at h
   cases h
  ·cases h
 ·rintro⟨h1,h2⟩;exact Mf h1 h2
theorem I4 (h:fy T=true) (hc:nT T o=false) (p:Nat):((nW T o 1).testBit p=true→(AJ T o).testBit p=true)∧((AJ T o).testBit p=true→p<2^T.ni.toNat):=by
 have hn:=J1 h
 have hb:∀m,(nW T o m).testBit p=true→p<2^T.ni.toNat:=λm hm=>((vi hn p _).1 hm).1
 unfold AJ MF
 by_cases h0:T.kind=0
 ·rw[if_pos h0];exact⟨id,hb 1⟩
 rw[if_neg h0]
 by_cases h1:T.kind=1
 ·rw[if_pos h1,abI,abF]
  exact⟨.inl,λq=>q.elim (hb 1) (hb 2)⟩
 rw[if_neg h1,d4,fk,th,decide_eq_true_eq]
 refine⟨λq=>⟨hb 1 q,?_⟩,λq=>q.1⟩
 obtain⟨hk0,_⟩:=iR h
 unfold nT at hc
 rw[decide_eq_true (show 2≤T.kind by omega),abu]at hc
 have hz:=aaN (of_decide_eq_false hc)
 have h2:(nW T o 1 &&& nW T o 0).testBit p=false:=by rw[hz];exact abx p
 rw[aa3,q,abu]at h2
 rw[h2];rfl
theorem md (h:oo T=0):dt (eg T)=true:=by
 obtain⟨h1,h2⟩:=O3.1 h
 obtain⟨hk0,hk3,hi0,hi8,ho1,ho4,h64⟩:=iR h1
 refine dz.2 ⟨hi0,hi8,?_,?_,?_,λk hk=> ?_⟩
 ·show 1≤(pg T _).length;rw[ku];omega
 ·show (pg T _).length≤4;rw[ku];omega
 ·show (pg T _).length=(lK T _).length;rw[ku,qd]
 ·have hk2:k<T.no.toNat:=by rw[show (eg T).on=pg T T.no.toNat from rfl,ku]at hk;exact hk
  have e1:AC (eg T) k=nW T k 1:=FI T hk2
  have e2:kg (eg T) k=AJ T k:=Bl T hk2
  rw[e1,e2,dL,dL]
  refine⟨λp _ q=>(I4 h1 (h2 k hk2) p).1 q,λp _ q=> ?_⟩
  rw[fk]
  exact decide_eq_true ((I4 h1 (h2 k hk2) p).2 q)
end
section
variable {T:Tb} {o k n p:Nat} {os:List Int}
end
theorem ua {a:Int} {u v:Value} (hu:u.oneCell'=true) (hv:v.oneCell'=true):(#[Value.int .i64 a,u,v]:Array Value).toList.all Value.oneCell'=true:=by
 simp only[ab1,acD,hu,hv]
 rfl
def SQ (f0 f1 f2:Nat) (k:Int):Nat:=if k=0 then f0 else if k=1 then f1 else f2
section
variable {P:Program} {f:Nat→Value} {w:World} {d:Option Nat} {ty:TypeId} {ps:String} {af:Array Edge} {g:Option (Nat×Bool)} {x y:Operand}
theorem B4 {t e:TypeId} {fs:Array Field} {f0 f1 f2:Nat} {k:Int} (hx:dk f x= .agg #[.func (.func f0) #[] #[], .bool false, .func (.func f1) #[] #[], .bool false, .func (.func f2) #[] #[], .bool true, .func (.func f2) #[] #[], .bool true]) (hy:dk f y= .int .i64 k)
  (ht:P.underlying t=some (.array 4 e)) (he:P.underlying e=some (.struct fs)) (hc:(P.info? e).map (·.size)=some 2) (h0:0≤k) (h3:k≤3):
  (execOp (dk f) ⟨d, .index t x y,ty,ps,af,g⟩).run P w= .ok (.value (.agg #[.func (.func (SQ f0 f1 f2 k)) #[] #[], .bool (decide (2≤k))])) w:=by
 obtain⟨i,hi,hs⟩:=an.1 hc
 have hk:k=0∨k=1∨k=2∨k=3:=by omega
 rcases hk with rfl|rfl|rfl|rfl<;>simp[execOp,hx,hy,Instr.index,run_underlying ht,run_underlying he,asIntOf,sizeOf,typeInfo,hi,hs,part,isAgg,SQ]
end
end
section
open Go Go.RowKit
def N0 (ops:Array Oper) (Ls:List (Array Bool)):List (Array Bool):=(Ls.flatMap λL=>(Region.ready .any ops L).map λi=>L.setIfInBounds i true).eraseDups
def H8 (ops:Array Oper) (A:List Nat) (L1:Array Bool):Nat→List (Array Bool)→Bool
 |0,Ls=>Ls.all λL=>L==L1
 |m+1,Ls=>(Ls.all λL=> !(Region.ready .any ops L).isEmpty&&(Region.ready .any ops L).all λi=>A.contains i)&&H8 ops A L1 m (N0 ops Ls)
section
variable {P:Program} {n:Nat} {ops:Array Oper} {Q:(Nat→Value)→World→Prop} {S:World→Prop} {f0:Nat→Value}
theorem FJ {T:List Nat} {g:Nat→Value} {d:Nat} {v:Value} (hd:pc T d=true):updo (mask T f0 g) (some d) v=mask T f0 (upd g d v):=by
 funext t
 show cond (Nat.beq t d) v (mask T f0 g t)=cond (pc T t) (cond (Nat.beq t d) v (g t)) (f0 t)
 cases e:Nat.beq t d with
 |true=>
  obtain rfl:=Nat.eq_of_beq_eq_true e
  rw[hd];rfl
 |false=>rfl
theorem BO {T:List Nat}:mask T f0 f0=f0:=by
 funext t
 unfold mask
 cases pc T t<;>rfl
theorem zN {A:List Nat} {L1:Array Bool} {T:List Nat} {k:Nat} (I:Array Bool→(Nat→Value)→World→Prop)
  (hstep:∀i,A.contains i=true→∀L g w,i<L.size→I L g w→∃oi d,ops[i]? =some oi∧gf ops (mask T f0 g) oi=true∧oi.dst=some d∧jU n (some d)=true∧pc T d=true∧
   Yd P oi (mask T f0 g) w λv w'=>(S w'∨mO ops L i=true)∧I (L.setIfInBounds i true) (upd g d v) w')
  (hfin:∀g w,I L1 g w→WT P n ops Q S k L1 (mask T f0 g) w):
  ∀(m:Nat) (Ls:List (Array Bool)),H8 ops A L1 m Ls=true→∀L,L∈Ls→∀g w,I L g w→WT P n ops Q S (k+m) L (mask T f0 g) w
 |0,Ls,h,L,hL,g,w,hI=>by
  have e:L=L1:=by
   have:=aa2.1 h L hL
   exact eq_of_beq this
  subst e
  exact hfin g w hI
 |m+1,Ls,h,L,hL,g,w,hI=>by
  rw[H8,th]at h
  have h1:=aa2.1 h.1 L hL
  rw[th]at h1
  refine⟨λhsz hcl a ha=>⟨λh0=>(by rw[h0]at h1;exact absurd h1.1 (by decide)),λj hj=> ?_⟩⟩
  have hA:=aa2.1 h1.2 j hj
  have hjlt:j<L.size:=by
   obtain⟨_,oj,hoj,_⟩:=mem_ready.1 hj
   rw[hsz];exact(acs.1 hoj).1
  obtain⟨oi,d,hi,hw,hd,hok,hT,hY⟩:=hstep j hA L g w hjlt hI
  refine EV (K:=λf' w'=>(S w'∨mO ops L j=true)∧WT P n ops Q S (k+m) (L.setIfInBounds j true) f' w') hi hw hd hok ha
   (λf' a' w' hr' hk=>⟨hk.1,hk.2.out (by simpa using hsz) (hcl.add hj) a' hr'⟩) (hY.mono λv w' hv=>⟨hv.1,?_⟩)
  rw[FJ hT]
  refine zN I hstep hfin m _ h.2 _ ?_ _ _ hv.2
  unfold N0
  rw[List.mem_eraseDups]
  exact acN.2 ⟨L,hL,aa6.2 ⟨j,hj,rfl⟩⟩
theorem UV {A:List Nat} {L0 L1:Array Bool} {T:List Nat} {k m:Nat} {w:World} (I:Array Bool→(Nat→Value)→World→Prop) (hc:H8 ops A L1 m [L0]=true) (h0:I L0 f0 w)
  (hstep:∀i,A.contains i=true→∀L g w,i<L.size→I L g w→∃oi d,ops[i]? =some oi∧gf ops (mask T f0 g) oi=true∧oi.dst=some d∧jU n (some d)=true∧pc T d=true∧
   Yd P oi (mask T f0 g) w λv w'=>(S w'∨mO ops L i=true)∧I (L.setIfInBounds i true) (upd g d v) w')
  (hfin:∀g w,I L1 g w→WT P n ops Q S k L1 (mask T f0 g) w):WT P n ops Q S (k+m) L0 f0 w:=by
 have:=zN (f0:=f0) (T:=T) I hstep hfin m [L0] hc L0 (aaL.2 rfl) f0 w h0
 rwa [BO]at this
theorem Fk {f f':Nat→Value} {w:World} {k:Nat} {L:Array Bool} (e:f=f') (h:WT P n ops Q S k L f' w):WT P n ops Q S k L f w:=by rw[e];exact h
theorem Cl {T:List Nat} {g:Nat→Value} (l:List (Nat×Value)) (h:ri (mask T f0 g) l):mask T f0 g=updL l (mask T f0 (mask T f0 g)):=xP (dD.mask T f0 g) l h
theorem Wt {L:Array Bool} {i j:Nat} (h:(L.setIfInBounds i true).getD j false=true):j=i∨L.getD j false=true:=by
 rcases rk.1 h with ⟨e,_⟩|h
 ·exact .inl e
 ·exact .inr h
theorem dZ {L:Array Bool} {i j:Nat} (hne:j≠i) (h:(L.setIfInBounds i true).getD j false=true):L.getD j false=true:=(Wt h).resolve_left hne
end
end
end Go.Proofs.YtedeonkjellcpaaGreatDoor
