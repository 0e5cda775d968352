/- Words and walks of the row. No condition. -/
import Derived.Test.YtedeonkjellcpaaGreatDoorWAll
namespace Go.Proofs.YtedeonkjellcpaaGreatDoor
open Go Go.RowKit
set_option autoImplicit true
set_option relaxedAutoImplicit true
set_option linter.unusedVariables false
set_option linter.unusedSimpArgs false
section
theorem gn:eb Tryz.prog 59 0=some 0:=by kernel_rfl
theorem fw:eb Tryz.prog 59 1=some 1:=by kernel_rfl
theorem eh:eN Tryz.prog 57=true:=by kernel_rfl
theorem dQ:fj Tryz.prog 57=some (40,4,32):=by kernel_rfl
theorem fE:eb Tryz.prog 59 2=some 2:=by kernel_rfl
theorem JG:cY Tryz.prog 134=true:=by kernel_rfl
theorem VJ:cY Tryz.prog 19=true:=by kernel_rfl
theorem S7:cY Tryz.prog 135=true:=by kernel_rfl
theorem d9:kn Tryz.prog 59=some 3:=by kernel_rfl
theorem oN:cY Tryz.prog 100=true:=by kernel_rfl
theorem fG:eb Tryz.prog 158 1=some 2:=by kernel_rfl
theorem gD:eb Tryz.prog 158 0=some 0:=by kernel_rfl
theorem Dz:cY Tryz.prog 199=true:=by kernel_rfl
theorem dM:fj Tryz.prog 83=some (158,3,3):=by kernel_rfl
theorem dY:kn Tryz.prog 158=some 3:=by kernel_rfl
theorem jP:d4 Tryz.prog 158=some (.agg #[.int .u8 0, .int .u8 0, .int .u8 0]):=by kernel_rfl
theorem ij:(d4 Tryz.prog 158).map (λz=>z.cells.size)=some 3:=by kernel_rfl
theorem Uh:cY Tryz.prog 229=true:=by kernel_rfl
theorem ud:cY Tryz.prog 83=true:=by kernel_rfl
theorem Sk:cY Tryz.prog 227=true:=by kernel_rfl
theorem kG (h0:dm f x0= .agg #[c0_0,c0_1]) (h1:dm f x1=c1_0) (k1:c1_0.cells= #[c1_0]):
    (execOp (dm f) ⟨d, .build 158 #[(0,x0),(1,x1)],ty,ps,af,g⟩).run Tryz.prog w= .ok (.value (.agg #[c0_0,c0_1,c1_0])) w:=by
  obtain⟨i0,hi0,hz0⟩:=we.1 (show (Tryz.prog.info? 158).bind (·.zero)=_ from jP)
  obtain⟨j5,hj5,hs5⟩:=an.1 pM
  obtain⟨j34,hj34,hs34⟩:=an.1 pw
  simp[execOp,h0,h1,k1,Instr.build,zeroValue,typeInfo,sizeOf,hi0,hz0,run_underlying Tryz.underlying158,Instr.fill,d7,hj5,hs5,hj34,hs34]
theorem RM:cY Tryz.prog 228=true:=by kernel_rfl
theorem C1:cY Tryz.prog 197=true:=by kernel_rfl
theorem C4:
    (execOp (dm f) ⟨d, .build 158 #[],ty,ps,af,g⟩).run Tryz.prog w= .ok (.value (.agg #[.int .u8 0, .int .u8 0, .int .u8 0])) w:=by
  obtain⟨i0,hi0,hz0⟩:=we.1 (show (Tryz.prog.info? 158).bind (·.zero)=_ from jP)
  obtain⟨j5,hj5,hs5⟩:=an.1 pM
  obtain⟨j34,hj34,hs34⟩:=an.1 pw
  simp[execOp,Instr.build,zeroValue,typeInfo,sizeOf,hi0,hz0,run_underlying Tryz.underlying158,Instr.fill,d7,hj5,hs5,hj34,hs34]
theorem qQ (S:Sp) (onV mayV:Value) (w:World) (hon:dr eX 4 w onV S.on) (hmay:dr eX 4 w mayV S.may):
    Fn Tryz.prog 85 #[.agg #[.int .i64 S.n,onV,mayV]] w λv w'=>v= .bool (dt S):=by
 refine cK (n:=65) Tryz.func85 rfl rfl rfl λhB=> ?_
 refine Zr<|Zy (du (c:= #[_,_,_]) rfl rfl λo W3 H p a=> ?_)
 replace hB:=Ze hB p
 refine Zb rfl<|ct<|Zq<|Zr<|Zf rfl gn<|Zl rfl cR a rfl<|Zv (dq rfl rfl)<|ZX rfl (λr=> ?_) λr=> ?_
 refine Zs<|Zs<|Zs<|Zb rfl<|Zb rfl<|Zs<|Zs<|Zs<|Zs<|Zb rfl<|Zb rfl<|Zs<|Zs<|Zs ?_
 refine Zs<|Zb rfl<|Zb rfl<|Zs<|Zs<|Zs<|Zs<|Zs<|Zs<|Zs<|Zb rfl<|ct<|cN rfl<|Zr ?_
 refine Zb rfl<|ct<|Zt<|cZ (v:= .bool false) rfl ⟨hB,?_⟩
 exact nF Om
 refine Zf rfl gn<|Zl rfl cR a rfl<|Zv (gQ rfl rfl)<|Zb rfl<|ZX rfl (λs=> ?_) λs=> ?_
 refine Zs<|Zs<|Zs<|Zs<|Zb rfl<|Zb rfl<|Zs<|Zs<|Zs<|Zs<|Zb rfl<|Zb rfl<|Zs<|Zs ?_
 refine Zs<|Zs<|Zs<|Zs<|Zs<|Zb rfl<|ct<|cN rfl<|Zr<|Zb rfl<|ct<|Zt<|cZ (v:= .bool false) rfl ⟨hB,?_⟩
 exact nF Om
 refine Zf rfl fw<|ZL onV rfl eh a rfl<|Zv (db (v:=onV) rfl (Below.slT hB hon) dQ)<|Zv (dq rfl rfl)<|Zb rfl<|ZX rfl (λt=> ?_) λt=> ?_
 refine Zs<|Zs<|Zs<|Zs<|Zb rfl<|Zb rfl<|Zs<|Zs<|Zs<|Zs<|Zs<|Zs<|Zs<|Zb rfl ?_
 refine ct<|cN rfl<|Zr<|Zb rfl<|ct<|Zt<|cZ (v:= .bool false) rfl ⟨hB,?_⟩
 exact nF Om
 refine Zf rfl fw<|ZL onV rfl eh a rfl<|Zv (db (v:=onV) rfl (Below.slT hB hon) dQ)<|Zv (gQ rfl rfl)<|Zb rfl<|ZX rfl (λu=> ?_) λu=> ?_
 refine Zs<|Zs<|Zs<|Zs<|Zs<|Zs<|Zs<|Zb rfl<|ct<|cN rfl<|Zr<|Zb rfl<|ct<|Zt ?_
 refine cZ (v:= .bool false) rfl ⟨hB,?_⟩
 exact nF Om
 refine Zf rfl fE<|ZL mayV rfl eh a rfl<|Zv (db (v:=mayV) rfl (Below.slT hB hmay) dQ)<|Zf rfl fw<|ZL onV rfl eh a rfl<|Zv (db (v:=onV) rfl (Below.slT hB hon) dQ)<|Zv (eV rfl rfl)<|Zb rfl<|ct<|ZQ rfl (λx=> ?_) λx=> ?_
 refine Zr<|Zb rfl<|ct<|Zt<|cZ (v:= .bool false) rfl ⟨hB,?_⟩
 exact nF Om
 refine cx<|Zq<|Zr<|ZZ rfl<|cy ?_
 refine cW (σ:=(Nat)) [2,3,33,64] (λk=>[(3, .int .i64 (k:Int))]) (λk W=>(Below w.heap.size w W)∧(At W o _ 59)∧(k≤S.on.length)∧(∀q,q<k→dW (zn S q) (jZ S q)=true∧dW (jZ S q) (fk S.n.toNat)=true)∧(True)) (λk=>S.on.length-k) (0) ⟨rfl,trivial⟩ ⟨hB,a,(me _),eO,trivial⟩ ?_
 rintro k I J ⟨hB,a,hk,hq,_⟩ K y
 refine Zq<|Zr<|Zi rfl<|Zf rfl fw<|ZL onV rfl eh a rfl<|Zv (db (v:=onV) rfl (Below.slT hB hon) dQ)<|Zv (dq rfl rfl)<|ct<|ZQ rfl (λz=> ?_) λz=> ?_
 refine cx<|Zq<|cy ?_
 have h0:0≤S.n:=by omega
 have h8:S.n≤8:=by omega
 refine Zd dA λA B=> ?_
 obtain⟨hB,a⟩:=B.k2 hB a
 have hS:=dA.refl A
 refine Tf 0 rfl rfl fw hS<|Tk 1 rfl (λ_ hq=>cD (v:=onV) rfl eh (At.cell (hq.at a) rfl)) hS<|Ti 2 rfl rfl hS<|Tk 3 rfl (λ_ hq=>dp (v:=onV) rfl (hq.slT (Below.slT hB hon)) rfl dQ Om (by omega)) hS<|Tk 4 rfl (λ_ hq=>eI rfl cC (dr.cell (hq.slT (Below.slT hB hon)) dk 0 Om (by omega) 0 rfl) (dr.cell (hq.slT (Below.slT hB hon)) dk 0 Om (by omega) 1 rfl) (dr.cell (hq.slT (Below.slT hB hon)) dk 0 Om (by omega) 2 rfl) (dr.cell (hq.slT (Below.slT hB hon)) dk 0 Om (by omega) 3 rfl)) hS<|Tf 5 rfl rfl fE hS<|Tk 6 rfl (λ_ hq=>cD (v:=mayV) rfl eh (At.cell (hq.at a) rfl)) hS<|Ti 7 rfl rfl hS<|Tk 8 rfl (λ_ hq=>dp (v:=mayV) rfl (hq.slT (Below.slT hB hmay)) rfl dQ Om (by omega)) hS<|Tk 9 rfl (λ_ hq=>eI rfl cC (dr.cell (hq.slT (Below.slT hB hmay)) dk 0 Om (by omega) 0 rfl) (dr.cell (hq.slT (Below.slT hB hmay)) dk 0 Om (by omega) 1 rfl) (dr.cell (hq.slT (Below.slT hB hmay)) dk 0 Om (by omega) 2 rfl) (dr.cell (hq.slT (Below.slT hB hmay)) dk 0 Om (by omega) 3 rfl)) hS<|To 10 rfl (TC (vs:=[.agg #[_,_,_,_], .agg #[_,_,_,_]]) JG (lr _ _ _) rfl λL M d C=>⟨.inl (hS.trans d),?_⟩)
 have b:=hB
 have m:=a
 obtain⟨hB,a⟩:=d.k2 hB a
 replace hS:=hS.trans d
 obtain rfl:=C
 refine Tk 11 rfl (λ_ _=>eK rfl) hS<|Tx 12 rfl (λ_ _=>jV (v:= .bool _) rfl) hS (λe=> ?_) λe=> ?_
 refine Tp 13 rfl hS<|Tp 14 rfl hS<|Tp 15 rfl hS<|Tp 16 rfl hS<|Tp 17 rfl hS<|Tp 18 rfl hS<|Tp 19 rfl hS<|Tp 20 rfl hS<|Tp 21 rfl hS<|Tp 22 rfl hS<|Tp 23 rfl hS<|Ty 24 rfl rfl hS<|Td<|cN rfl ?_
 refine Zr<|Zb rfl<|ct<|Zt<|cZ (v:= .bool false) rfl ⟨hB,?_⟩
 exact yC (k:=k) Om (λh=>Bool.noConfusion (h.1.symm.trans (kh e)))
 refine Tf 13 rfl rfl fE hS<|Tk 14 rfl (λ_ hq=>cD (v:=mayV) rfl eh (At.cell (hq.at m) rfl)) hS<|Ti 15 rfl rfl hS<|Tk 16 rfl (λ_ hq=>dp (v:=mayV) rfl (hq.slT (Below.slT b hmay)) rfl dQ Om (by omega)) hS<|Tk 17 rfl (λ_ hq=>eI rfl cC (dr.cell (hq.slT (Below.slT b hmay)) dk 0 Om (by omega) 0 rfl) (dr.cell (hq.slT (Below.slT b hmay)) dk 0 Om (by omega) 1 rfl) (dr.cell (hq.slT (Below.slT b hmay)) dk 0 Om (by omega) 2 rfl) (dr.cell (hq.slT (Below.slT b hmay)) dk 0 Om (by omega) 3 rfl)) hS<|Tf 18 rfl rfl gn hS<|Tk 19 rfl (λ_ hq=>cD (v:= .int .i64 _) rfl cR (At.cell (hq.at m) rfl)) hS<|To 20 rfl (TC VJ (rU _ _ pr pr) rfl λD N f g=>⟨.inl (hS.trans f),?_⟩)
 have E:=(Below.size hB)
 obtain⟨hB,a⟩:=f.k2 hB a
 replace hS:=hS.trans f
 replace g:=cH.mono g E
 refine To 21 rfl (TC (vs:=[D]) S7 (rI _ _ _ g.sl (y6 _)) rfl λO P i F=>⟨.inl (hS.trans i),?_⟩)
 obtain⟨hB,a⟩:=i.k2 hB a
 replace hS:=hS.trans i
 obtain rfl:=F
 refine To 22 rfl (TC (vs:=[.agg #[_,_,_,_], .agg #[_,_,_,_]]) JG (lr _ _ _) rfl λQ R j G=>⟨.inl (hS.trans j),?_⟩)
 obtain⟨hB,a⟩:=j.k2 hB a
 replace hS:=hS.trans j
 obtain rfl:=G
 refine Tk 23 rfl (λ_ _=>eK rfl) hS<|Ty 24 rfl rfl hS<|Td<|ZQ rfl (λl=> ?_) λl=> ?_
 refine Zr<|Zb rfl<|ct<|Zt<|cZ (v:= .bool false) rfl ⟨hB,?_⟩
 exact yC (k:=k) Om (λh=>Bool.noConfusion (h.2.symm.trans ((xf h8).symm.trans (kh l))))
 refine cx<|cI<|Zi rfl<|Zv (d5 rfl rfl Om Om)<|ZZ rfl ?_
 exact y _ _ (k+1) Za ⟨rfl,trivial⟩ ⟨hB,a,Om,(dT hq ⟨lA e,by rw[←xf h8];exact lA l⟩),trivial⟩ Zo
 refine cT<|Zr<|Zb rfl<|ct<|Zt<|cZ (v:= .bool true) rfl ⟨hB,?_⟩
 obtain rfl:k=S.on.length:=by omega
 exact Kn Om hq
theorem iQ (S:Sp) (onV mayV:Value) (w:World) (hon:dr eX 4 w onV S.on) (hmay:dr eX 4 w mayV S.may):
    Fn Tryz.prog 100 #[.agg #[.int .i64 S.n,onV,mayV]] w λv w'=>v= .bool (dt S):=by
 refine cK (n:=63) Tryz.func100 rfl rfl rfl λhB=> ?_
 refine Zr<|Zy (du (c:= #[_,_,_]) rfl rfl λs W3 V t a=> ?_)
 replace hB:=Ze hB t
 refine Zb rfl<|ct<|Zr<|Zf rfl gn<|Zl rfl cR a rfl<|ZC wO (nQ _ _) rfl λX W8 u x=> ?_
 obtain⟨hB,a⟩:=u.k2 hB a
 obtain⟨sa,er,rfl,hhP1_2⟩:=sM x
 refine Zw (.tuple #[.agg #[_,_,_,_], .int .i64 _]) rfl<|Zv (c7 rfl)<|Zv (da rfl)<|Zy (cM ep rfl λo y z A b=> ?_)
 have B:=ZO z hB
 obtain⟨hB,a⟩:=A.k2 hB a
 replace b:At y o #[wv 0 0,wv 0 1,wv 0 2,wv 0 3] 40:=b
 refine Zy (cA rfl rfl cC rfl b rfl rfl λY p C=> ?_)
 replace hB:=Zg hB p B
 replace a:=At.grownAt a b p Dd
 replace b:=C
 refine ZZ rfl<|Zq<|Zr<|Zi rfl<|Zv (eV rfl rfl)<|ZX rfl (λf=> ?_) λf=> ?_
 refine Zs<|Zs<|Zs<|Zs<|Zb rfl<|Zb rfl<|Zs<|Zs<|Zs<|Zs<|Zb rfl<|Zb rfl<|Zs<|Zs ?_
 refine Zs<|Zs<|Zs<|Zs<|Zs<|Zb rfl<|ct<|cN rfl<|Zr<|Zb rfl<|ct<|Zt<|cZ (v:= .bool false) rfl ⟨hB,?_⟩
 exact nF (λh=>XM hhP1_2 f ⟨h.1,h.2.1⟩)
 refine Zf rfl fw<|ZL onV rfl eh a rfl<|Zv (db (v:=onV) rfl (Below.slT hB hon) dQ)<|Zv (dq rfl rfl)<|Zb rfl<|ZX rfl (λD=> ?_) λD=> ?_
 refine Zs<|Zs<|Zs<|Zs<|Zb rfl<|Zb rfl<|Zs<|Zs<|Zs<|Zs<|Zs<|Zs<|Zs<|Zb rfl ?_
 refine ct<|cN rfl<|Zr<|Zb rfl<|ct<|Zt<|cZ (v:= .bool false) rfl ⟨hB,?_⟩
 exact nF Om
 refine Zf rfl fw<|ZL onV rfl eh a rfl<|Zv (db (v:=onV) rfl (Below.slT hB hon) dQ)<|Zv (gQ rfl rfl)<|Zb rfl<|ZX rfl (λE=> ?_) λE=> ?_
 refine Zs<|Zs<|Zs<|Zs<|Zs<|Zs<|Zs<|Zb rfl<|ct<|cN rfl<|Zr<|Zb rfl<|ct<|Zt ?_
 refine cZ (v:= .bool false) rfl ⟨hB,?_⟩
 exact nF Om
 refine Zf rfl fw<|ZL onV rfl eh a rfl<|Zv (db (v:=onV) rfl (Below.slT hB hon) dQ)<|Zf rfl fE<|ZL mayV rfl eh a rfl<|Zv (db (v:=mayV) rfl (Below.slT hB hmay) dQ)<|Zv (eV rfl rfl)<|Zb rfl<|ct<|ZQ rfl (λF=> ?_) λF=> ?_
 refine Zr<|Zb rfl<|ct<|Zt<|cZ (v:= .bool false) rfl ⟨hB,?_⟩
 exact nF Om
 refine cx<|Zq ?_
 obtain⟨h0,h8,rfl⟩:=zx hhP1_2 f
 refine Zr<|Zf rfl fw<|ZL onV rfl eh a rfl<|Zv (db (v:=onV) rfl (Below.slT hB hon) dQ)<|ZZ rfl<|cy ?_
 refine cW (σ:=(Nat)) [2,2,5,6,39,62] (λk=>[(39, .int .i64 (k:Int))]) (λk W=>(Below w.heap.size w W)∧(At W s _ 59)∧(At W o _ 40)∧(k≤S.on.length)∧(∀q,q<k→dW (zn S q) (jZ S q)=true∧dW (jZ S q) (fk S.n.toNat)=true)∧(True)) (λk=>S.on.length-k) (0) ⟨rfl,trivial⟩ ⟨hB,a,b,(me _),eO,trivial⟩ ?_
 rintro k Z aa ⟨hB,a,b,hk,hq,_⟩ ab G
 refine Zr<|Zv (dq rfl rfl)<|ct<|Zq<|ZQ rfl (λH=> ?_) λH=> ?_
 refine cx<|Zq<|cy<|Zr<|Zi rfl<|Zv (dp (v:=onV) rfl (Below.slT hB hon) rfl dQ Om (by omega))<|Zv (eI rfl cC (dr.cell (Below.slT hB hon) dk 0 Om (by omega) 0 rfl) (dr.cell (Below.slT hB hon) dk 0 Om (by omega) 1 rfl) (dr.cell (Below.slT hB hon) dk 0 Om (by omega) 2 rfl) (dr.cell (Below.slT hB hon) dk 0 Om (by omega) 3 rfl))<|Zy (cM ep rfl λI J r K d=> ?_)
 have L:=ZO r hB
 have M:=Zn r b.lt
 obtain⟨hB,a,b⟩:=K.k3 hB a b
 replace d:At J I #[wv 0 0,wv 0 1,wv 0 2,wv 0 3] 40:=d
 refine Zi rfl<|Zy (cA rfl rfl cC rfl d rfl rfl λac g N=> ?_)
 replace hB:=Zg hB g L
 replace a:=At.grownAt a d g Dd
 replace b:=At.grownNe b M g
 replace d:=N
 refine ct<|Zd dA λO P=> ?_
 obtain⟨hB,a,b,d⟩:=P.k4 hB a b d
 have hS:=dA.refl O
 refine Tk 0 rfl (λ_ hq=>cz rfl cC rfl (hq.at d)) hS<|Tf 1 rfl rfl fE hS<|Tk 2 rfl (λ_ hq=>cD (v:=mayV) rfl eh (At.cell (hq.at a) rfl)) hS<|Ti 3 rfl rfl hS<|Tk 4 rfl (λ_ hq=>dp (v:=mayV) rfl (hq.slT (Below.slT hB hmay)) rfl dQ Om (by omega)) hS<|Tk 5 rfl (λ_ hq=>eI rfl cC (dr.cell (hq.slT (Below.slT hB hmay)) dk 0 Om (by omega) 0 rfl) (dr.cell (hq.slT (Below.slT hB hmay)) dk 0 Om (by omega) 1 rfl) (dr.cell (hq.slT (Below.slT hB hmay)) dk 0 Om (by omega) 2 rfl) (dr.cell (hq.slT (Below.slT hB hmay)) dk 0 Om (by omega) 3 rfl)) hS<|To 6 rfl (TC (vs:=[.agg #[_,_,_,_], .agg #[_,_,_,_]]) po (gS _ _ _) rfl λad ae i Q=>⟨.inl (hS.trans i),?_⟩)
 have e:=hB
 have R:=a
 have T:=b
 obtain⟨hB,a,b⟩:=i.k3 hB a b
 replace hS:=hS.trans i
 obtain rfl:=Q
 refine Tk 7 rfl (λ_ _=>eK rfl) hS<|Tx 8 rfl (λ_ _=>jV (v:= .bool _) rfl) hS (λj=> ?_) λj=> ?_
 refine Tp 9 rfl hS<|Tp 10 rfl hS<|Tp 11 rfl hS<|Tp 12 rfl hS<|Tp 13 rfl hS<|Tp 14 rfl hS<|Tp 15 rfl hS<|Tp 16 rfl hS<|Ty 17 rfl rfl hS<|Td<|cN rfl<|Zr<|Zb rfl<|ct ?_
 refine Zt<|cZ (v:= .bool false) rfl ⟨hB,?_⟩
 exact yC (k:=k) Om (λh=>Bool.noConfusion (h.1.symm.trans (kh j)))
 refine Tf 9 rfl rfl fE hS<|Tk 10 rfl (λ_ hq=>cD (v:=mayV) rfl eh (At.cell (hq.at R) rfl)) hS<|Ti 11 rfl rfl hS<|Tk 12 rfl (λ_ hq=>dp (v:=mayV) rfl (hq.slT (Below.slT e hmay)) rfl dQ Om (by omega)) hS<|Tk 13 rfl (λ_ hq=>eI rfl cC (dr.cell (hq.slT (Below.slT e hmay)) dk 0 Om (by omega) 0 rfl) (dr.cell (hq.slT (Below.slT e hmay)) dk 0 Om (by omega) 1 rfl) (dr.cell (hq.slT (Below.slT e hmay)) dk 0 Om (by omega) 2 rfl) (dr.cell (hq.slT (Below.slT e hmay)) dk 0 Om (by omega) 3 rfl)) hS<|Tk 14 rfl (λ_ hq=>cz rfl cC rfl (hq.at T)) hS<|To 15 rfl (TC (vs:=[.agg #[_,_,_,_], .agg #[_,_,_,_]]) po (gS _ _ _) rfl λaf ag l U=>⟨.inl (hS.trans l),?_⟩)
 obtain⟨hB,a,b⟩:=l.k3 hB a b
 replace hS:=hS.trans l
 obtain rfl:=U
 refine Tk 16 rfl (λ_ _=>eK rfl) hS<|Ty 17 rfl rfl hS<|Td<|ZQ rfl (λm=> ?_) λm=> ?_
 refine Zr<|Zb rfl<|ct<|Zt<|cZ (v:= .bool false) rfl ⟨hB,?_⟩
 exact yC (k:=k) Om (λh=>Bool.noConfusion (h.2.symm.trans (kh m)))
 refine cx<|ZT rfl rfl rfl ?_
 exact G _ _ (k+1) Za ⟨rfl,trivial⟩ ⟨hB,a,b,Om,(dT hq ⟨lA j,lA m⟩),trivial⟩ Zo
 refine cT<|Zr<|Zb rfl<|ct<|Zt<|cZ (v:= .bool true) rfl ⟨hB,?_⟩
 obtain rfl:k=S.on.length:=by omega
 exact Kn Om hq
theorem qA (S:Sp) (onV mayV:Value) (c:Cb) (w:World) (hon:dr eX 4 w onV S.on) (hmay:dr eX 4 w mayV S.may) (hc:c.m<256∧c.v<256) (hl:S.may.length≤7):
    Fn Tryz.prog 199 #[.agg #[.int .i64 S.n,onV,mayV], .agg #[.int .u8 (c.m:Int), .int .u8 (c.v:Int)]] w λv w'=>v= .int .u8 ((qZ S c:Nat):Int):=by
 refine cK (n:=27) Tryz.func199 rfl rfl rfl λhB=> ?_
 refine Zr<|Zy (du (c:= #[_,_,_]) rfl rfl λh W3 A i a=> ?_)
 replace hB:=Ze hB i
 refine Zy (du (c:= #[_,_]) rfl rfl λj W6 B l b=> ?_)
 obtain⟨hB,a⟩:=l.k2 hB a
 refine ZZ rfl<|Zr<|ZZ rfl<|Zq<|Zr<|Zf rfl fE<|ZL mayV rfl eh a rfl<|Zv (db (v:=mayV) rfl (Below.slT hB hmay) dQ)<|ZZ rfl<|cy ?_
 refine cW (σ:=(Nat)) [5,7,11,25] (λk=>[(11, .int .i64 (k:Int)),(5, .int .u8 ((mh S c k:Nat):Int))]) (λk W=>(Below w.heap.size w W)∧(At W h _ 59)∧(At W j _ 34)∧(k≤S.may.length)∧(True)) (λk=>S.may.length-k) (0) ⟨rfl,rfl,trivial⟩ ⟨hB,a,b,(me _),trivial⟩ ?_
 rintro k C D ⟨hB,a,b,hk,_⟩ E g
 refine Zr<|Zv (dq rfl rfl)<|ct<|Zq<|ZQ rfl (λo=> ?_) λo=> ?_
 refine cx<|Zq<|cy<|Zr<|Zi rfl<|Zv (dp (v:=mayV) rfl (Below.slT hB hmay) rfl dQ Om (by omega))<|Zv (eI rfl cC (dr.cell (Below.slT hB hmay) dk 0 Om (by omega) 0 rfl) (dr.cell (Below.slT hB hmay) dk 0 Om (by omega) 1 rfl) (dr.cell (Below.slT hB hmay) dk 0 Om (by omega) 2 rfl) (dr.cell (Below.slT hB hmay) dk 0 Om (by omega) 3 rfl))<|Zy (cM ep rfl λp r s t d=> ?_)
 have u:=ZO s hB
 obtain⟨hB,a,b⟩:=t.k3 hB a b
 replace d:At r p #[wv 0 0,wv 0 1,wv 0 2,wv 0 3] 40:=d
 refine Zi rfl<|Zy (cA rfl rfl cC rfl d rfl rfl λF e x=> ?_)
 replace hB:=Zg hB e u
 replace a:=At.grownAt a d e Dd
 replace b:=At.grownAt b d e Dd
 replace d:=x
 refine ct<|Zr<|Zv (cz rfl dh rfl b)<|Zv (cz rfl cC rfl d)<|Zf rfl gn<|Zl rfl cR a rfl<|ZC (vs:=[.agg #[_,_], .agg #[_,_,_,_], .int .i64 _]) D3 (n7 c.m c.v _ _ _ hc.1 hc.2) rfl λG H y z=> ?_
 obtain⟨hB,a,b⟩:=y.k3 hB a b
 obtain rfl:=z
 refine ct<|ZQ rfl (λf=> ?_) λf=> ?_
 have hlt:=wV S c k
 have h7:=Eb (show k<8 by omega)
 refine cI<|Zi rfl<|Zi rfl<|Zv (jK (m:=1) rfl rfl Om (by simp only[IntKind.bits];omega) yW)<|Zv (Bk (n:=_) rfl rfl rfl pX yW)<|ZZ rfl<|ZT rfl rfl rfl ?_
 exact g _ _ (k+1) Za ⟨rfl,(by exact congrArg (λq:Nat=>Value.int .u8 (q:Int)) (Vs f)),trivial⟩ ⟨hB,a,b,Om,trivial⟩ Zo
 refine cx<|ZT rfl rfl rfl ?_
 exact g _ _ (k+1) Za ⟨rfl,(by exact congrArg (λq:Nat=>Value.int .u8 (q:Int)) (VQ f)),trivial⟩ ⟨hB,a,b,Om,trivial⟩ Zo
 refine cT<|Zr<|Zi rfl<|ZZ rfl<|Zt<|cZ (v:= .int .u8 _) rfl ⟨hB,?_⟩
 obtain rfl:k=S.may.length:=by omega
 rfl
theorem ox (S:Sp) (onV mayV:Value) (m u o:Nat) (w:World) (hon:dr eX 4 w onV S.on) (hmay:dr eX 4 w mayV S.may) (hm:m<256) (hv:u<256) (ho:o<256):
    Fn Tryz.prog 197 #[.agg #[.int .i64 S.n,onV,mayV], .agg #[.int .u8 (m:Int), .int .u8 (u:Int), .int .u8 (o:Int)]] w λv w'=>v= .bool (rF S ⟨⟨m,u⟩,o⟩):=by
 refine cK (n:=22) Tryz.func197 rfl rfl rfl λhB=> ?_
 refine Zr<|Zy (du (c:= #[_,_,_]) rfl rfl λt W3 x i a=> ?_)
 replace hB:=Ze hB i
 refine Zy (du (c:= #[_,_,_]) rfl rfl λy W6 z j e=> ?_)
 obtain⟨hB,a⟩:=j.k2 hB a
 refine Zb rfl<|ct<|Zd dA λl p=> ?_
 obtain⟨hB,a,e⟩:=p.k3 hB a e
 have hS:=dA.refl l
 refine Tk 0 rfl (λ_ hq=>cz rfl d9 rfl (hq.at a)) hS<|To 1 rfl (TC (vs:=[.agg #[_,_,_]]) oN (iQ S _ _ _ (Below.slT hB hon) (Below.slT hB hmay)) rfl λA B f q=>⟨.inl (hS.trans f),?_⟩)
 have r:=a
 have d:=e
 replace hB:=Ze hB f
 replace hS:=hS.trans f
 obtain rfl:=q
 refine Tx 2 rfl (λ_ _=>jV (v:= .bool _) rfl) hS (λb=> ?_) λb=> ?_
 refine Tf 3 rfl rfl fG hS<|Tk 4 rfl (λ_ hq=>cD (v:= .int .u8 _) rfl dN (At.cell (hq.at d) rfl)) hS<|Tk 5 rfl (λ_ _=>gQ rfl rfl) hS<|Ty 6 rfl rfl hS<|Tx 7 rfl (λ_ _=>jV (v:= .bool _) rfl) hS (λg=> ?_) λg=> ?_
 refine Tf 8 rfl rfl fG hS<|Tk 9 rfl (λ_ hq=>cD (v:= .int .u8 _) rfl dN (At.cell (hq.at d) rfl)) hS<|Tk 10 rfl (λ_ hq=>cz rfl d9 rfl (hq.at r)) hS<|Tf 11 rfl rfl gD hS<|Tk 12 rfl (λ_ hq=>io rfl dh (At.cell (hq.at d) rfl) (At.cell (hq.at d) rfl)) hS<|To 13 rfl (TC (vs:=[.agg #[_,_,_], .agg #[_,_]]) Dz (qA S _ _ ⟨m,u⟩ _ (Below.slT hB hon) (Below.slT hB hmay) ⟨hm,hv⟩ (by obtain⟨_,_,_,h4,h5,_⟩:=dw.1 b;omega)) rfl λC D h s=>⟨.inl (hS.trans h),?_⟩)
 replace hB:=Ze hB h
 replace hS:=hS.trans h
 obtain rfl:=s
 refine Tk 14 rfl (λ_ _=>rK (n:=_) rfl rfl rfl pr (by have h1:=wV S ⟨m,u⟩ S.may.length;have h2:=P0 (k:=S.may.length) (by obtain⟨_,_,_,h4,h5,_⟩:=dw.1 b;omega);show mh S ⟨m,u⟩ S.may.length<256;omega)) hS<|Tk 15 rfl (λ_ _=>dO rfl rfl) hS<|Ty 16 rfl rfl hS<|Ty 17 rfl rfl hS<|Td<|Zt<|cZ (v:= .bool _) rfl ⟨hB,?_⟩
 exact congrArg Value.bool (YC b g)
 refine Tp 8 rfl hS<|Tp 9 rfl hS<|Tp 10 rfl hS<|Tp 11 rfl hS<|Tp 12 rfl hS<|Tp 13 rfl hS<|Tp 14 rfl hS<|Tp 15 rfl hS<|Ty 16 rfl rfl hS<|Ty 17 rfl rfl hS<|Td<|Zt<|cZ (v:= .bool false) rfl ⟨hB,?_⟩
 exact x8 (ZA g)
 refine Tp 3 rfl hS<|Tp 4 rfl hS<|Tp 5 rfl hS<|Ty 6 rfl rfl hS<|Ty 7 rfl rfl hS<|Tp 8 rfl hS<|Tp 9 rfl hS<|Tp 10 rfl hS<|Tp 11 rfl hS<|Tp 12 rfl hS<|Tp 13 rfl hS<|Tp 14 rfl hS<|Tp 15 rfl hS<|Ty 16 rfl rfl hS ?_
 refine Ty 17 rfl rfl hS<|Td<|Zt<|cZ (v:= .bool false) rfl ⟨hB,?_⟩
 exact x8 (Z9 b)
theorem Bm (m u o m2 u2 o2:Nat) (w:World):
    Fn Tryz.prog 229 #[.agg #[.int .u8 (m:Int), .int .u8 (u:Int), .int .u8 (o:Int)], .agg #[.int .u8 (m2:Int), .int .u8 (u2:Int), .int .u8 (o2:Int)]] w λv w'=>v= .bool (EJ ⟨⟨m,u⟩,o⟩ ⟨⟨m2,u2⟩,o2⟩):=by
 refine cK (n:=38) Tryz.func229 rfl rfl rfl λhB=> ?_
 refine Zr<|Zy (du (c:= #[_,_,_]) rfl rfl λh W3 i f a=> ?_)
 replace hB:=Ze hB f
 refine Zy (du (c:= #[_,_,_]) rfl rfl λj W6 k g b=> ?_)
 obtain⟨hB,a⟩:=g.k2 hB a
 refine Zb rfl<|ct<|Zq<|cy<|Zr<|Zf rfl fG<|Zl rfl dN a rfl<|Zf rfl fG<|Zl rfl dN b rfl<|Zv (eV rfl rfl)<|Zb rfl<|ct<|ZQ rfl (λd=> ?_) λd=> ?_
 refine Zr<|Zf rfl fG<|Zl rfl dN a rfl<|Zf rfl fG<|Zl rfl dN b rfl<|Zv (dq rfl rfl)<|Zb rfl<|ct<|Zt<|cZ (v:= .bool _) rfl ⟨hB,?_⟩
 exact congrArg Value.bool (Ye d)
 refine Zr<|Zf rfl gD<|Zf rfl ey<|Zl rfl dN a rfl<|Zf rfl gD<|Zf rfl ey<|Zl rfl dN b rfl<|Zv (eV rfl rfl)<|Zb rfl<|ct<|ZQ rfl (λe=> ?_) λe=> ?_
 refine Zr<|Zf rfl gD<|Zf rfl ey<|Zl rfl dN a rfl<|Zf rfl gD<|Zf rfl ey<|Zl rfl dN b rfl<|Zv (dq rfl rfl)<|Zb rfl<|ct<|Zt<|cZ (v:= .bool _) rfl ⟨hB,?_⟩
 exact congrArg Value.bool (aaw d e)
 refine cx<|Zr<|Zf rfl gD<|Zf rfl fO<|Zl rfl dN a rfl<|Zf rfl gD<|Zf rfl fO<|Zl rfl dN b rfl<|Zv (dq rfl rfl)<|Zb rfl<|ct<|Zt<|cZ (v:= .bool _) rfl ?_
 refine⟨hB,?_⟩
 exact congrArg Value.bool (aai d e)
theorem pA (xa:Value) (l:List Rw) (q:Nat) (w:World) (hl:dr gz 3 w xa l) (hq:cY Tryz.prog q=true) (hdo:∀(m u o m2 u2 o2:Nat) (w:World),Fn Tryz.prog q #[.agg #[.int .u8 (m:Int), .int .u8 (u:Int), .int .u8 (o:Int)], .agg #[.int .u8 (m2:Int), .int .u8 (u2:Int), .int .u8 (o2:Int)]] w λv w'=>v= .bool (EJ ⟨⟨m,u⟩,o⟩ ⟨⟨m2,u2⟩,o2⟩)) (hlb:l.length≤2000000):
    Fn Tryz.prog 228 #[xa, .func (.func q) #[] #[]] w λv w'=>cH gz 3 158 w' w.heap.size v (fq l l.length):=by
 refine cK (n:=44) Tryz.func228 rfl rfl rfl λhB=> ?_
 refine Zr<|Zw (.slice none 0 0) rfl<|ct<|Zr<|Zw (.slice none 0 0) rfl<|ct<|Zq<|Zr<|Zw xa rfl<|Zv (db (v:=xa) rfl (Below.slT hB hl) dM)<|ZZ rfl<|cy ?_
 refine cW (σ:=(Nat)×(Value)) [5,5,7,8,11,42] (λ(k,v0)=>[(11, .int .i64 (k:Int)),(5,v0)]) (λsg W=>match sg with|(k,v0)=>(Below w.heap.size w W)∧(cH gz 3 158 W w.heap.size v0 (fq l k))∧(k≤l.length)∧(True)) (λ(k,v0)=>l.length-k) ((0, .slice none 0 0)) ⟨rfl,rfl,trivial⟩ ⟨hB,cH.nil,(me _),trivial⟩ ?_
 rintro⟨k,v0⟩ aj W9 ⟨hB,ho,hk,_⟩ ak L
 refine Zr<|Zv (dq rfl rfl)<|ct<|Zq<|ZQ rfl (λS=> ?_) λS=> ?_
 refine cx<|Zq<|cy ?_
 have hsl:=qq l k
 have hC:(fq l k).length≤jn v0:=(Sl.eqv ho.sl).2.1
 refine Zr<|Zv (dp (v:=xa) rfl (Below.slT hB hl) rfl dM Om (by omega))<|Zv (jb rfl dY (dr.cell (Below.slT hB hl) eC ⟨⟨0,0⟩,0⟩ Om (by omega) 0 rfl) (dr.cell (Below.slT hB hl) eC ⟨⟨0,0⟩,0⟩ Om (by omega) 1 rfl) (dr.cell (Below.slT hB hl) eC ⟨⟨0,0⟩,0⟩ Om (by omega) 2 rfl))<|Zy (cM jP rfl λM al O T f=> ?_)
 have U:=ZO O hB
 have V:=acm (b:=M) ho (aaR O.symm)
 obtain⟨hB,ho⟩:=T.k2 hB ho
 refine Zy (cA rfl rfl dY rfl f rfl rfl λao P X=> ?_)
 replace hB:=Zg hB P U
 replace ho:=ab3 ho V P
 replace f:=X
 refine ct<|Zr<|Zw v0 rfl<|Zv (db (v:=v0) rfl ho.sl dM)<|ZZ rfl<|Zq<|cy ?_
 refine cW (σ:=(Nat)) [8,8,17,30] (λi=>[(8, .int .i64 (i:Int))]) (λi W=>(Below w.heap.size w W)∧(cH gz 3 158 W w.heap.size v0 _)∧(At W M _ 158)∧(i≤(fq l k).length)∧(qu (fq l k) (l.getD k ⟨⟨0,0⟩,0⟩) (fq l k).length=qu (fq l k) (l.getD k ⟨⟨0,0⟩,0⟩) i)∧(True)) (λi=>i) ((fq l k).length) ⟨rfl,trivial⟩ ⟨hB,ho,f,(am _),rfl,trivial⟩ ?_
 rintro i ap aq ⟨hB,ho,f,hi,hp,_⟩ ar Y
 refine Zq<|Zd dA λZ aa=> ?_
 obtain⟨hB,ho,f⟩:=aa.k3 hB ho f
 have hS:=dA.refl Z
 refine Ti 0 rfl rfl hS<|Tk 1 rfl (λ_ _=>gQ rfl rfl) hS<|Tx 2 rfl (λ_ _=>jV (v:= .bool _) rfl) hS (λab=> ?_) λab=> ?_
 refine Tw 3 (.func (.func q) #[] #[]) rfl rfl hS<|Tk 4 rfl (λ_ hq=>cz rfl dY rfl (hq.at f)) hS<|Tw 5 v0 rfl rfl hS<|Ti 6 rfl rfl hS<|Tk 7 rfl (λ_ _=>jY rfl rfl Om Om) hS<|Tk 8 rfl (λ_ hq=>dp (v:=v0) rfl ((hq.ow ho)).sl rfl dM Om (by omega)) hS<|Tk 9 rfl (λ_ hq=>jb rfl dY (dr.cell ((hq.ow ho)).sl eC ⟨⟨0,0⟩,0⟩ Om (by omega) 0 rfl) (dr.cell ((hq.ow ho)).sl eC ⟨⟨0,0⟩,0⟩ Om (by omega) 1 rfl) (dr.cell ((hq.ow ho)).sl eC ⟨⟨0,0⟩,0⟩ Om (by omega) 2 rfl)) hS<|To 10 rfl (Yd.call (yX (q:=q) rfl hq (v0:= .agg #[_,_,_]) rfl (v1:= .agg #[_,_,_]) rfl) (hdo _ _ _ _ _ _ _) λau av A ac=>⟨.inl (hS.trans A),?_⟩)
 obtain⟨hB,ho,f⟩:=A.k3 hB ho f
 replace hS:=hS.trans A
 obtain rfl:=ac
 refine Ty 11 rfl rfl hS<|Td<|ZQ rfl (λB=> ?_) λB=> ?_
 refine cx<|cy<|cI<|Zi rfl<|Zv (jY rfl rfl Om Om)<|ZZ rfl ?_
 exact Y _ _ (i-1) Za ⟨congrArg (Value.int .i64) (by omega:(i:Int)-1=((i-1:Nat):Int)),trivial⟩ ⟨hB,ho,f,Om,(hp.trans (H3 Om B)),trivial⟩ Zo
 refine cT ?_
 have hpos:qu (fq l k) (l.getD k ⟨⟨0,0⟩,0⟩) (fq l k).length=i:=hp.trans (CG (by exact .inr B))
 have hsl:=qq l k
 have hC:(fq l k).length≤jn v0:=(Sl.eqv ho.sl).2.1
 have hil:((i:Nat):Int).toNat=i:=rfl
 refine eR dA fx (λC ad=> ?_)
 obtain⟨hB,ho,f⟩:=ad.k3 hB ho f
 have hS:=dA.refl C
 refine Tw 0 v0 rfl rfl hS<|Ti 1 rfl rfl hS<|Ti 2 rfl rfl hS<|Tk 3 rfl (λ_ hq=>nM (v:=v0) rfl ((hq.ow ho)).sl dM rfl rfl Om Om Om) hS ?_
 have c:dr gz 3 C (fY 3 v0 0 i i) (((fq l k).drop 0).take (i-0)):=ady eC ho.sl (by omega) (by omega) (by omega) (by omega)
 refine Tk 4 rfl (λ_ hq=>cz rfl dY rfl (hq.at f)) hS<|Tw 6 v0 rfl rfl hS<|Ti 7 rfl rfl hS<|Tk 8 rfl (λ_ hq=>nL (v:=v0) rfl ((hq.ow ho)).sl dM rfl Om Om) hS ?_
 have d:dr gz 3 C (fY 3 v0 i (fq l k).length (jn v0)) (((fq l k).drop i).take ((fq l k).length-i)):=ady eC ho.sl (by omega) (by omega) (by omega) (by omega)
 refine To 5 rfl (ez (u:= .agg #[_,_,_]) rfl dM ij rfl Dd Dd λg aw y D E=>⟨.inl (hS.trans D),?_⟩)
 have F:=ZO y hB
 have r:=go (dA.size hS) (aaR y.symm)
 have ae:=adN (b:=g) c (aaR y.symm)
 have af:=adN (b:=g) d (aaR y.symm)
 obtain⟨hB,ho,c,d⟩:=D.k4 hB ho c d
 replace hS:=hS.trans D
 have Q:=jf (enc:=gz) (a:=(l.getD k ⟨⟨0,0⟩,0⟩)) E rfl rfl F
 refine To 9 rfl (dP (v:= .slice (some ⟨g,0,none⟩) 1 1) (v2:=fY 3 v0 i (fq l k).length (jn v0)) rfl rfl dM ij Dd Q d (lC) (m3 hB) ix ix λG ax s h=>⟨.inl (dg hS s (am _) (λj hj=>by have e:g=j:=aaK hj;rw[←e];exact r)),?_⟩)
 replace hS:dA _ _:=dg hS s (am _) (λj hj=>by have e:g=j:=aaK hj;rw[←e];exact r)
 replace h:=cH.app (enc:=gz) rfl rfl rfl rfl h
 replace hB:=ZG hB s Q
 replace c:=adB c ae s
 replace d:=adB d af s
 refine To 10 rfl (ke (N:=w.heap.size) (v:=fY 3 v0 0 i i) (v2:=G) rfl rfl dM ij c (zL ix) h.sl fF (Below.size hB) ix ix λt ay H p=>⟨.inl (hS.trans H),?_⟩)
 replace p:=cH.app (enc:=gz) rfl rfl rfl rfl p
 obtain⟨hB,c,d,h⟩:=H.k4 hB c d h
 replace hS:=hS.trans H
 refine Tw 11 t rfl rfl hS<|Td<|ZT rfl rfl rfl ?_
 exact L _ _ ((k+1,t)) Za ⟨rfl,rfl,trivial⟩ ⟨hB,(by rw[fq,Le,hpos];have e:((fq l k).drop i).take ((fq l k).length-i)=(fq l k).drop i:=acR fF;rw[e]at p;simpa using p),Om,trivial⟩ (by show l.length-(k+1)<l.length-k;omega)
 refine Tp 3 rfl hS<|Tp 4 rfl hS<|Tp 5 rfl hS<|Tp 6 rfl hS<|Tp 7 rfl hS<|Tp 8 rfl hS<|Tp 9 rfl hS<|Tp 10 rfl hS<|Ty 11 rfl rfl hS<|Td<|dE rfl<|cT ?_
 have hpos:qu (fq l k) (l.getD k ⟨⟨0,0⟩,0⟩) (fq l k).length=i:=hp.trans (CG (by exact .inl (by omega)))
 have hsl:=qq l k
 have hC:(fq l k).length≤jn v0:=(Sl.eqv ho.sl).2.1
 have hil:((i:Nat):Int).toNat=i:=rfl
 refine eR dA fx (λI ag=> ?_)
 obtain⟨hB,ho,f⟩:=ag.k3 hB ho f
 have hS:=dA.refl I
 refine Tw 0 v0 rfl rfl hS<|Ti 1 rfl rfl hS<|Ti 2 rfl rfl hS<|Tk 3 rfl (λ_ hq=>nM (v:=v0) rfl ((hq.ow ho)).sl dM rfl rfl Om Om Om) hS ?_
 have c:dr gz 3 I (fY 3 v0 0 i i) (((fq l k).drop 0).take (i-0)):=ady eC ho.sl (by omega) (by omega) (by omega) (by omega)
 refine Tk 4 rfl (λ_ hq=>cz rfl dY rfl (hq.at f)) hS<|Tw 6 v0 rfl rfl hS<|Ti 7 rfl rfl hS<|Tk 8 rfl (λ_ hq=>nL (v:=v0) rfl ((hq.ow ho)).sl dM rfl Om Om) hS ?_
 have d:dr gz 3 I (fY 3 v0 i (fq l k).length (jn v0)) (((fq l k).drop i).take ((fq l k).length-i)):=ady eC ho.sl (by omega) (by omega) (by omega) (by omega)
 refine To 5 rfl (ez (u:= .agg #[_,_,_]) rfl dM ij rfl Dd Dd λg az z J E=>⟨.inl (hS.trans J),?_⟩)
 have F:=ZO z hB
 have r:=go (dA.size hS) (aaR z.symm)
 have ah:=adN (b:=g) c (aaR z.symm)
 have ai:=adN (b:=g) d (aaR z.symm)
 obtain⟨hB,ho,c,d⟩:=J.k4 hB ho c d
 replace hS:=hS.trans J
 have R:=jf (enc:=gz) (a:=(l.getD k ⟨⟨0,0⟩,0⟩)) E rfl rfl F
 refine To 9 rfl (dP (v:= .slice (some ⟨g,0,none⟩) 1 1) (v2:=fY 3 v0 i (fq l k).length (jn v0)) rfl rfl dM ij Dd R d (lC) (m3 hB) ix ix λG aA x h=>⟨.inl (dg hS x (am _) (λj hj=>by have e:g=j:=aaK hj;rw[←e];exact r)),?_⟩)
 replace hS:dA _ _:=dg hS x (am _) (λj hj=>by have e:g=j:=aaK hj;rw[←e];exact r)
 replace h:=cH.app (enc:=gz) rfl rfl rfl rfl h
 replace hB:=ZG hB x R
 replace c:=adB c ah x
 replace d:=adB d ai x
 refine To 10 rfl (ke (N:=w.heap.size) (v:=fY 3 v0 0 i i) (v2:=G) rfl rfl dM ij c (zL ix) h.sl fF (Below.size hB) ix ix λt aB K p=>⟨.inl (hS.trans K),?_⟩)
 replace p:=cH.app (enc:=gz) rfl rfl rfl rfl p
 obtain⟨hB,c,d,h⟩:=K.k4 hB c d h
 replace hS:=hS.trans K
 refine Tw 11 t rfl rfl hS<|Td<|ZT rfl rfl rfl ?_
 exact L _ _ ((k+1,t)) Za ⟨rfl,rfl,trivial⟩ ⟨hB,(by rw[fq,Le,hpos];have e:((fq l k).drop i).take ((fq l k).length-i)=(fq l k).drop i:=acR fF;rw[e]at p;simpa using p),Om,trivial⟩ (by show l.length-(k+1)<l.length-k;omega)
 refine cT<|Zr<|Zw v0 rfl<|Zw v0 rfl<|ct<|Zt<|cZ (v:=v0) rfl ⟨hB,?_⟩
 obtain rfl:k=l.length:=by omega
 exact ho
theorem E9 (S:Sp) (onV mayV:Value) (w:World) (hon:dr eX 4 w onV S.on) (hmay:dr eX 4 w mayV S.may):
    Fn Tryz.prog 176 #[.agg #[.int .i64 S.n,onV,mayV]] w λv w'=>if dt S=true then ∃x,v= .tuple #[x, .int .i64 0]∧cH gz 3 158 w' w.heap.size x (eZ S)else v= .tuple #[.slice none 0 0, .int .i64 1]:=by
 refine cK (n:=78) Tryz.func176 rfl rfl rfl λhB=> ?_
 refine Zr<|Zy (du (c:= #[_,_,_]) rfl rfl λr W3 ax M a=> ?_)
 replace hB:=Ze hB M
 refine Zw (.slice none 0 0) rfl<|ZZ rfl<|Zq<|Zr<|Zv (cz rfl d9 rfl a)<|ZC (vs:=[.agg #[_,_,_]]) oN (iQ S _ _ _ (Below.slT hB hon) (Below.slT hB hmay)) rfl λay az N O=> ?_
 obtain⟨hB,a⟩:=N.k2 hB a
 obtain rfl:=O
 refine Zv (eK rfl)<|ct<|ZQ rfl (λt=> ?_) λt=> ?_
 refine Zr<|Zw (.slice none 0 0) rfl<|ZZ rfl<|Zt<|dH (v:= .slice none 0 0) rfl (v1:= .int .i64 1) rfl ⟨hB,?_⟩
 rw[if_neg (by rw[kh t];decide)]
 refine cx ?_
 have hr:dt S=true:=lA t
 obtain⟨h0,h8,h1,h4,h5,hin⟩:=dw.1 hr
 have aA:=P0 (k:=S.may.length) (by omega)
 have aB:=ace S.may.length
 refine Zr<|Zw (.slice none 0 0) rfl<|ct<|Zq<|Zr<|ZZ rfl<|cy ?_
 refine cW (σ:=(Nat)×(Value)) [4,10,12,12,16,75] (λ(o,v0)=>[(5, .int .i64 (o:Int)),(4,v0)]) (λsg W=>match sg with|(o,v0)=>(Below w.heap.size w W)∧(At W r _ 59)∧(cH gz 3 158 W w.heap.size v0 (kC S o))∧(1≤o∧o≤2^S.may.length)∧(True)) (λ(o,v0)=>2^S.may.length-o) ((1, .slice none 0 0)) ⟨rfl,rfl,trivial⟩ ⟨hB,a,(by rw[show kC S 1=[] from rfl];exact cH.nil),Om,trivial⟩ ?_
 rintro⟨o,v0⟩ aC aD ⟨hB,a,ho,hoo,_⟩ aE P
 refine Zq<|Zr<|Zi rfl<|Zf rfl fE<|ZL mayV rfl eh a rfl<|Zv (db (v:=mayV) rfl (Below.slT hB hmay) dQ)<|Zv (jK (m:=1) rfl rfl Om (by simp only[IntKind.bits];omega) ux)<|Zv (dq rfl rfl)<|ct<|ZQ rfl (λy=> ?_) λy=> ?_
 refine cx<|Zq<|cy ?_
 have hol:o<2^S.may.length:=by simp only[abJ,my]at y;omega
 have hal:=w5 (S:=S) h8 o
 refine Zr<|Zf rfl gn<|Zl rfl cR a rfl<|ZC wO (nQ _ _) rfl λaF aG Q R=> ?_
 obtain⟨hB,a,ho⟩:=Q.k3 hB a ho
 obtain⟨sa,er,rfl,hhP7_2⟩:=sM R
 refine Zw (.tuple #[.agg #[_,_,_,_], .int .i64 _]) rfl<|Zv (c7 rfl)<|Zv (da rfl)<|Zy (cM ep rfl λz T U V d=> ?_)
 have F:=ZO U hB
 obtain⟨hB,a,ho⟩:=V.k3 hB a ho
 replace d:At T z #[wv 0 0,wv 0 1,wv 0 2,wv 0 3] 40:=d
 refine Zy (cA rfl rfl cC rfl d rfl rfl λaH A X=> ?_)
 replace hB:=Zg hB A F
 replace a:=At.grownAt a d A Dd
 replace ho:=cH.grownAt ho d A Dd
 replace d:=X
 refine ZZ rfl<|Zq ?_
 obtain⟨_,_,hsa⟩:=zx hhP7_2 (λh=>h (hhP7_2.elim (λq=>q.2.2.2) (λq=>absurd ⟨h0,h8⟩ q.1)))
 subst hsa
 refine Zr<|Zf rfl fE<|ZL mayV rfl eh a rfl<|Zv (db (v:=mayV) rfl (Below.slT hB hmay) dQ)<|ZZ rfl<|cy ?_
 refine cW (σ:=(Nat)) [8,8,33,48] (λk=>[(33, .int .i64 (k:Int))]) (λk W=>(Below w.heap.size w W)∧(At W r _ 59)∧(cH gz 3 158 W w.heap.size v0 _)∧(At W z #[wv (mb S o k) 0,wv (mb S o k) 1,wv (mb S o k) 2,wv (mb S o k) 3] 40)∧(k≤S.may.length)∧(True)) (λk=>S.may.length-k) (0) ⟨rfl,trivial⟩ ⟨hB,a,ho,d,(me _),trivial⟩ ?_
 rintro k aI aJ ⟨hB,a,ho,d,hk,_⟩ aK G
 refine Zr<|Zv (dq rfl rfl)<|ct<|Zq<|ZQ rfl (λY=> ?_) λY=> ?_
 refine cx<|Zq<|cy<|Zr<|Zi rfl<|ZZ rfl<|Zr<|Zi rfl<|Zi rfl<|Zv (ra rfl rfl Om (by simp only[IntKind.bits];omega))<|Zv (nh (n:=1) rfl rfl rfl (by simp only[ig];have:=acz o (2^((k:Nat):Int).toNat);omega) Dd)<|Zv (dO rfl rfl) ?_
 refine ct<|ZQ rfl (λB=> ?_) λB=> ?_
 refine eR dA fx (λZ aa=> ?_)
 obtain⟨hB,a,ho,d⟩:=aa.k4 hB a ho d
 have hS:=dA.refl Z
 refine Tk 0 rfl (λ_ hq=>cz rfl cC rfl (hq.at d)) hS<|Tf 1 rfl rfl fE hS<|Tk 2 rfl (λ_ hq=>cD (v:=mayV) rfl eh (At.cell (hq.at a) rfl)) hS<|Ti 3 rfl rfl hS<|Tk 4 rfl (λ_ hq=>dp (v:=mayV) rfl (hq.slT (Below.slT hB hmay)) rfl dQ Om (by omega)) hS<|Tk 5 rfl (λ_ hq=>eI rfl cC (dr.cell (hq.slT (Below.slT hB hmay)) dk 0 Om (by omega) 0 rfl) (dr.cell (hq.slT (Below.slT hB hmay)) dk 0 Om (by omega) 1 rfl) (dr.cell (hq.slT (Below.slT hB hmay)) dk 0 Om (by omega) 2 rfl) (dr.cell (hq.slT (Below.slT hB hmay)) dk 0 Om (by omega) 3 rfl)) hS<|To 6 rfl (TC (vs:=[.agg #[_,_,_,_], .agg #[_,_,_,_]]) ud (pH _ _ _) rfl λaL aM H ab=>⟨.inl (hS.trans H),?_⟩)
 obtain⟨hB,a,ho,d⟩:=H.k4 hB a ho d
 obtain rfl:=ab
 refine To 7 rfl (cA rfl rfl cC rfl d rfl rfl λaN C ac=>⟨.inr jW,?_⟩)
 replace hB:=Zg hB C F
 replace a:=At.grownAt a d C Dd
 replace ho:=cH.grownAt ho d C Dd
 replace d:=ac
 refine Td<|ZT rfl rfl rfl ?_
 exact G _ _ (k+1) Za ⟨rfl,trivial⟩ ⟨hB,a,ho,(by (rw[←U4 (KL B)];exact d)),Om,trivial⟩ Zo
 refine cx<|ZT rfl rfl rfl ?_
 exact G _ _ (k+1) Za ⟨rfl,trivial⟩ ⟨hB,a,ho,(by (rw[←Vd (Js B)];exact d)),Om,trivial⟩ Zo
 refine cT ?_
 obtain rfl:k=S.may.length:=by omega
 refine Zr<|Zv (cz rfl cC rfl d)<|Zf rfl gn<|Zl rfl cR a rfl<|ZC (vs:=[.agg #[_,_,_,_], .int .i64 _]) Sk (Gs (ia S o) _ _) rfl λaO aP ad ae=> ?_
 have af:=(Below.size hB)
 obtain⟨hB,a,ho,d⟩:=ad.k4 hB a ho d
 obtain⟨x_hP14_3,er_hP14_3,l_hP14_3,rfl,ho_hP14_3,hc_hP14_3⟩:=Sd ae
 replace ho_hP14_3:=cH.mono ho_hP14_3 af
 refine Zw (.tuple #[x_hP14_3, .int .i64 _]) rfl<|Zv (c7 rfl)<|Zv (da rfl)<|Zw x_hP14_3 rfl<|ZZ rfl ?_
 obtain⟨q2,q3⟩:=hc_hP14_3.elim (λh=>h.2) (λh=>absurd (NU hr o) (by rw[h.1];decide))
 subst q2 q3
 have hpl:=xw (s:=ia S o) h8
 refine Zr<|Zw x_hP14_3 rfl<|Zv (db (v:=x_hP14_3) rfl ho_hP14_3.sl eH)<|ZZ rfl<|cy ?_
 refine cW (σ:=(Nat)×(Value)) [4,4,12,12,58,75] (λ(i,v1)=>[(58, .int .i64 (i:Int)),(4,v1)]) (λsg W=>match sg with|(i,v1)=>(Below w.heap.size w W)∧(At W r _ 59)∧(At W z _ 40)∧(cH iI 2 34 W w.heap.size x_hP14_3 _)∧(cH gz 3 158 W w.heap.size v1 (kC S o++jt S o i))∧(i≤(eE (ia S o) S.n).length)∧(True)) (λ(i,v1)=>(eE (ia S o) S.n).length-i) ((0,v0)) ⟨rfl,rfl,trivial⟩ ⟨hB,a,d,ho_hP14_3,(by rw[jt,acw];exact ho),(me _),trivial⟩ ?_
 rintro⟨i,v1⟩ aQ aR ⟨hB,a,d,ho_hP14_3,f,hi,_⟩ aS I
 refine Zr<|Zv (dq rfl rfl)<|ct<|Zq<|ZQ rfl (λag=> ?_) λag=> ?_
 refine cx<|Zq<|cy ?_
 have hci:((eE (ia S o) S.n).getD i ⟨0,0⟩).m<256∧((eE (ia S o) S.n).getD i ⟨0,0⟩).v<256:=OM h8 (by omega)
 have hrl:=uf S o i
 have hol2:=wV S ((eE (ia S o) S.n).getD i ⟨0,0⟩) S.may.length
 refine Zr<|Zv (dp (v:=x_hP14_3) rfl ho_hP14_3.sl rfl eH Om (by omega))<|Zv (io rfl dh (dr.cell ho_hP14_3.sl gx ⟨0,0⟩ Om (by omega) 0 rfl) (dr.cell ho_hP14_3.sl gx ⟨0,0⟩ Om (by omega) 1 rfl))<|Zy (cM gV rfl λah aT J ai g=> ?_)
 have aj:=ZO J hB
 have ak:=acm (b:=ah) ho_hP14_3 (aaR J.symm)
 obtain⟨hB,a,d,ho_hP14_3,f⟩:=ai.k5 hB a d ho_hP14_3 f
 refine Zy (cA rfl rfl dh rfl g rfl rfl λaU j al=> ?_)
 replace hB:=Zg hB j aj
 replace a:=At.grownAt a g j Dd
 replace d:=At.grownAt d g j Dd
 replace ho_hP14_3:=ab3 ho_hP14_3 ak j
 replace f:=cH.grownAt f g j Dd
 replace g:=al
 refine ct<|Zr<|Zv (cz rfl d9 rfl a)<|Zv (cz rfl dh rfl g)<|ZC (vs:=[.agg #[_,_,_], .agg #[_,_]]) Dz (qA S _ _ ((eE (ia S o) S.n).getD i ⟨0,0⟩) _ (Below.slT hB hon) (Below.slT hB hmay) hci Om) rfl λaV aW ao ap=> ?_
 obtain⟨hB,a,d,ho_hP14_3,f,g⟩:=ao.k6 hB a d ho_hP14_3 f g
 obtain rfl:=ap
 refine Zi rfl<|Zv (iP rfl Tryz.underlying3 Tryz.underlying5 pX)<|Zv (dO rfl rfl)<|ct<|ZQ rfl (λD=> ?_) λD=> ?_
 refine cI<|Zw v1 rfl<|Zv (cz rfl dh rfl g)<|Zi rfl<|Zv (iP rfl Tryz.underlying3 Tryz.underlying5 pX)<|Zv (kG (h0:=rfl) (h1:=rfl) (k1:=rfl) (c1_0:= .int .u8 _))<|Zy (ez (u:= .agg #[_,_,_]) rfl dM ij rfl Dd Dd λaq aX aY ar au=> ?_)
 obtain⟨hB,a,d,ho_hP14_3,f⟩:=ar.k5 hB a d ho_hP14_3 f
 refine Zy (dP (v:=v1) (v2:= .slice (some ⟨aq,0,none⟩) 1 1) rfl rfl dM ij Dd f (eJ au rfl) rfl (m3 hB) AJ AJ λK aZ l E=> ?_)
 replace E:=cH.snoc (enc:=gz) (x:=⟨(eE (ia S o) S.n).getD i ⟨0,0⟩,o⟩) rfl rfl rfl rfl E
 replace hB:=ZG hB l f
 replace a:=At.grownOw a f l Dd
 replace d:=At.grownOw d f l Dd
 replace ho_hP14_3:=cH.grownOw ho_hP14_3 f l Dd
 refine Zw K rfl<|ct<|ZT rfl rfl rfl ?_
 exact I _ _ ((i+1,K)) Za ⟨rfl,rfl,trivial⟩ ⟨hB,a,d,ho_hP14_3,(by (rw[←Oo (Pv D),←ab7];exact E)),Om,trivial⟩ (by show (eE (ia S o) S.n).length-(i+1)<(eE (ia S o) S.n).length-i;omega)
 refine cx<|ZT rfl rfl rfl ?_
 exact I _ _ ((i+1,v1)) Za ⟨rfl,rfl,trivial⟩ ⟨hB,a,d,ho_hP14_3,(by (rw[←PY (λh=>D (congrArg Int.ofNat h))];exact f)),Om,trivial⟩ (by show (eE (ia S o) S.n).length-(i+1)<(eE (ia S o) S.n).length-i;omega)
 refine cT<|cI<|Zi rfl<|Zv (d5 rfl rfl Om Om)<|ZZ rfl ?_
 exact P _ _ ((o+1,v1)) Za ⟨rfl,rfl,trivial⟩ ⟨hB,a,(by rw[←Ic Om];have e:i=(eE (ia S o) S.n).length:=Om;subst e;exact f),Om,trivial⟩ (by show 2^S.may.length-(o+1)<2^S.may.length-o;omega)
 refine cT ?_
 obtain rfl:o=2^S.may.length:=by simp only[abJ,my]at y;omega
 have hal:=w5 (S:=S) h8 (2^S.may.length)
 refine Zr<|Zw v0 rfl<|ZC RM (pA _ (eZ S) 229 _ ho.sl Uh (λm u o m2 u2 o2 w=>Bm m u o m2 u2 o2 w) (show (kC S (2^S.may.length)).length≤2000000 by omega)) rfl λL a0 av p=> ?_
 have a1:=adi ho
 have aw:=(Below.size hB)
 replace hB:=Ze hB av
 replace p:=cH.mono p aw
 rw[Ma]at p
 refine Zw L rfl<|ZZ rfl<|Zt<|dH (v:=L) rfl (v1:= .int .i64 0) rfl ⟨hB,?_⟩
 rw[if_pos hr]
 exact⟨_,rfl,p⟩
theorem wb (S:Sp) (onV mayV:Value) (x:Rw) (w:World) (hon:dr eX 4 w onV S.on) (hmay:dr eX 4 w mayV S.may) (hbx:x.c.m<256∧x.c.v<256∧x.o<256):
    Fn Tryz.prog 150 #[.agg #[.int .i64 S.n,onV,mayV], .agg #[.int .u8 (x.c.m:Int), .int .u8 (x.c.v:Int), .int .u8 (x.o:Int)]] w λv w'=>v=if rF S x=true then .tuple #[.agg #[.int .u8 ((xQ S x).c.m:Int), .int .u8 ((xQ S x).c.v:Int), .int .u8 ((xQ S x).o:Int)], .int .i64 0]else .tuple #[.agg #[.int .u8 0, .int .u8 0, .int .u8 0], .int .i64 1]:=by
 refine cK (n:=36) Tryz.func150 rfl rfl rfl λhB=> ?_
 refine Zr<|Zy (du (c:= #[_,_,_]) rfl rfl λJ W3 ap K d=> ?_)
 replace hB:=Ze hB K
 refine Zy (du (c:= #[_,_,_]) rfl rfl λL W6 M N a=> ?_)
 have k:=ZO M hB
 obtain⟨hB,d⟩:=N.k2 hB d
 refine Zy (cM jP rfl λO W9 F P b=> ?_)
 have G:=ZO F hB
 have l:=Zn F a.lt
 obtain⟨hB,d,a⟩:=P.k3 hB d a
 refine ZZ rfl<|Zq<|Zr<|Zv (cz rfl d9 rfl d)<|Zv (cz rfl dY rfl a)<|ZC (vs:=[.agg #[_,_,_], .agg #[_,_,_]]) C1 (ox S _ _ _ _ _ _ (Below.slT hB hon) (Below.slT hB hmay) hbx.1 hbx.2.1 hbx.2.2) rfl λaq ar Q R=> ?_
 obtain⟨hB,d,a,b⟩:=Q.k4 hB d a b
 obtain rfl:=R
 refine Zv (eK rfl)<|ct<|ZQ rfl (λp=> ?_) λp=> ?_
 refine Zr<|Zv (C4)<|Zy (cA rfl rfl dY rfl b rfl rfl λau T U=> ?_)
 replace hB:=Zg hB T G
 replace b:=U
 refine ZZ rfl<|Zt<|ex rfl dY b rfl (v1:= .int .i64 1) rfl ⟨hB,?_⟩
 rw[if_neg (by rw[show rF S x=false from kh p];decide)]
 refine cx<|Zq ?_
 have hi:rF S x=true:=lA p
 obtain⟨h0,h8,h1,h4,h5,hin⟩:=dw.1 (ir.1 hi).1
 refine Zr<|Zf rfl gn<|Zl rfl cR d rfl<|ZZ rfl<|cy ?_
 refine cW (σ:=(Nat)) [6,7,15,29] (λi=>[(15, .int .i64 (i:Int))]) (λi W=>(Below w.heap.size w W)∧(At W J _ 59)∧(At W O _ 158)∧(At W L #[.int .u8 ((eo S x i).m:Int), .int .u8 ((eo S x i).v:Int), .int .u8 (x.o:Int)] 158)∧((i:Int)≤S.n)∧(True)) (λi=>S.n.toNat-i) (0) ⟨rfl,trivial⟩ ⟨hB,d,b,a,Om,trivial⟩ ?_
 rintro i av aw ⟨hB,d,b,a,hi2,_⟩ ax g
 refine Zr<|Zv (dq rfl rfl)<|ct<|Zq<|ZQ rfl (λV=> ?_) λV=> ?_
 refine cx<|Zq<|cy ?_
 have hg:=vG (S:=S) (x:=x) ⟨hbx.1,hbx.2.1⟩ i
 have hle:=zR (eo S x i).m (i:Int)
 have hle2:(eo S x i).v &&& lK (eo S x i).m (i:Int)≤(eo S x i).v:=Nat.and_le_left
 refine Zr<|Zi rfl<|ZZ rfl<|Zd dA λX Y=> ?_
 obtain⟨hB,d,b,a⟩:=Y.k4 hB d b a
 have hS:=dA.refl X
 refine Tf 0 rfl rfl gD hS<|Tk 1 rfl (λ_ hq=>io rfl dh (At.cell (hq.at a) rfl) (At.cell (hq.at a) rfl)) hS<|Ti 2 rfl rfl hS<|Tf 4 rfl rfl fG hS<|Tk 5 rfl (λ_ hq=>cD (v:= .int .u8 _) rfl dN (At.cell (hq.at a) rfl)) hS ?_
 refine wx 3 7 jW rfl rfl rfl rfl rfl rfl rfl rfl (Yd.call (yl yH (v0:= .agg #[_,_]) rfl (v1:= .int .i64 _) rfl) (lN _ _ (i:Int) _ hg.1 hg.2) (λZ ay q r=>⟨.inl (hS.trans q),?_⟩)) (cM jP rfl (λaa az s t e=>⟨.inl (hS.trans t),?_⟩))
 obtain⟨hB,d,b,a⟩:=q.k4 hB d b a
 replace hS:=hS.trans q
 obtain rfl:=r
 refine Tk 6 rfl (λ_ _=>kG (h0:=rfl) (h1:=rfl) (k1:=rfl) (c1_0:= .int .u8 _)) hS<|To 7 rfl (cM jP rfl λaa aA u H e=>⟨.inl (hS.trans H),?_⟩)
 have y:=ZO u hB
 have z:=Zn u b.lt
 have A:=Zn u a.lt
 obtain⟨hB,d,b,a⟩:=H.k4 hB d b a
 refine To 8 rfl (cA rfl rfl dY rfl e rfl rfl λaB h ab=>⟨.inr jW,?_⟩)
 replace hB:=Zg hB h y
 replace d:=At.grownAt d e h Dd
 replace b:=At.grownNe b z h
 replace a:=At.grownNe a A h
 replace e:=ab
 refine Td<|Zr<|Zv (cz rfl d9 rfl d)<|Zv (cz rfl dY rfl e)<|ZC (vs:=[.agg #[_,_,_], .agg #[_,_,_]]) C1 (ox S _ _ (jI (eo S x i) i).m (jI (eo S x i) i).v x.o _ (Below.slT hB hon) (Below.slT hB hmay) (by show lK (eo S x i).m (i:Int)<256;omega) (by show (eo S x i).v &&& lK (eo S x i).m (i:Int)<256;omega) hbx.2.2) rfl λac aC ad B=> ?_
 obtain⟨hB,d,b,a,e⟩:=ad.k5 hB d b a e
 obtain rfl:=B
 refine ct<|ZQ rfl (λf=> ?_) λf=> ?_
 refine cI<|Zv (cz rfl dY rfl e)<|Zy (cA rfl rfl dY rfl a rfl rfl λaD C ae=> ?_)
 replace hB:=Zg hB C k
 replace d:=At.grownAt d a C Dd
 replace b:=At.grownNe b (Ne.symm l) C
 replace a:=ae
 refine ct<|ZT rfl rfl rfl ?_
 exact g _ _ (i+1) Za ⟨rfl,trivial⟩ ⟨hB,d,b,(by (rw[←JS f];exact a)),Om,trivial⟩ Zo
 refine cx<|ZT rfl rfl rfl ?_
 exact g _ _ (i+1) Za ⟨rfl,trivial⟩ ⟨hB,d,b,(by (rw[←K4 f];exact a)),Om,trivial⟩ Zo
 have y:=ZO s hB
 have z:=Zn s b.lt
 have A:=Zn s a.lt
 obtain⟨hB,d,b,a⟩:=t.k4 hB d b a
 replace hS:=hS.trans t
 refine To 3 rfl (TC (vs:=[.agg #[_,_], .int .i64 _]) yH (lN _ _ (i:Int) _ hg.1 hg.2) rfl λZ aE D r=>⟨.inl (hS.trans D),?_⟩)
 obtain⟨hB,d,b,a,e⟩:=D.k5 hB d b a e
 replace hS:=hS.trans D
 obtain rfl:=r
 refine Tk 6 rfl (λ_ _=>kG (h0:=rfl) (h1:=rfl) (k1:=rfl) (c1_0:= .int .u8 _)) hS<|To 8 rfl (cA rfl rfl dY rfl e rfl rfl λaF j af=>⟨.inr jW,?_⟩)
 replace hB:=Zg hB j y
 replace d:=At.grownAt d e j Dd
 replace b:=At.grownNe b z j
 replace a:=At.grownNe a A j
 replace e:=af
 refine Td<|Zr<|Zv (cz rfl d9 rfl d)<|Zv (cz rfl dY rfl e)<|ZC (vs:=[.agg #[_,_,_], .agg #[_,_,_]]) C1 (ox S _ _ (jI (eo S x i) i).m (jI (eo S x i) i).v x.o _ (Below.slT hB hon) (Below.slT hB hmay) (by show lK (eo S x i).m (i:Int)<256;omega) (by show (eo S x i).v &&& lK (eo S x i).m (i:Int)<256;omega) hbx.2.2) rfl λac aG ag B=> ?_
 obtain⟨hB,d,b,a,e⟩:=ag.k5 hB d b a e
 obtain rfl:=B
 refine ct<|ZQ rfl (λf=> ?_) λf=> ?_
 refine cI<|Zv (cz rfl dY rfl e)<|Zy (cA rfl rfl dY rfl a rfl rfl λaH E ah=> ?_)
 replace hB:=Zg hB E k
 replace d:=At.grownAt d a E Dd
 replace b:=At.grownNe b (Ne.symm l) E
 replace a:=ah
 refine ct<|ZT rfl rfl rfl ?_
 exact g _ _ (i+1) Za ⟨rfl,trivial⟩ ⟨hB,d,b,(by (rw[←JS f];exact a)),Om,trivial⟩ Zo
 refine cx<|ZT rfl rfl rfl ?_
 exact g _ _ (i+1) Za ⟨rfl,trivial⟩ ⟨hB,d,b,(by (rw[←K4 f];exact a)),Om,trivial⟩ Zo
 refine cT ?_
 obtain rfl:i=S.n.toNat:=by omega
 refine Zr<|Zv (cz rfl d9 rfl d)<|Zf rfl gD<|Zv (io rfl dh (At.cell a rfl) (At.cell a rfl))<|ZC (vs:=[.agg #[_,_,_], .agg #[_,_]]) Dz (qA S _ _ (eo S x S.n.toNat) _ (Below.slT hB hon) (Below.slT hB hmay) (vG ⟨hbx.1,hbx.2.1⟩ _) Om) rfl λaI aJ ai aj=> ?_
 obtain⟨hB,b,a⟩:=ai.k3 hB b a
 obtain rfl:=aj
 refine Zf rfl fG<|Zy (de (v:= .int .u8 _) rfl rfl dN rfl a fF λaK I ak=> ?_)
 replace hB:=Zg hB I k
 replace b:=At.grownNe b (Ne.symm l) I
 replace a:=ak
 replace a:At _ _ #[_,_,_] _:=a
 refine ct<|Zr<|Zv (cz rfl dY rfl a)<|Zy (cA rfl rfl dY rfl b rfl rfl λaL al ao=> ?_)
 replace hB:=Zg hB al G
 replace b:=ao
 refine ZZ rfl<|Zt<|ex rfl dY b rfl (v1:= .int .i64 0) rfl ⟨hB,?_⟩
 rw[if_pos hi]
 rfl
end
section
def iH (l:List Rw):Prop:=∀x,x∈l→x.c.m<256∧x.c.v<256∧x.o<256
theorem iH.get (h:iH l) (hk:k<l.length):(l.getD k ⟨⟨0,0⟩,0⟩).c.m<256∧(l.getD k ⟨⟨0,0⟩,0⟩).c.v<256∧(l.getD k ⟨⟨0,0⟩,0⟩).o<256:=h _ (dF hk)
theorem PN (hk:k<l.length) (h:¬Qd S (l.getD k ⟨⟨0,0⟩,0⟩)=true):Value.bool false= .bool (km S l):=by grind [x8,j6]
theorem Yz (h:(!dS x.c.m x.c.v S.n)=true):¬Qd S x=true:=by grind [f7]
theorem Zh (h:(x.o:Int)=0):¬Qd S x=true:=by grind [f7]
theorem ZI (h:((1*2^S.on.length:Nat):Int)≤(x.o:Int)):¬Qd S x=true:=λhk=>by
 have:=(f7.1 hk).2.2
 rw[abJ]at h;omega
theorem aaO (h:(!dS x.c.m x.c.v S.n)=false) (h2:¬(x.o:Int)=0) (h3:¬((1*2^S.on.length:Nat):Int)≤(x.o:Int)):Qd S x=true:=by
 rw[abJ]at h3
 grind [f7,lA]
def EE (l:List Rw) (n out:Int):Bool:=decide (0≤n∧n≤8∧0≤out∧out<4)&&l.all λx=>dS x.c.m x.c.v n
theorem uX {n out:Int}:EE l n out=true↔(0≤n∧n≤8∧0≤out∧out<4)∧∀k,k<l.length→dS (l.getD k ⟨⟨0,0⟩,0⟩).c.m (l.getD k ⟨⟨0,0⟩,0⟩).c.v n=true:=by
 unfold EE
 rw[so,decide_eq_true_eq,aa1]
 constructor
 ·rintro⟨h1,h2⟩;exact⟨h1,λk hk=>h2 _ (dF hk)⟩
 ·rintro⟨h1,h2⟩
  refine⟨h1,λx hx=> ?_⟩
  obtain⟨k,hk,rfl⟩:=fh (d:=⟨⟨0,0⟩,0⟩) hx
  exact h2 k hk
theorem yF {n out:Int} (h:¬(0≤n∧n≤8∧0≤out∧out<4)):¬EE l n out=true:=by grind [uX]
theorem VI {n out:Int} (hk:k<l.length) (h:dS (l.getD k ⟨⟨0,0⟩,0⟩).c.m (l.getD k ⟨⟨0,0⟩,0⟩).c.v n=false):¬EE l n out=true:=by grind [uX]
theorem TP {l:List Rw} {n out:Int} {v:Value} (h:v=if EE l n out=true then .tuple #[el (nT l n.toNat out.toNat l.length), .int .i64 0]else .tuple #[el 0, .int .i64 1]):
  ∃(sa:Nat) (er:Int),v= .tuple #[el sa, .int .i64 er]∧((EE l n out=true∧sa=nT l n.toNat out.toNat l.length∧er=0)∨(EE l n out=false∧sa=0∧er=1)):=by
 grind
theorem RP (hr:dt S=true) (hm:km S l=true) (ho:o<S.on.length):EE l S.n (o:Int)=true:=by
 grind [dw,uX,f7,j6]
theorem XF (h:dt S=false):Value.bool false= .bool (gH S l):=by grind [x8,eW]
theorem Wi (h:km S l=false):Value.bool false= .bool (gH S l):=by grind [x8,eW]
theorem Wj (ho:o<S.on.length) (h:dW (zn S o) (nT l S.n.toNat o l.length)=false):Value.bool false= .bool (gH S l):=by grind [x8,eW,Ep]
theorem Wn (ho:o<S.on.length) (h:dW (nT l S.n.toNat o l.length) (jZ S o)=false):Value.bool false= .bool (gH S l):=x8 λk=>by
 have:=(eW.1 k).2.2 o ho
 unfold Ep at this
 rw[h,acM]at this;cases this
theorem Nu (h1:dW (zn S o) (nT l S.n.toNat o l.length)=true) (h2:dW (nT l S.n.toNat o l.length) (jZ S o)=true):Ep S l o=true:=by
 grind [Ep]
def Ej (l:List Rw) (p o:Nat):Bool:=l.any λx=>x.o.testBit o&&oJ x.c.m x.c.v p
theorem sX:Ej l p o=true↔∃k,k<l.length∧((l.getD k ⟨⟨0,0⟩,0⟩).o.testBit o&&oJ (l.getD k ⟨⟨0,0⟩,0⟩).c.m (l.getD k ⟨⟨0,0⟩,0⟩).c.v p)=true:=by
 unfold Ej
 rw[acC]
 constructor
 ·rintro⟨x,hx,h⟩
  obtain⟨k,hk,rfl⟩:=fh (d:=⟨⟨0,0⟩,0⟩) hx
  exact⟨k,hk,h⟩
 all_goals grind
theorem iC (hr:dt S=true) (hm:km S l=true) (ho:o<S.on.length):
  Ep S l o=true↔∀p,p<2^S.n.toNat→((zn S o).testBit p=true→Ej l p o=true)∧(Ej l p o=true→(jZ S o).testBit p=true):=by
 obtain⟨h0,h8,h1,h4,h5,hin⟩:=dw.1 hr
 have hp:=fm h8
 obtain⟨w1,w2⟩:=hin o ho
 have hcv:∀p,p<2^S.n.toNat→((nT l S.n.toNat o l.length).testBit p=true↔Ej l p o=true):=λp hpn=>by
  rw[lH (by omega) p _ (am _),sX]
  have key:∀k,k<l.length→(Xj (l.getD k ⟨⟨0,0⟩,0⟩) o p↔((l.getD k ⟨⟨0,0⟩,0⟩).o.testBit o&&oJ (l.getD k ⟨⟨0,0⟩,0⟩).c.m (l.getD k ⟨⟨0,0⟩,0⟩).c.v p)=true):=λk hk=>by
   have hv:=(dB.1 (f7.1 (j6.1 hm k hk)).1).2.2.2
   unfold Xj hold oJ
   rw[so,decide_eq_true_eq,hv]
  constructor
  ·rintro⟨_,k,hk,h⟩;exact⟨k,hk,(key k hk).1 h⟩
  ·rintro⟨k,hk,h⟩;exact⟨hpn,k,hk,(key k hk).2 h⟩
 unfold Ep
 rw[so,dJ,dJ]
 constructor
 ·rintro⟨g1,g2⟩ p hpn
  exact⟨λh=>(hcv p hpn).1 (g1 p (by omega) h),λh=>g2 p (by omega) ((hcv p hpn).2 h)⟩
 ·intro g
  have hlt:∀p,p<256→(jZ S o).testBit p=true→p<2^S.n.toNat:=λp hp2 h=>by
   have:=dJ.1 w2 p hp2 h
   rw[fo]at this
   simpa using this
  refine⟨λp hp2 h=> ?_,λp hp2 h=> ?_⟩
  ·have hpn:=hlt p hp2 (dJ.1 w1 p hp2 h)
   exact(hcv p hpn).2 ((g p hpn).1 h)
  ·have hpn:=((lH (by omega) p _ (am _)).1 h).1
   exact(g p hpn).2 ((hcv p hpn).1 h)
theorem OD {o:Nat} {i:Int} (h:((o/2^i.toNat &&& 1:Nat):Int)=1):o.testBit i.toNat=true:=qm.1 h
theorem Qh {o:Nat} {i:Int} (h:¬((o/2^i.toNat &&& 1:Nat):Int)=1):¬o.testBit i.toNat=true:=by grind
end
section
theorem qG:cY Tryz.prog 131=true:=by kernel_rfl
theorem Jf:cY Tryz.prog 105=true:=by kernel_rfl
theorem Rn:cY Tryz.prog 200=true:=by kernel_rfl
theorem zX (S:Sp) (onV mayV:Value) (xa:Value) (l:List Rw) (w:World) (hon:dr eX 4 w onV S.on) (hmay:dr eX 4 w mayV S.may) (hl:dr gz 3 w xa l) (hlb:l.length≤2000000) (hlr:iH l) (h4:S.on.length≤20):
    Fn Tryz.prog 105 #[.agg #[.int .i64 S.n,onV,mayV],xa] w λv w'=>v= .bool (km S l):=by
 refine cK (n:=35) Tryz.func105 rfl rfl rfl λhB=> ?_
 refine Zr<|Zy (du (c:= #[_,_,_]) rfl rfl λj W3 H p a=> ?_)
 replace hB:=Ze hB p
 refine Zb rfl<|ct<|Zq<|Zr<|Zw xa rfl<|Zv (db (v:=xa) rfl (Below.slT hB hl) dM)<|ZZ rfl<|cy ?_
 refine cW (σ:=(Nat)) [4,4,6,6,9,34] (λk=>[(9, .int .i64 (k:Int))]) (λk W=>(Below w.heap.size w W)∧(At W j _ 59)∧(k≤l.length)∧(∀q,q<k→Qd S (l.getD q ⟨⟨0,0⟩,0⟩)=true)∧(True)) (λk=>l.length-k) (0) ⟨rfl,trivial⟩ ⟨hB,a,(me _),eO,trivial⟩ ?_
 rintro k I J ⟨hB,a,hk,hq,_⟩ K r
 refine Zr<|Zv (dq rfl rfl)<|ct<|Zq<|ZQ rfl (λs=> ?_) λs=> ?_
 refine cx<|Zq<|cy ?_
 obtain⟨t,u,L⟩:=hlr.get (k:=k) (by omega)
 refine Zr<|Zv (dp (v:=xa) rfl (Below.slT hB hl) rfl dM Om (by omega))<|Zv (jb rfl dY (dr.cell (Below.slT hB hl) eC ⟨⟨0,0⟩,0⟩ Om (by omega) 0 rfl) (dr.cell (Below.slT hB hl) eC ⟨⟨0,0⟩,0⟩ Om (by omega) 1 rfl) (dr.cell (Below.slT hB hl) eC ⟨⟨0,0⟩,0⟩ Om (by omega) 2 rfl))<|Zy (cM jP rfl λM N y z b=> ?_)
 have A:=ZO y hB
 obtain⟨hB,a⟩:=z.k2 hB a
 refine Zy (cA rfl rfl dY rfl b rfl rfl λO h B=> ?_)
 replace hB:=Zg hB h A
 replace a:=At.grownAt a b h Dd
 replace b:=B
 refine ct<|Zd dA λC D=> ?_
 obtain⟨hB,a,b⟩:=D.k3 hB a b
 have hS:=dA.refl C
 refine Tf 0 rfl rfl gD hS<|Tk 1 rfl (λ_ hq=>io rfl dh (At.cell (hq.at b) rfl) (At.cell (hq.at b) rfl)) hS<|Tf 2 rfl rfl gn hS<|Tk 3 rfl (λ_ hq=>cD (v:= .int .i64 _) rfl cR (At.cell (hq.at a) rfl)) hS<|To 4 rfl (TC (vs:=[.agg #[_,_], .int .i64 _]) D7 (nD _ _ _ _ t u) rfl λP Q d E=>⟨.inl (hS.trans d),?_⟩)
 have F:=hB
 have G:=a
 have i:=b
 obtain⟨hB,a⟩:=d.k2 hB a
 replace hS:=hS.trans d
 obtain rfl:=E
 refine Tk 5 rfl (λ_ _=>eK rfl) hS<|Tx 6 rfl (λ_ _=>jV (v:= .bool _) rfl) hS (λe=> ?_) λe=> ?_
 refine Tp 7 rfl hS<|Tp 8 rfl hS<|Tp 9 rfl hS<|Ty 10 rfl rfl hS<|Ty 11 rfl rfl hS<|Tp 12 rfl hS<|Tp 13 rfl hS<|Tp 14 rfl hS<|Tp 15 rfl hS<|Tp 16 rfl hS<|Tp 17 rfl hS<|Tp 18 rfl hS<|Tp 19 rfl hS<|Ty 20 rfl rfl hS ?_
 refine Td<|cN rfl<|Zr<|Zb rfl<|ct<|Zt<|cZ (v:= .bool false) rfl ⟨hB,?_⟩
 exact PN (k:=k) Om (Yz e)
 refine Tf 7 rfl rfl fG hS<|Tk 8 rfl (λ_ hq=>cD (v:= .int .u8 _) rfl dN (At.cell (hq.at i) rfl)) hS<|Tk 9 rfl (λ_ _=>dO rfl rfl) hS<|Ty 10 rfl rfl hS<|Tx 11 rfl (λ_ _=>jV (v:= .bool _) rfl) hS (λf=> ?_) λf=> ?_
 refine Tp 12 rfl hS<|Tp 13 rfl hS<|Tp 14 rfl hS<|Tp 15 rfl hS<|Tp 16 rfl hS<|Tp 17 rfl hS<|Tp 18 rfl hS<|Tp 19 rfl hS<|Ty 20 rfl rfl hS<|Td<|cN rfl<|Zr<|Zb rfl<|ct ?_
 refine Zt<|cZ (v:= .bool false) rfl ⟨hB,?_⟩
 exact PN (k:=k) Om (Zh f)
 refine Tf 12 rfl rfl fG hS<|Tk 13 rfl (λ_ hq=>cD (v:= .int .u8 _) rfl dN (At.cell (hq.at i) rfl)) hS<|Tk 14 rfl (λ_ _=>iP rfl Tryz.underlying5 Tryz.underlying3 (by show (l.getD k ⟨⟨0,0⟩,0⟩).o<9223372036854775808;omega)) hS<|Tf 15 rfl rfl fw hS<|Tk 16 rfl (λ_ hq=>cD (v:=onV) rfl eh (At.cell (hq.at G) rfl)) hS<|Tk 17 rfl (λ_ hq=>db (v:=onV) rfl (hq.slT (Below.slT F hon)) dQ) hS<|Tk 18 rfl (λ_ _=>jK (m:=1) rfl rfl Om (by simp only[IntKind.bits];omega) ux) hS<|Tk 19 rfl (λ_ _=>ky rfl rfl) hS<|Ty 20 rfl rfl hS<|Td<|ZQ rfl (λg=> ?_) λg=> ?_
 refine Zr<|Zb rfl<|ct<|Zt<|cZ (v:= .bool false) rfl ⟨hB,?_⟩
 exact PN (k:=k) Om (ZI g)
 refine cx<|ZT rfl rfl rfl ?_
 exact r _ _ (k+1) Za ⟨rfl,trivial⟩ ⟨hB,a,Om,(dT hq (aaO (x:=(l.getD k ⟨⟨0,0⟩,0⟩)) e f g)),trivial⟩ Zo
 refine cT<|Zr<|Zb rfl<|ct<|Zt<|cZ (v:= .bool true) rfl ⟨hB,?_⟩
 obtain rfl:k=l.length:=by omega
 exact Re (j6.2 hq)
theorem Bu (xa:Value) (l:List Rw) (n out:Int) (w:World) (hl:dr gz 3 w xa l) (hlb:l.length≤2000000) (hlr:iH l):
    Fn Tryz.prog 200 #[xa, .int .i64 n, .int .i64 out] w λv w'=>v=if EE l n out=true then .tuple #[el (nT l n.toNat out.toNat l.length), .int .i64 0]else .tuple #[el 0, .int .i64 1]:=by
 refine cK (n:=56) Tryz.func200 rfl rfl rfl λhB=> ?_
 refine Zr<|Zy (cM ep rfl λt W3 u D a=> ?_)
 have f:=ZO u hB
 replace hB:=Ze hB D
 replace a:At W3 t #[wv 0 0,wv 0 1,wv 0 2,wv 0 3] 40:=a
 refine ZZ rfl<|Zq<|Zr<|Zi rfl<|Zv (dq rfl rfl)<|ZX rfl (λE=> ?_) λE=> ?_
 refine Zs<|Zs<|Zb rfl<|Zb rfl<|Zs<|Zs<|Zb rfl<|Zb rfl<|Zs<|Zs<|Zb rfl<|ct<|cN rfl<|Zr ?_
 refine Zv (v:=el 0) (gq)<|Zy (cA rfl rfl cC rfl a rfl rfl λau F G=> ?_)
 replace hB:=Zg hB F f
 replace a:=G
 refine ZZ rfl<|Zt<|ex rfl cC a rfl (v1:= .int .i64 1) rfl ⟨hB,?_⟩
 rw[if_neg (yF (by omega))]
 refine Zi rfl<|Zv (gQ rfl rfl)<|Zb rfl<|ZX rfl (λH=> ?_) λH=> ?_
 refine Zs<|Zs<|Zb rfl<|Zb rfl<|Zs<|Zs<|Zb rfl<|ct<|cN rfl<|Zr<|Zv (v:=el 0) (gq)<|Zy (cA rfl rfl cC rfl a rfl rfl λav I J=> ?_)
 replace hB:=Zg hB I f
 replace a:=J
 refine ZZ rfl<|Zt<|ex rfl cC a rfl (v1:= .int .i64 1) rfl ⟨hB,?_⟩
 rw[if_neg (yF (by omega))]
 refine Zi rfl<|Zv (dq rfl rfl)<|Zb rfl<|ZX rfl (λK=> ?_) λK=> ?_
 refine Zs<|Zs<|Zb rfl<|ct<|cN rfl<|Zr<|Zv (v:=el 0) (gq)<|Zy (cA rfl rfl cC rfl a rfl rfl λaw L M=> ?_)
 replace hB:=Zg hB L f
 replace a:=M
 refine ZZ rfl<|Zt<|ex rfl cC a rfl (v1:= .int .i64 1) rfl ⟨hB,?_⟩
 rw[if_neg (yF (by omega))]
 refine Zi rfl<|Zv (ky rfl rfl)<|Zb rfl<|ct<|ZQ rfl (λN=> ?_) λN=> ?_
 refine Zr<|Zv (v:=el 0) (gq)<|Zy (cA rfl rfl cC rfl a rfl rfl λax O P=> ?_)
 replace hB:=Zg hB O f
 replace a:=P
 refine ZZ rfl<|Zt<|ex rfl cC a rfl (v1:= .int .i64 1) rfl ⟨hB,?_⟩
 rw[if_neg (yF (by omega))]
 refine cx<|Zr<|Zy (cM ep rfl λx Q y R b=> ?_)
 have S:=ZO y hB
 have z:=Zn y a.lt
 obtain⟨hB,a⟩:=R.k2 hB a
 replace b:At Q x #[wv 0 0,wv 0 1,wv 0 2,wv 0 3] 40:=b
 refine ct<|Zq<|Zr<|Zw xa rfl<|Zv (db (v:=xa) rfl (Below.slT hB hl) dM)<|ZZ rfl<|cy ?_
 refine cW (σ:=(Nat)) [7,7,10,12,30,54] (λk=>[(30, .int .i64 (k:Int))]) (λk W=>(Below w.heap.size w W)∧(At W t _ 40)∧(At W x #[wv (nT l n.toNat out.toNat k) 0,wv (nT l n.toNat out.toNat k) 1,wv (nT l n.toNat out.toNat k) 2,wv (nT l n.toNat out.toNat k) 3] 40)∧(k≤l.length)∧(∀q,q<k→dS (l.getD q ⟨⟨0,0⟩,0⟩).c.m (l.getD q ⟨⟨0,0⟩,0⟩).c.v n=true)∧(True)) (λk=>l.length-k) (0) ⟨rfl,trivial⟩ ⟨hB,a,b,(me _),eO,trivial⟩ ?_
 rintro k ay az ⟨hB,a,b,hk,hq,_⟩ aA A
 refine Zr<|Zv (dq rfl rfl)<|ct<|Zq<|ZQ rfl (λT=> ?_) λT=> ?_
 refine cx<|Zq<|cy ?_
 obtain⟨U,V,aB⟩:=hlr.get (k:=k) (by omega)
 have u:(l.getD k ⟨⟨0,0⟩,0⟩).o/2^out.toNat≤(l.getD k ⟨⟨0,0⟩,0⟩).o:=acz _ _
 refine Zr<|Zv (dp (v:=xa) rfl (Below.slT hB hl) rfl dM Om (by omega))<|Zv (jb rfl dY (dr.cell (Below.slT hB hl) eC ⟨⟨0,0⟩,0⟩ Om (by omega) 0 rfl) (dr.cell (Below.slT hB hl) eC ⟨⟨0,0⟩,0⟩ Om (by omega) 1 rfl) (dr.cell (Below.slT hB hl) eC ⟨⟨0,0⟩,0⟩ Om (by omega) 2 rfl))<|Zy (cM jP rfl λaC aD X Y d=> ?_)
 have Z:=ZO X hB
 obtain⟨hB,a,b⟩:=Y.k3 hB a b
 refine Zy (cA rfl rfl dY rfl d rfl rfl λaE j aa=> ?_)
 replace hB:=Zg hB j Z
 replace a:=At.grownAt a d j Dd
 replace b:=At.grownAt b d j Dd
 replace d:=aa
 refine ct<|Zr<|Zf rfl gD<|Zv (io rfl dh (At.cell d rfl) (At.cell d rfl))<|Zi rfl<|ZC (vs:=[.agg #[_,_], .int .i64 _]) zH (kx _ _ _ _ U V) rfl λaF aG ab ac=> ?_
 obtain⟨hB,a,b,d⟩:=ab.k4 hB a b d
 obtain⟨sa,er,rfl,hhP7_3⟩:=wu ac
 refine Zw (.tuple #[.agg #[_,_,_,_], .int .i64 _]) rfl<|Zv (c7 rfl)<|Zv (da rfl)<|Zy (cM ep rfl λad ae p af g=> ?_)
 have ag:=ZO p hB
 have ah:=Zn p a.lt
 have ai:=Zn p b.lt
 obtain⟨hB,a,b,d⟩:=af.k4 hB a b d
 replace g:At ae ad #[wv 0 0,wv 0 1,wv 0 2,wv 0 3] 40:=g
 refine Zy (cA rfl rfl cC rfl g rfl rfl λaH i aj=> ?_)
 replace hB:=Zg hB i ag
 replace a:=At.grownNe a ah i
 replace b:=At.grownNe b ai i
 replace d:=At.grownAt d g i Dd
 replace g:=aj
 refine ZZ rfl<|Zq<|Zr<|Zi rfl<|Zv (eV rfl rfl)<|ct<|ZQ rfl (λr=> ?_) λr=> ?_
 refine Zr<|Zv (v:=el 0) (gq)<|Zi rfl<|Zy (cA rfl rfl cC rfl a rfl rfl λaI ak al=> ?_)
 replace hB:=Zg hB ak f
 replace a:=al
 refine ZZ rfl<|Zt<|ex rfl cC a rfl (v1:= .int .i64 _) rfl ⟨hB,?_⟩
 obtain⟨hrr,her⟩:=hhP7_3.resolve_left (λh=>r h.2.2)
 rw[if_neg (VI (k:=k) (by omega) hrr),her]
 refine cx ?_
 obtain⟨hrr,hsa,_⟩:=hhP7_3.resolve_right (λh=>r (λe=>by rw[h.2]at e;cases e))
 subst hsa
 refine Zr<|Zf rfl fG<|Zl rfl dN d rfl<|Zi rfl<|Zv (ra rfl rfl Om (by simp only[IntKind.bits];omega))<|Zv (nh (n:=1) rfl rfl rfl (by show (l.getD k ⟨⟨0,0⟩,0⟩).o/2^out.toNat<256;omega) Dd)<|Zv (dO rfl rfl)<|ct<|ZQ rfl (λs=> ?_) λs=> ?_
 refine cI<|Zv (cz rfl cC rfl b)<|Zv (cz rfl cC rfl g)<|ZC (vs:=[.agg #[_,_,_,_], .agg #[_,_,_,_]]) qG (pC _ _ _) rfl λaJ aK ao ap=> ?_
 obtain⟨hB,a,b⟩:=ao.k3 hB a b
 obtain rfl:=ap
 refine Zy (cA rfl rfl cC rfl b rfl rfl λaL B aq=> ?_)
 replace hB:=Zg hB B S
 replace a:=At.grownNe a z B
 replace b:=aq
 refine ct<|ZT rfl rfl rfl ?_
 exact A _ _ (k+1) Za ⟨rfl,trivial⟩ ⟨hB,a,(by (rw[←XI (l:=l) (k:=k) (OD s)];exact b)),Om,(dT hq hrr),trivial⟩ Zo
 refine cx<|ZT rfl rfl rfl ?_
 exact A _ _ (k+1) Za ⟨rfl,trivial⟩ ⟨hB,a,(by (rw[←XJ (l:=l) (k:=k) (Qh s)];exact b)),Om,(dT hq hrr),trivial⟩ Zo
 refine cT<|Zr<|Zv (cz rfl cC rfl b)<|Zy (cA rfl rfl cC rfl a rfl rfl λaM C ar=> ?_)
 replace hB:=Zg hB C f
 replace b:=At.grownNe b (Ne.symm z) C
 replace a:=ar
 refine ZZ rfl<|Zt<|ex rfl cC a rfl (v1:= .int .i64 0) rfl ⟨hB,?_⟩
 obtain rfl:k=l.length:=by omega
 rw[if_pos (uX.2 ⟨by omega,hq⟩)]
theorem tT (S:Sp) (onV mayV:Value) (xa:Value) (l:List Rw) (w:World) (hon:dr eX 4 w onV S.on) (hmay:dr eX 4 w mayV S.may) (hl:dr gz 3 w xa l) (hlb:l.length≤2000000) (hlr:iH l) (h4:S.on.length≤20):
    Fn Tryz.prog 151 #[.agg #[.int .i64 S.n,onV,mayV],xa] w λv w'=>v= .bool (gH S l):=by
 refine cK (n:=49) Tryz.func151 rfl rfl rfl λhB=> ?_
 refine Zr<|Zy (du (c:= #[_,_,_]) rfl rfl λu W3 aa x a=> ?_)
 replace hB:=Ze hB x
 refine Zb rfl<|ct<|Zq<|Zr<|Zv (cz rfl d9 rfl a)<|ZC (vs:=[.agg #[_,_,_]]) oN (iQ S _ _ _ (Below.slT hB hon) (Below.slT hB hmay)) rfl λab ac y z=> ?_
 obtain⟨hB,a⟩:=y.k2 hB a
 obtain rfl:=z
 refine Zv (eK rfl)<|ZX rfl (λf=> ?_) λf=> ?_
 refine Zs<|Zs<|Zs<|Zs<|Zb rfl<|ct<|cN rfl<|Zr<|Zb rfl<|ct<|Zt<|cZ (v:= .bool false) rfl ⟨hB,?_⟩
 exact XF (kh f)
 refine Zv (cz rfl d9 rfl a)<|Zw xa rfl<|ZC (vs:=[.agg #[_,_,_],xa]) Jf (zX S _ _ _ l _ (Below.slT hB hon) (Below.slT hB hmay) (Below.slT hB hl) hlb hlr h4) rfl λad ae A B=> ?_
 obtain⟨hB,a⟩:=A.k2 hB a
 obtain rfl:=B
 refine Zv (eK rfl)<|Zb rfl<|ct<|ZQ rfl (λg=> ?_) λg=> ?_
 refine Zr<|Zb rfl<|ct<|Zt<|cZ (v:= .bool false) rfl ⟨hB,?_⟩
 exact Wi (kh g)
 refine cx<|Zq ?_
 have hr:dt S=true:=lA f
 have hm:km S l=true:=lA g
 obtain⟨h0,h8,h1,h5,h6,_⟩:=dw.1 hr
 refine Zr<|Zf rfl fw<|ZL onV rfl eh a rfl<|Zv (db (v:=onV) rfl (Below.slT hB hon) dQ)<|ZZ rfl<|cy ?_
 refine cW (σ:=(Nat)) [4,8,21,48] (λk=>[(21, .int .i64 (k:Int))]) (λk W=>(Below w.heap.size w W)∧(At W u _ 59)∧(k≤S.on.length)∧(∀q,q<k→Ep S l q=true)∧(True)) (λk=>S.on.length-k) (0) ⟨rfl,trivial⟩ ⟨hB,a,(me _),eO,trivial⟩ ?_
 rintro k af ag ⟨hB,a,hk,hq,_⟩ ah C
 refine Zr<|Zv (dq rfl rfl)<|ct<|Zq<|ZQ rfl (λD=> ?_) λD=> ?_
 refine cx<|Zq<|cy<|Zr<|Zi rfl<|Zv (dp (v:=onV) rfl (Below.slT hB hon) rfl dQ Om (by omega))<|Zv (eI rfl cC (dr.cell (Below.slT hB hon) dk 0 Om (by omega) 0 rfl) (dr.cell (Below.slT hB hon) dk 0 Om (by omega) 1 rfl) (dr.cell (Below.slT hB hon) dk 0 Om (by omega) 2 rfl) (dr.cell (Below.slT hB hon) dk 0 Om (by omega) 3 rfl))<|Zy (cM ep rfl λE F G H b=> ?_)
 have I:=ZO G hB
 obtain⟨hB,a⟩:=H.k2 hB a
 replace b:At F E #[wv 0 0,wv 0 1,wv 0 2,wv 0 3] 40:=b
 refine Zi rfl<|Zy (cA rfl rfl cC rfl b rfl rfl λai s J=> ?_)
 replace hB:=Zg hB s I
 replace a:=At.grownAt a b s Dd
 replace b:=J
 refine ct<|Zr<|Zw xa rfl<|Zf rfl gn<|Zl rfl cR a rfl<|Zi rfl<|ZC Rn (Bu _ l S.n (k:Int) _ (Below.slT hB hl) hlb hlr) rfl λaj ak K L=> ?_
 obtain⟨hB,a,b⟩:=K.k3 hB a b
 obtain⟨sa,er,rfl,hhP6_4⟩:=TP L
 refine Zw (.tuple #[.agg #[_,_,_,_], .int .i64 _]) rfl<|Zv (c7 rfl)<|Zv (da rfl)<|Zy (cM ep rfl λM N t O d=> ?_)
 have P:=ZO t hB
 have Q:=Zn t b.lt
 obtain⟨hB,a,b⟩:=O.k3 hB a b
 replace d:At N M #[wv 0 0,wv 0 1,wv 0 2,wv 0 3] 40:=d
 refine Zy (cA rfl rfl cC rfl d rfl rfl λal i R=> ?_)
 replace hB:=Zg hB i P
 replace a:=At.grownAt a d i Dd
 replace b:=At.grownNe b Q i
 replace d:=R
 refine ZZ rfl ?_
 obtain⟨_,hsa,_⟩:=hhP6_4.resolve_right (λh=>by have h2:=RP (l:=l) hr hm (show k<S.on.length by omega);rw[h.1]at h2;cases h2)
 rw[my]at hsa
 subst hsa
 refine Zd dA λT U=> ?_
 obtain⟨hB,a,b,d⟩:=U.k4 hB a b d
 have hS:=dA.refl T
 refine Tk 0 rfl (λ_ hq=>cz rfl cC rfl (hq.at b)) hS<|Tk 1 rfl (λ_ hq=>cz rfl cC rfl (hq.at d)) hS<|To 2 rfl (TC (vs:=[.agg #[_,_,_,_], .agg #[_,_,_,_]]) po (gS _ _ _) rfl λao ap j V=>⟨.inl (hS.trans j),?_⟩)
 have e:=hB
 have X:=a
 have Y:=d
 obtain⟨hB,a⟩:=j.k2 hB a
 replace hS:=hS.trans j
 obtain rfl:=V
 refine Tk 3 rfl (λ_ _=>eK rfl) hS<|Tx 4 rfl (λ_ _=>jV (v:= .bool _) rfl) hS (λm=> ?_) λm=> ?_
 refine Tp 5 rfl hS<|Tp 6 rfl hS<|Tp 7 rfl hS<|Tp 8 rfl hS<|Tp 9 rfl hS<|Tp 10 rfl hS<|Tp 11 rfl hS<|Tp 12 rfl hS<|Ty 13 rfl rfl hS<|Td<|cN rfl<|Zr<|Zb rfl<|ct ?_
 refine Zt<|cZ (v:= .bool false) rfl ⟨hB,?_⟩
 exact Wj (o:=k) Om (kh m)
 refine Tk 5 rfl (λ_ hq=>cz rfl cC rfl (hq.at Y)) hS<|Tf 6 rfl rfl fE hS<|Tk 7 rfl (λ_ hq=>cD (v:=mayV) rfl eh (At.cell (hq.at X) rfl)) hS<|Ti 8 rfl rfl hS<|Tk 9 rfl (λ_ hq=>dp (v:=mayV) rfl (hq.slT (Below.slT e hmay)) rfl dQ Om (by omega)) hS<|Tk 10 rfl (λ_ hq=>eI rfl cC (dr.cell (hq.slT (Below.slT e hmay)) dk 0 Om (by omega) 0 rfl) (dr.cell (hq.slT (Below.slT e hmay)) dk 0 Om (by omega) 1 rfl) (dr.cell (hq.slT (Below.slT e hmay)) dk 0 Om (by omega) 2 rfl) (dr.cell (hq.slT (Below.slT e hmay)) dk 0 Om (by omega) 3 rfl)) hS<|To 11 rfl (TC (vs:=[.agg #[_,_,_,_], .agg #[_,_,_,_]]) po (gS _ _ _) rfl λaq ar p Z=>⟨.inl (hS.trans p),?_⟩)
 obtain⟨hB,a⟩:=p.k2 hB a
 replace hS:=hS.trans p
 obtain rfl:=Z
 refine Tk 12 rfl (λ_ _=>eK rfl) hS<|Ty 13 rfl rfl hS<|Td<|ZQ rfl (λr=> ?_) λr=> ?_
 refine Zr<|Zb rfl<|ct<|Zt<|cZ (v:= .bool false) rfl ⟨hB,?_⟩
 exact Wn (o:=k) Om (kh r)
 refine cx<|ZT rfl rfl rfl ?_
 exact C _ _ (k+1) Za ⟨rfl,trivial⟩ ⟨hB,a,Om,(dT hq (Nu (lA m) (lA r))),trivial⟩ Zo
 refine cT<|Zr<|Zb rfl<|ct<|Zt<|cZ (v:= .bool true) rfl ⟨hB,?_⟩
 obtain rfl:k=S.on.length:=by omega
 exact Re (eW.2 ⟨hr,hm,hq⟩)
end
section
section
variable {s:List UInt8} {m u i k n:Nat}
theorem YT (k i:Nat):(1*2^k).testBit i=decide (i=k):=by
 grind
theorem Ee (s:List UInt8):∀k i,(A8 s k).testBit i=(decide (i<k)&&decide (gg s i=48∨gg s i=49))
 |0,i=>by simp[A8]
 |k+1,i=>by
  rw[A8]
  by_cases h:gg s k=48∨gg s k=49
  ·rw[if_pos h,acq,Ee s k i,YT]
   by_cases hi:i=k
   ·subst hi;simp[h]
   ·have e:decide (i<k+1)=decide (i<k):=decide_eq_decide.2 (by omega)
    rw[e,decide_eq_false hi,adq]
  ·rw[if_neg h,Ee s k i]
   by_cases hi:i=k
   ·subst hi;simp[h]
   ·have e:decide (i<k+1)=decide (i<k):=decide_eq_decide.2 (by omega)
    rw[e]
theorem Dk (s:List UInt8):∀k i,(Ap s k).testBit i=(decide (i<k)&&decide (gg s i=49))
 |0,i=>by simp[Ap]
 |k+1,i=>by
  rw[Ap]
  by_cases h:gg s k=49
  ·rw[if_pos h,acq,Dk s k i,YT]
   by_cases hi:i=k
   ·subst hi;simp[h]
   ·have e:decide (i<k+1)=decide (i<k):=decide_eq_decide.2 (by omega)
    rw[e,decide_eq_false hi,adq]
  ·rw[if_neg h,Dk s k i]
   by_cases hi:i=k
   ·subst hi;simp[h]
   ·have e:decide (i<k+1)=decide (i<k):=decide_eq_decide.2 (by omega)
    rw[e]
theorem Iu (h:s.length≤8):dS (ph s).m (ph s).v (s.length:Int)=true:=by
 refine dB.2 ⟨by omega,by omega,by rw[my];exact y5 s s.length,?_⟩
 refine aaF λi=> ?_
 show (Ap s s.length &&& A8 s s.length).testBit i=(Ap s s.length).testBit i
 grind [Ee,Dk,gg]
theorem Ld (h:jw s=true):s.length≤8:=by
 unfold jw at h
 grind
theorem y8 (h:i<k):gg (qw m u k) i=(EG m u i).toNat:=by
 grind [gg,qw,List.getElem?_range]
theorem Uz:(EG m u i).toNat=48∨(EG m u i).toNat=49↔m.testBit i=true:=by
 unfold EG
 rw[acD]
 by_cases h:m/2^i%2=0
 ·rw[if_pos h];simp[h]
 ·rw[if_neg h]
  have h1:m/2^i%2=1:=by omega
  by_cases h2:u/2^i%2=0
  all_goals simp_all
theorem U8:(EG m u i).toNat=49↔(m.testBit i=true∧u.testBit i=true):=by
 unfold EG
 rw[acD,acD]
 by_cases h:m/2^i%2=0
 ·rw[if_pos h];simp[h]
 ·rw[if_neg h]
  have h1:m/2^i%2=1:=by omega
  by_cases h2:u/2^i%2=0
  all_goals simp_all
theorem DW (m u i:Nat):kX (EG m u i).toNat=true:=by
 unfold EG
 by_cases h:m/2^i%2=0
 ·rw[if_pos h];rfl
 ·rw[if_neg h]
  by_cases h2:u/2^i%2=0
  ·rw[if_pos h2];rfl
  ·rw[if_neg h2];rfl
theorem Ru {n:Int} (h:dS m u n=true):jw (qw m u n.toNat)=true∧ph (qw m u n.toNat)=⟨m,u⟩:=by
 obtain⟨h0,h8,hm,hv⟩:=dB.1 h
 refine⟨CZ (by rw[l4];omega) λq hq=> ?_,?_⟩
 ·rw[l4]at hq
  rw[y8 hq]
  exact DW m u q
 ·have hml:∀i,n.toNat≤i→m.testBit i=false:=λi hi=>ac8 (ab0 hm (aaV (by decide) hi))
  have e1:A8 (qw m u n.toNat) (qw m u n.toNat).length=m:=by
   refine aaF λi=> ?_
   rw[Ee,l4]
   by_cases hi:i<n.toNat
   ·rw[y8 hi,decide_eq_true hi,ack]
    cases hb:m.testBit i
    ·exact decide_eq_false λe=>by rw[Uz.1 e]at hb;cases hb
    ·exact decide_eq_true (Uz.2 hb)
   ·rw[decide_eq_false hi,acs,hml i (by omega)]
  have e2:Ap (qw m u n.toNat) (qw m u n.toNat).length=u:=by
   refine aaF λi=> ?_
   have hv2:u.testBit i=true→m.testBit i=true:=λhb=>by
    rw[←hv,abd,so]at hb
    exact hb.2
   rw[Dk,l4]
   by_cases hi:i<n.toNat
   ·rw[y8 hi,decide_eq_true hi,ack]
    cases hb:u.testBit i
    ·exact decide_eq_false λe=>by rw[(U8.1 e).2]at hb;cases hb
    ·exact decide_eq_true (U8.2 ⟨hv2 hb,hb⟩)
   ·rw[decide_eq_false hi,acs]
    cases hb:u.testBit i
    ·rfl
    ·rw[hml i (by omega)]at hv2;exact absurd (hv2 hb) (by decide)
  grind [ph]
end
section
variable {l:Ln} {ni no:Int} {line:List UInt8}
theorem xM:∀(a b:List UInt8),(32:UInt8)∉a→Lib.index (a++32::b) [32]=(a.length:Int)
 |[],b,_=>by
  rw[aco,Lib.index]
  simp[List.isPrefixOf]
 |c::a,b,h=>by
  have h1:c≠32:=λe=>h XA
  have ih:=xM a b (λe=>h (abe _ e))
  rw[acB,Lib.index]
  have hp:([32]:List UInt8).isPrefixOf (c::(a++32::b))=false:=by simp[List.isPrefixOf,Ne.symm h1]
  rw[hp,ih]
  simp only[acZ,if_false,beq_iff_eq]
  rw[if_neg (by omega)]
  simp
theorem D4 (h:(32:UInt8)∉a):Lib.cut (a++32::b) [32]=(a,b,true):=by
 unfold Lib.cut
 rw[xM a b h,if_pos (by omega),my]
 simp_all
theorem NT (m u n:Nat):(32:UInt8)∉qw m u n:=by
 intro h
 obtain⟨i,_,e⟩:=abS.1 h
 have:=DW m u i
 rw[e]at this
 cases this
theorem FA (h:0≤x∧x<3):rW (HS x).toNat=x∧kX (HS x).toNat=true:=by
 have:x=0∨x=1∨x=2:=by omega
 rcases this with rfl|rfl|rfl<;>exact⟨rfl,rfl⟩
theorem Lo (h:∀x,x∈os→0≤x∧x<3):iJ (lR os)=os:=by
 unfold iJ lR
 rw[List.map_map]
 conv=>rhs;rw[←List.map_id os]
 grind [List.map_congr_left,FA]
theorem FQ (ni:Int) (l:Ln):Lib.cut (wr ni l) [32]=(qw l.c.m l.c.v ni.toNat,lR l.os,true):=by
 grind [wr,zo,List.append_assoc,D4,NT]
theorem S5 (h:pK ni no l=true) (hn:0≤ni):gR ni no (wr ni l)=true∧pN (wr ni l)=l:=by
 obtain⟨h1,h2,h3⟩:=nZ.1 h
 obtain⟨k1,k2⟩:=Ru h1
 refine⟨sS.2 ?_,?_⟩
 ·rw[FQ]
  refine⟨rfl,k1,by rw[l4];omega,by rw[pG];exact h2,λq hq=> ?_⟩
  simp only[pG]at hq
  have e:gg (lR l.os) q=(HS (l.os.getD q 0)).toNat:=by
   unfold gg lR
   rw[Do,List.getElem?_map,th hq,Do,th hq]
   rfl
  simp only[e]
  exact(FA (h3 _ (w8 (d:=0) hq))).2
 ·unfold pN
  rw[FQ]
  simp only[k2,Lo h3]
theorem LU (h:gR ni no line=true):pK ni no (pN line)=true:=by
 obtain⟨_,h2,h3,h4,h5⟩:=sS.1 h
 refine nZ.2 ⟨?_,?_,?_⟩
 ·rw[←h3];exact Iu (Ld h2)
 ·show ((iJ _).length:Int)=no
  rw[mu];exact h4
 ·intro x hx
  obtain⟨b,hb,rfl⟩:=abS.1 hx
  obtain⟨i,hi,rfl⟩:=List.getElem_of_mem hb
  have h6:=h5 i hi
  have e:gg (Lib.cut line [32]).2.1 i=((Lib.cut line [32]).2.1[i]).toNat:=by
   unfold gg
   rw[Do,th hi]
   rfl
  rw[e]at h6
  generalize ((Lib.cut line [32]).2.1[i]).toNat=b at h6
  unfold kX at h6
  simp only[acr,beq_iff_eq]at h6
  rcases h6 with (h6|h6)|h6<;>subst h6<;>decide
end
theorem Jh {lo hi:Int} (h0:0≤lo) (h:fJ line word lo hi≥0):lo≤fJ line word lo hi∧fJ line word lo hi≤hi:=by
 unfold fJ at*
 grind
structure Rk (r:Rd):Prop where
 k0:0≤r.T.kind
 k3:r.T.kind≤3
 i:1≤r.st→0≤r.T.ni∧r.T.ni≤8
 o:2≤r.st→1≤r.T.no∧r.T.no≤4
 len:r.T.ls.length≤64
 all:∀l,l∈r.T.ls→pK r.T.ni r.T.no l=true
 early:r.st<4→r.T.ls=[]
 s0:0≤r.st
theorem U9 (h:J3 b=0):b=true:=by
 grind [J3]
section
variable {r:Rd} {l:List UInt8}
theorem Rk.take (h:Rk r) (he:(fi r l).2=0):Rk (fi r l).1:=by
 have hlen:=GO h.len he
 have hs0:=h.s0
 revert he hlen
 unfold fi
 by_cases h0:r.st=0
 ·rw[if_pos h0]
  intro he _
  have hn:=Jh (by decide) (of_decide_eq_true (U9 he))
  have hl:=h.early (by omega)
  exact⟨h.k0,h.k3,λ_=>hn,λh2=>absurd h2 (by show ¬2≤r.st+1;omega),h.len,λl hl2=>(by rw[show ({r.T with ni:=fJ _ [46,105] 0 8}:Tb).ls=[] from hl]at hl2;cases hl2),λ_=>hl,by show 0≤r.st+1;omega⟩
 rw[if_neg h0]
 by_cases h1:r.st=1
 ·rw[if_pos h1]
  intro he _
  have hn:=Jh (by decide) (of_decide_eq_true (U9 he))
  have hl:=h.early (by omega)
  exact⟨h.k0,h.k3,λ_=>h.i (by omega),λ_=>hn,h.len,λl hl2=>(by rw[show ({r.T with no:=fJ _ [46,111] 1 4}:Tb).ls=[] from hl]at hl2;cases hl2),λ_=>hl,by show 0≤r.st+1;omega⟩
 rw[if_neg h1]
 by_cases h5:r.st=5
 ·rw[if_pos h5]
  intro he
  cases he
 rw[if_neg h5]
 have hi:=h.i (by omega)
 have ho:=h.o (by omega)
 by_cases hp:Lib.hasPrefix l ie=true∧r.st=2
 ·rw[if_pos hp]
  have hl:=h.early (by omega)
  cases hk:Cl (Lib.trimPrefix l ie)with
  |none=>intro he;cases he
  |some k=>
   intro _ _
   have hk3:k≤3:=by
    unfold Cl at hk
    repeat' split at hk
    all_goals first|(cases hk;decide)|cases hk
   exact⟨show (0:Int)≤(k:Int)by omega,show (k:Int)≤3 by omega,λ_=>hi,λ_=>ho,h.len,h.all,λ_=>hl,show (0:Int)≤3 by decide⟩
 rw[if_neg hp]
 by_cases hn:fJ l [46,112] 0 64≥0∧r.st≤3
 ·rw[if_pos hn]
  intro _ _
  exact⟨h.k0,h.k3,λ_=>hi,λ_=>ho,h.len,h.all,λh4=>absurd h4 (show ¬(4:Int)<4 by decide),show (0:Int)≤4 by decide⟩
 rw[if_neg hn]
 by_cases he:l=[46,101]
 ·rw[if_pos he]
  intro _ _
  exact⟨h.k0,h.k3,λ_=>hi,λ_=>ho,h.len,h.all,λh4=>absurd h4 (show ¬(5:Int)<4 by decide),show (0:Int)≤5 by decide⟩
 rw[if_neg he]
 by_cases hr:gR r.T.ni r.T.no l=true
 ·rw[if_pos hr]
  intro _ hlen
  refine⟨h.k0,h.k3,λ_=>hi,λ_=>ho,hlen,λx hx=> ?_,λh4=>absurd h4 (show ¬(4:Int)<4 by decide),show (0:Int)≤4 by decide⟩
  rcases aaQ.1 hx with hx|hx
  ·exact h.all x hx
  ·rw[aaG]at hx
   rw[hx]
   exact LU hr
 all_goals grind
theorem I3 {ls:List (List UInt8)}:∀k,k≤ls.length→(∀q,q<k→lx (iD ls q) (ls.getD q [])=0)→Rk (iD ls k)
 |0,_,_=>by
  rw[FY]
  exact⟨by decide,by decide,λh=>absurd h (by decide),λh=>absurd h (by decide),by decide,λl hl=>(by cases hl),λ_=>rfl,by decide⟩
 |k+1,hk,hq=>by
  have ih:=I3 k (by omega) (λq h=>hq q (by omega))
  have he:=hq k (by omega)
  rw[mM (by omega)]
  cases hs:oR (ls.getD k [])with
  |true=>rw[(jd hs).1];exact ih
  |false=>rw[(fQ hs).1];rw[(fQ hs).2]at he;exact ih.take he
end
section
variable {s:List UInt8}
theorem rP (s:List UInt8):((cF s).2.2≠0∧(cF s).1=QL)∨((cF s).2.2=0∧(cF s).2.1=0∧fy (cF s).1=true):=by
 by_cases h8:8000<s.length
 ·rw[Ax h8];exact .inl ⟨by decide,rfl⟩
 ·have hn:(cQ s).length=((cQ s).length-1)+1:=by have:=ads.2 (mm s);omega
  cases hb:Dl (cQ s) ((cQ s).length-1)with
  |some k=>
   have e:cF s=(QL,k,lx (iD (cQ s) k) ((cQ s).getD k [])):=by
    unfold cF
    rw[if_neg h8,hb]
   rw[e]
   unfold Dl at hb
   have:=List.find?_some hb
   exact .inl ⟨by simpa using this,rfl⟩
  |none=>
   have hq:=LZ hb
   by_cases he:(cQ s).getD ((cQ s).length-1) []=[]
   ·by_cases h5:(iD (cQ s) ((cQ s).length-1)).st=5
    ·rw[Ds h8 hn hq he h5]
     refine .inr ⟨rfl,rfl,?_⟩
     have hR:=I3 ((cQ s).length-1) (by omega) hq
     have hi:=hR.i (by omega)
     have ho:=hR.o (by omega)
     unfold fy
     rw[decide_eq_true ⟨hR.k0,hR.k3,hi.1,hi.2,ho.1,ho.2,hR.len⟩,ack]
     exact aa1.2 hR.all
    ·rw[y7 h8 hn hq he h5];exact .inl ⟨show (7:Int)≠0 by decide,rfl⟩
   ·rw[zK h8 hn hq he];exact .inl ⟨show (2:Int)≠0 by decide,rfl⟩
theorem xn (h:(cF s).2.2=0):fy (cF s).1=true:=by
 grind [rP]
theorem Gg (h:fy T=true):∀i,i<T.ls.length→(T.ls.getD i jH).c.m<256∧(T.ls.getD i jH).c.v<256:=λi hi=>by
 obtain⟨h1,_⟩:=nZ.1 (pu h hi)
 obtain⟨_,h8,hm,hv⟩:=dB.1 h1
 have h2:2^T.ni.toNat≤256:=by
  have:=aaV (show 0<2 by decide) (show T.ni.toNat≤8 by omega)
  simpa using this
 have h3:(T.ls.getD i jH).c.v≤(T.ls.getD i jH).c.m:=by rw[←hv];exact acX
 omega
theorem vS (s:List UInt8):∀i,i<(cF s).1.ls.length→((cF s).1.ls.getD i jH).c.m<256∧((cF s).1.ls.getD i jH).c.v<256:=by
 rcases rP s with ⟨_,h⟩|⟨_,_,h⟩
 ·rw[h];intro i hi;cases hi
 ·exact Gg h
end
def gT (T:Tb):List (List UInt8):=
 [[46,105]++32::iv T.ni.toNat,[46,111]++32::iv T.no.toNat,ie++gr.getD T.kind.toNat [],[46,112]++32::iv T.ls.length]++(T.ls.map (wr T.ni)++[[46,101]])
theorem A5:∀(a b:List UInt8),(10:UInt8)∉a→cQ (a++10::b)=a::cQ b
 |[],b,_=>by rw[aco,cQ,if_pos rfl]
 |c::a,b,h=>by
  have h1:c≠10:=λe=>h XA
  rw[acB,cQ,if_neg h1,A5 a b (λe=>h (abe _ e))]
theorem AH:∀(ls:List (List UInt8)),(∀l,l∈ls→(10:UInt8)∉l)→cQ (ls.flatMap λl=>l++[10])=ls++[[]]
 |[],_=>rfl
 |l::ls,h=>by
  rw[ach,ab7,List.singleton_append,A5 l _ (h l aaZ),AH ls (λx hx=>h x (abe _ hx))]
  rfl
theorem uU (T:Tb):∀k,k≤T.ls.length→ja T k=GG T++((T.ls.take k).map (wr T.ni)).flatMap λl=>l++[10]
 |0,_=>by simp[ja]
 |k+1,hk=>by
  rw[ja,uU T k (by omega),acg,th (by omega),List.map_append,List.flatMap_append,Do,th (by omega)]
  simp
theorem G6 (T:Tb):js T=(gT T).flatMap λl=>l++[10]:=by
 unfold js gT
 rw[uU T _ (am _),aaY]
 unfold GG ie
 simp
theorem Ah (n:Nat) (h:n<100):(10:UInt8)∉iv n:=by
 have:∀n,n<100→(10:UInt8)∉iv n:=by decide+kernel
 exact this n h
theorem MU (h:fy T=true):∀l,l∈gT T→(10:UInt8)∉l:=by
 obtain⟨hk0,hk3,hi0,hi8,ho1,ho4,h64⟩:=iV h
 intro l hl
 unfold gT at hl
 simp only[aaQ,ab9,abS,List.not_mem_nil,or_false]at hl
 rcases hl with (rfl|rfl|rfl|rfl)|(⟨x,hx,rfl⟩|rfl)
 ·have:=Ah T.ni.toNat (by omega);simp[this]
 ·have:=Ah T.no.toNat (by omega);simp[this]
 ·obtain⟨q,hq⟩:=ab2 hk0
  rw[hq,my]
  have h4:q<4:=by omega
  unfold ie
  match q,h4 with
  |0,_|1,_|2,_|3,_=>decide
 ·have:=Ah T.ls.length (by omega);simp[this]
 ·unfold wr zo
  intro hm
  simp only[aaQ,aaG]at hm
  rcases hm with (hm|hm)|hm
  ·obtain⟨i,_,e⟩:=abS.1 hm
   have:=DW x.c.m x.c.v i
   rw[e]at this;cases this
  ·cases hm
  ·obtain⟨y,hy,e⟩:=abS.1 hm
   unfold HS at e
   split at e
   ·cases e
   ·split at e<;>cases e
 ·decide
section
variable {T:Tb} {r:Rd}
theorem yN {word:List UInt8} {n:Nat} {lo hi:Int} (hn:n<100) (h1:lo≤(n:Int)) (h2:(n:Int)≤hi):fJ (word++32::iv n) word lo hi=(n:Int):=by
 unfold fJ
 rw[tu hn rfl]
 grind
theorem K5 (h:b=true):J3 b=0:=by rw[h];rfl
theorem sU (l:List UInt8):oR (46::l)=false:=rfl
theorem Mj (h:fy T=true):∃r,((gT T).take 4).foldl kW HE=r∧r=⟨⟨T.kind,T.ni,T.no,[]⟩,4,(T.ls.length:Int)⟩∧lx HE ((gT T).getD 0 [])=0∧
  lx (kW HE ((gT T).getD 0 [])) ((gT T).getD 1 [])=0∧lx (kW (kW HE ((gT T).getD 0 [])) ((gT T).getD 1 [])) ((gT T).getD 2 [])=0∧
  lx (kW (kW (kW HE ((gT T).getD 0 [])) ((gT T).getD 1 [])) ((gT T).getD 2 [])) ((gT T).getD 3 [])=0:=by
 obtain⟨hk0,hk3,hi0,hi8,ho1,ho4,h64⟩:=iV h
 obtain⟨qk,hqk⟩:=ab2 hk0
 have a0:fi HE ([46,105]++32::iv T.ni.toNat)=(⟨⟨1,T.ni,0,[]⟩,1,-1⟩,0):=by
  rw[Wh rfl,yN (by omega) (by omega) (by omega),show ((T.ni.toNat:Nat):Int)=T.ni by omega,K5 (decide_eq_true hi0)]
  rfl
 have a1:fi ⟨⟨1,T.ni,0,[]⟩,1,-1⟩ ([46,111]++32::iv T.no.toNat)=(⟨⟨1,T.ni,T.no,[]⟩,2,-1⟩,0):=by
  rw[Xd (show ¬(1:Int)=0 by decide) rfl,yN (by omega) (by omega) (by omega),show ((T.no.toNat:Nat):Int)=T.no by omega,K5 (decide_eq_true (by omega))]
  rfl
 have a2:fi ⟨⟨1,T.ni,T.no,[]⟩,2,-1⟩ (ie++gr.getD T.kind.toNat [])=(⟨⟨T.kind,T.ni,T.no,[]⟩,3,-1⟩,0):=by
  rw[WI (i:=qk) (show ¬(2:Int)=0 by decide) (show ¬(2:Int)=1 by decide) (show ¬(2:Int)=5 by decide) (mD.2 ⟨_,rfl⟩) rfl (by omega) (by rw[qz,hqk];rfl),hqk]
 have a3:fi ⟨⟨T.kind,T.ni,T.no,[]⟩,3,-1⟩ ([46,112]++32::iv T.ls.length)=(⟨⟨T.kind,T.ni,T.no,[]⟩,4,(T.ls.length:Int)⟩,0):=by
  rw[WE (show ¬(3:Int)=0 by decide) (show ¬(3:Int)=1 by decide) (show ¬(3:Int)=5 by decide) (λe=>absurd e.2 (show ¬(3:Int)=2 by decide)) (by rw[yN (by omega) (by omega) (by omega)];omega) (show (3:Int)≤3 by decide),yN (by omega) (by omega) (by omega)]
 have s0:=fQ (r:=HE) (sU ([105]++32::iv T.ni.toNat))
 have s1:=fQ (r:=⟨⟨1,T.ni,0,[]⟩,1,-1⟩) (sU ([111]++32::iv T.no.toNat))
 have s2:=fQ (r:=⟨⟨1,T.ni,T.no,[]⟩,2,-1⟩) (sU ([116,121,112,101,32]++gr.getD T.kind.toNat []))
 have s3:=fQ (r:=⟨⟨T.kind,T.ni,T.no,[]⟩,3,-1⟩) (sU ([112]++32::iv T.ls.length))
 have e0:kW HE ((gT T).getD 0 [])=⟨⟨1,T.ni,0,[]⟩,1,-1⟩:=s0.1.trans (congrArg Prod.fst a0)
 have e1:kW ⟨⟨1,T.ni,0,[]⟩,1,-1⟩ ((gT T).getD 1 [])=⟨⟨1,T.ni,T.no,[]⟩,2,-1⟩:=s1.1.trans (congrArg Prod.fst a1)
 have e2:kW ⟨⟨1,T.ni,T.no,[]⟩,2,-1⟩ ((gT T).getD 2 [])=⟨⟨T.kind,T.ni,T.no,[]⟩,3,-1⟩:=s2.1.trans (congrArg Prod.fst a2)
 have e3:kW ⟨⟨T.kind,T.ni,T.no,[]⟩,3,-1⟩ ((gT T).getD 3 [])=⟨⟨T.kind,T.ni,T.no,[]⟩,4,(T.ls.length:Int)⟩:=s3.1.trans (congrArg Prod.fst a3)
 refine⟨_,rfl,?_,s0.2.trans (congrArg Prod.snd a0),?_,?_,?_⟩
 ·show kW (kW (kW (kW HE ((gT T).getD 0 [])) ((gT T).getD 1 [])) ((gT T).getD 2 [])) ((gT T).getD 3 [])=_
  rw[e0,e1,e2,e3]
 ·rw[e0];exact s1.2.trans (congrArg Prod.snd a1)
 ·rw[e0,e1];exact s2.2.trans (congrArg Prod.snd a2)
 ·rw[e0,e1,e2];exact s3.2.trans (congrArg Prod.snd a3)
theorem PI:∃c r,wr ni l=c::r∧c≠46∧c≠35:=by
 unfold wr zo qw
 cases h:ni.toNat with
 |zero=>exact⟨32,lR l.os,rfl,by decide,by decide⟩
 |succ k=>
  rw[List.range_succ_eq_map]
  have:=DW l.c.m l.c.v 0
  refine⟨EG l.c.m l.c.v 0,_,by rw[ac0,acB,acB],λe=> ?_,λe=> ?_⟩<;>rw[e]at this<;>cases this
theorem BZ (hl:pK T.ni T.no l=true) (hn:0≤T.ni) {ls:List Ln} (hlen:ls.length<64):
  kW ⟨⟨T.kind,T.ni,T.no,ls⟩,4,told⟩ (wr T.ni l)=⟨⟨T.kind,T.ni,T.no,ls++[l]⟩,4,told⟩∧lx ⟨⟨T.kind,T.ni,T.no,ls⟩,4,told⟩ (wr T.ni l)=0:=by
 obtain⟨c,rest,hc,h46,h35⟩:=PI (l:=l) (ni:=T.ni)
 obtain⟨h1,h2⟩:=S5 hl hn
 have hsk:oR (wr T.ni l)=false:=by
  rw[hc]
  refine mY fF λe=>h35 ?_
  have:c.toNat=35:=by
   have e2:((gg (c::rest) 0:Nat):Int)=(c.toNat:Int):=rfl
   omega
  exact UInt8.toNat.inj this
 have hne:¬wr T.ni l=[46,101]:=by rw[hc];intro e;exact h46 (acP e).1
 have hnum:fJ (wr T.ni l) [46,112] 0 64= -1:=by
  unfold fJ
  rw[nI λk _ e=>h46 (by rw[hc]at e;exact(acP e).1)]
 have hk:=S0 (r:=⟨⟨T.kind,T.ni,T.no,ls⟩,4,told⟩) (l:=wr T.ni l) (show ¬(4:Int)=0 by decide) (show ¬(4:Int)=1 by decide) (show ¬(4:Int)=5 by decide) (λe=>absurd e.2 (show ¬(4:Int)=2 by decide)) (λe=>absurd e.2 (show ¬(4:Int)≤3 by decide)) hne h1
 have hs:=fQ (r:=⟨⟨T.kind,T.ni,T.no,ls⟩,4,told⟩) hsk
 grind
theorem Su (a b:List (List UInt8)) (k:Nat) (hk:k≤b.length):iD (a++b) (a.length+k)=(b.take k).foldl kW (iD a a.length):=by
 grind [iD,List.take_length_add_append,List.take_length]
theorem wR (a b:List (List UInt8)) (k:Nat):(a++b).getD (a.length+k) []=b.getD k []:=by
 grind
theorem Ce (h:fy T=true) (told:Int):∀k,k≤T.ls.length→((T.ls.map (wr T.ni)).take k).foldl kW ⟨⟨T.kind,T.ni,T.no,[]⟩,4,told⟩=⟨⟨T.kind,T.ni,T.no,T.ls.take k⟩,4,told⟩
 |0,_=>rfl
 |k+1,hk=>by
  obtain⟨_,_,hi0,_,_,_,h64⟩:=iV h
  have hl:=pu h (show k<T.ls.length by omega)
  rw[acg,List.getElem?_map,th (by omega),List.foldl_append,Ce h told k (by omega)]
  rw[Do,th (show k<T.ls.length by omega)]at hl
  have:=(BZ hl hi0 (ls:=T.ls.take k) IA (told:=told)).1
  rw[acg,th (by omega)]
  exact this
theorem Ag (h:fy T=true):(js T).length≤1000:=by
 obtain⟨_,_,_,_,_,_,h64⟩:=iV h
 have:=oQ h T.ls.length (am _)
 grind [js,List.length_append,List.length_cons,List.length_nil]
theorem Gc (h:fy T=true):cF (js T)=(T,0,0):=by
 obtain⟨hk0,hk3,hi0,hi8,ho1,ho4,h64⟩:=iV h
 have hL:cQ (js T)=gT T++[[]]:=by rw[G6];exact AH _ (MU h)
 have hlen:(gT T).length=T.ls.length+5:=by unfold gT;simp
 have hn:(cQ (js T)).length=(T.ls.length+5)+1:=by rw[hL,An,hlen];rfl
 obtain⟨r,hr,hre,q0,q1,q2,q3⟩:=Mj h
 have hsplit:gT T=(gT T).take 4++(T.ls.map (wr T.ni)++[[46,101]]):=rfl
 have hget:∀q,q<T.ls.length+5→(cQ (js T)).getD q []=(gT T).getD q []:=λq hq=>by
  rw[hL]
  simp only[Do]
  rw[acI (by omega)]
 have hrd:∀q,q≤T.ls.length+5→iD (cQ (js T)) q=iD (gT T) q:=λq hq=>by
  unfold iD
  rw[hL,adr (by omega)]
 have hrow:∀k,k≤T.ls.length→iD (gT T) (4+k)=⟨⟨T.kind,T.ni,T.no,T.ls.take k⟩,4,(T.ls.length:Int)⟩:=λk hk=>by
  have e4:iD ((gT T).take 4) 4=r:=by unfold iD;rw[←hr];rfl
  have:=Su ((gT T).take 4) (T.ls.map (wr T.ni)++[[46,101]]) k ix
  rw[←hsplit]at this
  have e5:((gT T).take 4).length=4:=rfl
  rw[e5,e4,hre,adr (by simpa using hk),Ce h _ k hk]at this
  exact this
 have hlast:fi ⟨T,4,(T.ls.length:Int)⟩ [46,101]=(⟨T,5,(T.ls.length:Int)⟩,0):=by
  rw[R8 (show ¬(4:Int)=0 by decide) (show ¬(4:Int)=1 by decide) (show ¬(4:Int)=5 by decide) (λe=>absurd e.2 (show ¬(4:Int)=2 by decide)) (λe=>absurd e.2 (show ¬(4:Int)≤3 by decide)) rfl]
  rw[K5 fF]
 have hall:iD (gT T) (4+T.ls.length)=⟨T,4,(T.ls.length:Int)⟩:=by rw[hrow _ (am _),aaY]
 have hgl:(gT T).getD (4+T.ls.length) []=[46,101]:=by
  have e:gT T=((gT T).take 4++T.ls.map (wr T.ni))++[[46,101]]:=rfl
  rw[e]
  have:=wR ((gT T).take 4++T.ls.map (wr T.ni)) [[46,101]] 0
  have e2:((gT T).take 4++T.ls.map (wr T.ni)).length=4+T.ls.length:=by simp[gT];omega
  rw[e2]at this
  exact this
 have hfin:iD (gT T) (T.ls.length+5)=⟨T,5,(T.ls.length:Int)⟩:=by
  rw[show T.ls.length+5=(4+T.ls.length)+1 by omega,mM (by omega),hall,hgl,(fQ (sU [101])).1,hlast]
 have hq:∀q,q<T.ls.length+5→lx (iD (cQ (js T)) q) ((cQ (js T)).getD q [])=0:=λq hq=>by
  rw[hget q hq,hrd q (by omega)]
  have r1:iD (gT T) 1=kW HE ((gT T).getD 0 []):=rfl
  have r2:iD (gT T) 2=kW (kW HE ((gT T).getD 0 [])) ((gT T).getD 1 []):=rfl
  have r3:iD (gT T) 3=kW (kW (kW HE ((gT T).getD 0 [])) ((gT T).getD 1 [])) ((gT T).getD 2 []):=rfl
  by_cases h4:q<4
  ·match q,h4 with
   |0,_=>exact q0
   |1,_=>rw[r1];exact q1
   |2,_=>rw[r2];exact q2
   |3,_=>rw[r3];exact q3
  ·obtain⟨k,rfl⟩:∃k,q=4+k:=⟨q-4,by omega⟩
   by_cases hk:k<T.ls.length
   ·rw[hrow k (by omega)]
    have hl:=pu h hk
    have hg:(gT T).getD (4+k) []=wr T.ni (T.ls.getD k jH):=by
     have:=wR ((gT T).take 4) (T.ls.map (wr T.ni)++[[46,101]]) k
     rw[←hsplit]at this
     refine this.trans ?_
     simp only[Do]
     rw[acI (by simpa using hk),List.getElem?_map,th hk]
     rfl
    rw[hg]
    exact(BZ hl hi0 (ls:=T.ls.take k) IA).2
   ·obtain rfl:k=T.ls.length:=by omega
    rw[hall,hgl,(fQ (sU [101])).2,hlast]
 have hend:(cQ (js T)).getD (T.ls.length+5) []=[]:=by
  rw[hL]
  have:=wR (gT T) [[]] 0
  rw[hlen]at this
  exact this
 have hT:=Ag h
 rw[Ds (by omega) hn hq hend (by rw[hrd _ (am _),hfin]),hrd _ (am _),hfin]
end
end
section
def tG (T:Tb) (o:Nat) (m:Int):Nat→Nat
 |0=>0
 |k+1=>if (T.ls.getD k jH).os.getD o 0=m then tG T o m k ||| rj (T.ls.getD k jH).c.m (T.ls.getD k jH).c.v T.ni.toNat else tG T o m k
def oz (T:Tb) (o:Nat) (m:Int):Nat:=tG T o m T.ls.length
def Pj (k:Int) (all ones nz fr:Nat):Nat:=if k=0 then ones else if k=1 then ones ||| fr else andNot all nz
def BH (T:Tb) (o:Nat):Nat:=Pj T.kind (fk T.ni.toNat) (oz T o 1) (oz T o 0) (oz T o 2)
def od (T:Tb) (o:Nat):Bool:=decide (2≤T.kind)&&decide (oz T o 1 &&& oz T o 0≠0)
def pR (T:Tb) (k:Nat):List Nat:=(List.range k).map λo=>oz T o 1
def ly (T:Tb) (k:Nat):List Nat:=(List.range k).map (BH T)
def eq (T:Tb):Sp:=⟨T.ni,pR T T.no.toNat,ly T T.no.toNat⟩
def oD (T:Tb):Int:=if fy T=true then (if (List.range T.no.toNat).any (od T)=true then 4 else 0)else 1
section
variable {T:Tb} {o k p:Nat} {m:Int}
theorem Vt (h:(T.ls.getD k jH).os.getD o 0=m):tG T o m k ||| rj (T.ls.getD k jH).c.m (T.ls.getD k jH).c.v T.ni.toNat=tG T o m (k+1):=(if_pos h).symm
theorem O5 (h:¬(T.ls.getD k jH).os.getD o 0=m):tG T o m k=tG T o m (k+1):=(if_neg h).symm
theorem uL (hn:T.ni.toNat≤8) (p:Nat):∀k,(tG T o m k).testBit p=true↔p<2^T.ni.toNat∧∃j,j<k∧(T.ls.getD j jH).os.getD o 0=m∧hold (T.ls.getD j jH).c p
 |0=>by simp[tG]
 |k+1=>by
  have ih:=uL hn p k
  rw[tG]
  split
  ·rename_i h
   rw[acq,acr,ih,kg hn,so,decide_eq_true_eq,decide_eq_true_eq]
   constructor
   ·rintro(⟨h1,j,hj,r⟩|⟨h1,h2⟩)
    ·exact⟨h1,j,by omega,r⟩
    ·exact⟨h1,k,by omega,h,h2⟩
   ·rintro⟨h1,j,hj,r⟩
    rcases aaU.1 hj with hj|rfl
    ·exact .inl ⟨h1,j,hj,r⟩
    ·exact .inr ⟨h1,r.2⟩
  ·rename_i h
   rw[ih]
   constructor
   ·rintro⟨h1,j,hj,r⟩;exact⟨h1,j,by omega,r⟩
   ·rintro⟨h1,j,hj,r⟩
    rcases aaU.1 hj with hj|rfl
    ·exact⟨h1,j,hj,r⟩
    ·exact absurd r.1 h
theorem JY (h:fy T=true):T.ni.toNat≤8:=by obtain⟨_,_,_,h8,_⟩:=iV h;omega
theorem Ot (hn:T.ni.toNat≤8) (hp:256≤p):(tG T o m k).testBit p=false:=aaT.2 λh=>by
 have h1:=((uL hn p k).1 h).1
 have h2:2^T.ni.toNat≤256:=by
  have:=aaV (show 0<2 by decide) hn
  simpa using this
 omega
theorem Wg (hn:T.ni.toNat≤8):oz T o m<2^256:=gI.2 λj hj=>Ot hn hj
theorem Qi (h:s<2^256):(((wd s 0:Nat):Int)=((wd 0 0:Nat):Int)∧((wd s 1:Nat):Int)=((wd 0 1:Nat):Int)∧((wd s 2:Nat):Int)=((wd 0 2:Nat):Int)∧((wd s 3:Nat):Int)=((wd 0 3:Nat):Int))↔s=0:=by
 constructor
 ·rintro⟨h0,h1,h2,h3⟩
  exact Te h (by decide) (by omega) (by omega) (by omega) (by omega)
 all_goals grind
theorem V7 (h:a<2^256):a &&& b<2^256:=by grind [Nat.lt_of_le_of_lt,Nat.and_le_left]
theorem Uc (h2:2≤T.kind) (hn:T.ni.toNat≤8) (h:¬(((wd (oz T o 1 &&& oz T o 0) 0:Nat):Int)=((wd 0 0:Nat):Int)∧((wd (oz T o 1 &&& oz T o 0) 1:Nat):Int)=((wd 0 1:Nat):Int)∧((wd (oz T o 1 &&& oz T o 0) 2:Nat):Int)=((wd 0 2:Nat):Int)∧((wd (oz T o 1 &&& oz T o 0) 3:Nat):Int)=((wd 0 3:Nat):Int))):od T o=true:=by
 unfold od
 grind
theorem Sg (hn:T.ni.toNat≤8) (h:¬¬(((wd (oz T o 1 &&& oz T o 0) 0:Nat):Int)=((wd 0 0:Nat):Int)∧((wd (oz T o 1 &&& oz T o 0) 1:Nat):Int)=((wd 0 1:Nat):Int)∧((wd (oz T o 1 &&& oz T o 0) 2:Nat):Int)=((wd 0 2:Nat):Int)∧((wd (oz T o 1 &&& oz T o 0) 3:Nat):Int)=((wd 0 3:Nat):Int))):od T o=false:=by
 unfold od
 rw[decide_eq_false (p:=oz T o 1 &&& oz T o 0≠0) λe=>e ((Qi (V7 (Wg hn))).1 (aaS h)),acM]
theorem JJ (h:¬2≤T.kind):od T o=false:=by unfold od;rw[decide_eq_false h,acs]
theorem Lu (T:Tb) (k:Nat):pR T (k+1)=pR T k++[oz T k 1]:=by grind [pR,List.range_succ]
theorem HH (T:Tb) (k:Nat):ly T (k+1)=ly T k++[BH T k]:=by grind [ly,List.range_succ]
theorem kq (T:Tb) (k:Nat):(pR T k).length=k:=by simp[pR]
theorem qM (T:Tb) (k:Nat):(ly T k).length=k:=by simp[ly]
theorem Hg (T:Tb) (h:k<n):(pR T n).getD k 0=oz T k 1:=by simp[pR,h]
theorem BV (T:Tb) (h:k<n):(ly T n).getD k 0=BH T k:=by simp[ly,h]
theorem Yy (h:¬fy T=true):oD T=1:=if_neg h
theorem aao (h:fy T=true) (ho:o<T.no.toNat) (hc:od T o=true):oD T=4:=by
 unfold oD;rw[if_pos h,if_pos (acC.2 ⟨o,acp.2 ho,hc⟩)]
theorem Qu (h:fy T=true) (hc:∀o,o<T.no.toNat→od T o=false):oD T=0:=by
 unfold oD
 grind
theorem OY:oD T=0↔fy T=true∧∀o,o<T.no.toNat→od T o=false:=by
 constructor
 ·intro h
  unfold oD at h
  split at h
  ·rename_i h1
   refine⟨h1,λo ho=>aaT.2 λhc=> ?_⟩
   rw[if_pos (acC.2 ⟨o,acp.2 ho,hc⟩)]at h
   cases h
  ·cases h
 all_goals grind [Qu]
theorem QO (h:fy T=true) (hc:od T o=false) (p:Nat):((oz T o 1).testBit p=true→(BH T o).testBit p=true)∧((BH T o).testBit p=true→p<2^T.ni.toNat):=by
 have hn:=JY h
 have hb:∀m,(oz T o m).testBit p=true→p<2^T.ni.toNat:=λm hm=>((uL hn p _).1 hm).1
 unfold BH Pj
 by_cases h0:T.kind=0
 ·rw[if_pos h0];exact⟨id,hb 1⟩
 rw[if_neg h0]
 by_cases h1:T.kind=1
 ·rw[if_pos h1,acq,acr]
  exact⟨.inl,λq=>q.elim (hb 1) (hb 2)⟩
 rw[if_neg h1,ee,fo,so,decide_eq_true_eq]
 refine⟨λq=>⟨hb 1 q,?_⟩,λq=>q.1⟩
 obtain⟨hk0,_⟩:=iV h
 unfold od at hc
 rw[decide_eq_true (show 2≤T.kind by omega),ack]at hc
 have hz:=aaS (of_decide_eq_false hc)
 have h2:(oz T o 1 &&& oz T o 0).testBit p=false:=by rw[hz];exact acn p
 grind
theorem mi (h:oD T=0):dt (eq T)=true:=by
 obtain⟨h1,h2⟩:=OY.1 h
 obtain⟨hk0,hk3,hi0,hi8,ho1,ho4,h64⟩:=iV h1
 refine dw.2 ⟨hi0,hi8,?_,?_,?_,λk hk=> ?_⟩
 ·show 1≤(pR T _).length;rw[kq];omega
 ·show (pR T _).length≤4;rw[kq];omega
 ·show (pR T _).length=(ly T _).length;rw[kq,qM]
 all_goals grind [eq,pR,kq,zn,oz,Hg,jZ,BH,BV,dJ,QO,fo]
end
theorem rB (hu:u.oneCell'=true) (hv:v.oneCell'=true):(#[Value.int .i64 a,u,v]:Array Value).toList.all Value.oneCell'=true:=by
 simp only[acL,adj,hu,hv]
 rfl
def Q1 (f0 f1 f2:Nat) (k:Int):Nat:=if k=0 then f0 else if k=1 then f1 else f2
section
variable {P:Program} {f:Nat→Value} {w:World} {d:Option Nat} {ty:TypeId} {ps:String} {af:Array Edge} {g:Option (Nat×Bool)} {x y:Operand}
theorem Cm {f0 f1 f2:Nat} {k:Int} (hx:dm f x= .agg #[.func (.func f0) #[] #[], .bool false, .func (.func f1) #[] #[], .bool false, .func (.func f2) #[] #[], .bool true, .func (.func f2) #[] #[], .bool true]) (hy:dm f y= .int .i64 k)
  (ht:P.underlying t=some (.array 4 e)) (he:P.underlying e=some (.struct fs)) (hc:(P.info? e).map (·.size)=some 2) (h0:0≤k) (h3:k≤3):
  (execOp (dm f) ⟨d, .index t x y,ty,ps,af,g⟩).run P w= .ok (.value (.agg #[.func (.func (Q1 f0 f1 f2 k)) #[] #[], .bool (decide (2≤k))])) w:=by
 obtain⟨i,hi,hs⟩:=an.1 hc
 have hk:k=0∨k=1∨k=2∨k=3:=by omega
 rcases hk with rfl|rfl|rfl|rfl<;>simp[execOp,hx,hy,Instr.index,run_underlying ht,run_underlying he,asIntOf,sizeOf,typeInfo,hi,hs,part,isAgg,Q1]
end
end
section
def OJ (ops:Array Oper) (Ls:List (Array Bool)):List (Array Bool):=(Ls.flatMap λL=>(Region.ready .any ops L).map λi=>L.setIfInBounds i true).eraseDups
def H4 (ops:Array Oper) (A:List Nat) (L1:Array Bool):Nat→List (Array Bool)→Bool
 |0,Ls=>Ls.all λL=>L==L1
 |m+1,Ls=>(Ls.all λL=> !(Region.ready .any ops L).isEmpty&&(Region.ready .any ops L).all λi=>A.contains i)&&H4 ops A L1 m (OJ ops Ls)
section
variable {P:Program} {n:Nat} {ops:Array Oper} {Q:(Nat→Value)→World→Prop} {S:World→Prop} {f0:Nat→Value}
theorem GD (hd:pd T d=true):updo (mask T f0 g) (some d) v=mask T f0 (upd g d v):=by
 funext t
 show cond (Nat.beq t d) v (mask T f0 g t)=cond (pd T t) (cond (Nat.beq t d) v (g t)) (f0 t)
 cases e:Nat.beq t d with
 |true=>
  obtain rfl:=Nat.eq_of_beq_eq_true e
  rw[hd];rfl
 |false=>rfl
theorem CC:mask T f0 f0=f0:=by
 funext t
 unfold mask
 cases pd T t<;>rfl
theorem A6 (I:Array Bool→(Nat→Value)→World→Prop)
  (hstep:∀i,A.contains i=true→∀L g w,i<L.size→I L g w→∃oi d,ops[i]? =some oi∧gi ops (mask T f0 g) oi=true∧oi.dst=some d∧j7 n (some d)=true∧pd T d=true∧
   Yd P oi (mask T f0 g) w λv w'=>(S w'∨mH ops L i=true)∧I (L.setIfInBounds i true) (upd g d v) w')
  (hfin:∀g w,I L1 g w→WT P n ops Q S k L1 (mask T f0 g) w):
  ∀(m:Nat) (Ls:List (Array Bool)),H4 ops A L1 m Ls=true→∀L,L∈Ls→∀g w,I L g w→WT P n ops Q S (k+m) L (mask T f0 g) w
 |0,Ls,h,L,hL,g,w,hI=>by
  have e:L=L1:=by
   have:=aa1.1 h L hL
   exact eq_of_beq this
  subst e
  exact hfin g w hI
 |m+1,Ls,h,L,hL,g,w,hI=>by
  rw[H4,so]at h
  have h1:=aa1.1 h.1 L hL
  rw[so]at h1
  refine⟨λhsz hcl a ha=>⟨λh0=>(by rw[h0]at h1;exact absurd h1.1 (by decide)),λj hj=> ?_⟩⟩
  have hA:=aa1.1 h1.2 j hj
  have hjlt:j<L.size:=by
   obtain⟨_,oj,hoj,_⟩:=mem_ready.1 hj
   rw[hsz];exact(ac9.1 hoj).1
  obtain⟨oi,d,hi,hw,hd,hok,hT,hY⟩:=hstep j hA L g w hjlt hI
  refine FO (K:=λf' w'=>(S w'∨mH ops L j=true)∧WT P n ops Q S (k+m) (L.setIfInBounds j true) f' w') hi hw hd hok ha
   (λf' a' w' hr' hk=>⟨hk.1,hk.2.out (by simpa using hsz) (hcl.add hj) a' hr'⟩) (hY.mono λv w' hv=>⟨hv.1,?_⟩)
  rw[GD hT]
  refine A6 I hstep hfin m _ h.2 _ ?_ _ _ hv.2
  unfold OJ
  rw[List.mem_eraseDups]
  exact List.mem_flatMap.2 ⟨L,hL,abS.2 ⟨j,hj,rfl⟩⟩
theorem Xy {w:World} (I:Array Bool→(Nat→Value)→World→Prop) (hc:H4 ops A L1 m [L0]=true) (h0:I L0 f0 w)
  (hstep:∀i,A.contains i=true→∀L g w,i<L.size→I L g w→∃oi d,ops[i]? =some oi∧gi ops (mask T f0 g) oi=true∧oi.dst=some d∧j7 n (some d)=true∧pd T d=true∧
   Yd P oi (mask T f0 g) w λv w'=>(S w'∨mH ops L i=true)∧I (L.setIfInBounds i true) (upd g d v) w')
  (hfin:∀g w,I L1 g w→WT P n ops Q S k L1 (mask T f0 g) w):WT P n ops Q S (k+m) L0 f0 w:=by
 have:=A6 (f0:=f0) (T:=T) I hstep hfin m [L0] hc L0 (aaG.2 rfl) f0 w h0
 rwa [CC]at this
theorem FK (e:f=f') (h:WT P n ops Q S k L f' w):WT P n ops Q S k L f w:=by rw[e];exact h
theorem B3 (l:List (Nat×Value)) (h:rt (mask T f0 g) l):mask T f0 g=updL l (mask T f0 (mask T f0 g)):=yE (dC.mask T f0 g) l h
theorem Xl {L:Array Bool} {i j:Nat} (h:(L.setIfInBounds i true).getD j false=true):j=i∨L.getD j false=true:=by
 rcases sI.1 h with ⟨e,_⟩|h
 ·exact .inl e
 ·exact .inr h
theorem d8 {L:Array Bool} {i j:Nat} (hne:j≠i) (h:(L.setIfInBounds i true).getD j false=true):L.getD j false=true:=(Xl h).resolve_left hne
end
end
end Go.Proofs.YtedeonkjellcpaaGreatDoor
