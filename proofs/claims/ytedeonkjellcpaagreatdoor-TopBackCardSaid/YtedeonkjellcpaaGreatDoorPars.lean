/- The walks of package pla: its tables. Rows of three and of four, as they are typed out. No program in it. The texts of cubes, lines and tables, as they are written. No program in it. The walks of texts of tables. The walks of texts that are written. What a deed with memory of its own leaves as it wa -/
import Derived.Test.YtedeonkjellcpaaGreatDoorWCube
namespace Go.Proofs.YtedeonkjellcpaaGreatDoor
set_option linter.unusedVariables false
set_option linter.unusedSimpArgs false
section
open Go Go.RowKit
theorem jg:dS Tryz.prog 24 0=some 0:=by kernel_rfl
theorem fx:dS Tryz.prog 24 1=some 1:=by kernel_rfl
theorem f6:dS Tryz.prog 24 2=some 2:=by kernel_rfl
theorem eq:dS Tryz.prog 24 3=some 3:=by kernel_rfl
theorem fF:eE Tryz.prog 22=true:=by kernel_rfl
theorem ff:fj Tryz.prog 22=some (37,3,32):=by kernel_rfl
theorem gp:j8 Tryz.prog 37=some 3:=by kernel_rfl
theorem l8:dT Tryz.prog 37=some (.agg #[.int .u8 0, .int .u8 0, .slice none 0 0]):=by kernel_rfl
theorem jf:dS Tryz.prog 37 0=some 0:=by kernel_rfl
theorem d8:dS Tryz.prog 37 1=some 2:=by kernel_rfl
theorem dV:eE Tryz.prog 35=true:=by kernel_rfl
theorem Un:cX Tryz.prog 53=true:=by kernel_rfl
theorem yM {f:Nat→Value} {w:World} {d:Option Nat} {ty t2:TypeId} {ps:String} {af:Array Edge} {g:Option (Nat×Bool)} {x y:Operand} {a0 a1 b0 b1:Int} (hx:dg f x= .agg #[.int .u8 a0, .int .u8 a1]) (hy:dg f y= .agg #[.int .u8 b0, .int .u8 b1]):
    (execOp (dg f) ⟨d, .binOp .neq 34 x y t2,ty,ps,af,g⟩).run Tryz.prog w= .ok (.value (.bool (decide (¬(a0=b0∧a1=b1))))) w:=by
  have hg:Tryz.prog.eqGuardType Tryz.prog.depth 34=false:=by kernel_rfl
  have hp34:Tryz.prog.stoodInHeld 34=false:=by kernel_rfl
  have hu34:Tryz.prog.underlying 34=some (.struct (Tryz.prog.fieldsOf 34)):=by kernel_rfl
  simp only[execOp,hx,hy,Sem.run_bind,run_eqGuard_agg _ _ _ _ _ _ _ hg,Result.andThen_ok,run_neq_struct,run_equalIn_agg _ 9999 34 _ _ hu34 hp34]
  simp only[Program.fieldsOf,Tryz.underlying34]
  simp[Op.eqFields,part,isAgg,run_equalIn_int _ 9998 5 _ _ _ _ Tryz.underlying5,run_underlying Tryz.underlying5]
  by_cases q0:a0=b0<;>by_cases q1:a1=b1<;>simp[q0,q1]
theorem wO (T:Tb) (lv:Value) (vs:List uI) (w:World) (hlv:dh iH 3 w lv vs) (hls:jX w vs T.ls) (hmb:∀i,i<T.ls.length→(T.ls.getD i eV).c.m<256∧(T.ls.getD i eV).c.v<256):
    Fn Tryz.prog 54 #[.agg #[.int .i64 T.kind, .int .i64 T.ni, .int .i64 T.no,lv]] w λv w'=>v= .bool (fc T):=by
 refine cH (n:=77) Tryz.func54 rfl rfl rfl λhB=> ?_
 have hle:=hls.len
 refine Zr<|Zy (dt (c:= #[_,_,_,_]) rfl rfl λl W3 N s a=> ?_)
 replace hB:=Ze hB s
 refine Zb rfl<|ct<|Zq<|Zr<|Zf rfl jg<|Zl rfl cK a rfl<|Zv (dk rfl rfl)<|ZX rfl (λt=> ?_) λt=> ?_
 refine Zs<|Zs<|Zs<|Zb rfl<|Zb rfl<|Zs<|Zs<|Zs<|Zb rfl<|Zb rfl<|Zs<|Zs<|Zs<|Zb rfl ?_
 refine Zb rfl<|Zs<|Zs<|Zs<|Zb rfl<|Zb rfl<|Zs<|Zs<|Zs<|Zb rfl<|Zb rfl<|Zs<|Zs<|Zs ?_
 refine Zs<|Zb rfl<|ct<|cF rfl<|Zr<|Zb rfl<|ct<|Zt<|cV (v:= .bool false) rfl ⟨hB,?_⟩
 exact iN (by omega)
 refine Zf rfl jg<|Zl rfl cK a rfl<|Zv (il rfl rfl)<|Zb rfl<|ZX rfl (λu=> ?_) λu=> ?_
 refine Zs<|Zs<|Zs<|Zb rfl<|Zb rfl<|Zs<|Zs<|Zs<|Zb rfl<|Zb rfl<|Zs<|Zs<|Zs<|Zb rfl ?_
 refine Zb rfl<|Zs<|Zs<|Zs<|Zb rfl<|Zb rfl<|Zs<|Zs<|Zs<|Zs<|Zb rfl<|ct<|cF rfl<|Zr ?_
 refine Zb rfl<|ct<|Zt<|cV (v:= .bool false) rfl ⟨hB,?_⟩
 exact iN (by omega)
 refine Zf rfl fx<|Zl rfl cK a rfl<|Zv (dk rfl rfl)<|Zb rfl<|ZX rfl (λx=> ?_) λx=> ?_
 refine Zs<|Zs<|Zs<|Zb rfl<|Zb rfl<|Zs<|Zs<|Zs<|Zb rfl<|Zb rfl<|Zs<|Zs<|Zs<|Zb rfl ?_
 refine Zb rfl<|Zs<|Zs<|Zs<|Zs<|Zb rfl<|ct<|cF rfl<|Zr<|Zb rfl<|ct<|Zt<|cV (v:= .bool false) rfl ⟨hB,?_⟩
 exact iN (by omega)
 refine Zf rfl fx<|Zl rfl cK a rfl<|Zv (il rfl rfl)<|Zb rfl<|ZX rfl (λy=> ?_) λy=> ?_
 refine Zs<|Zs<|Zs<|Zb rfl<|Zb rfl<|Zs<|Zs<|Zs<|Zb rfl<|Zb rfl<|Zs<|Zs<|Zs<|Zs ?_
 refine Zb rfl<|ct<|cF rfl<|Zr<|Zb rfl<|ct<|Zt<|cV (v:= .bool false) rfl ⟨hB,?_⟩
 exact iN (by omega)
 refine Zf rfl f6<|Zl rfl cK a rfl<|Zv (dk rfl rfl)<|Zb rfl<|ZX rfl (λz=> ?_) λz=> ?_
 refine Zs<|Zs<|Zs<|Zb rfl<|Zb rfl<|Zs<|Zs<|Zs<|Zs<|Zb rfl<|ct<|cF rfl<|Zr<|Zb rfl ?_
 refine ct<|Zt<|cV (v:= .bool false) rfl ⟨hB,?_⟩
 exact iN (by omega)
 refine Zf rfl f6<|Zl rfl cK a rfl<|Zv (il rfl rfl)<|Zb rfl<|ZX rfl (λA=> ?_) λA=> ?_
 refine Zs<|Zs<|Zs<|Zs<|Zb rfl<|ct<|cF rfl<|Zr<|Zb rfl<|ct<|Zt<|cV (v:= .bool false) rfl ⟨hB,?_⟩
 exact iN (by omega)
 refine Zf rfl eq<|ZL lv rfl fF a rfl<|Zv (cT (v:=lv) rfl (Below.slT hB hlv) ff)<|Zv (il rfl rfl)<|Zb rfl<|ct<|ZQ rfl (λB=> ?_) λB=> ?_
 refine Zr<|Zb rfl<|ct<|Zt<|cV (v:= .bool false) rfl ⟨hB,?_⟩
 exact iN (by omega)
 refine cu<|Zq<|Zr<|Zf rfl eq<|ZL lv rfl fF a rfl<|Zv (cT (v:=lv) rfl (Below.slT hB hlv) ff)<|ZZ rfl<|cx ?_
 refine cS (σ:=(Nat)) [2,2,4,4,6,6,44,76] (λk=>[(44, .int .i64 (k:Int))]) (λk W=>(Below w.heap.size w W)∧(At W l _ 24)∧(k≤T.ls.length)∧(∀q,q<k→oN T.ni T.no (T.ls.getD q eV)=true)∧(True)) (λk=>T.ls.length-k) (0) ⟨rfl,trivial⟩ ⟨hB,a,(my _),ef,trivial⟩ ?_
 rintro k O P ⟨hB,a,hk,hq,_⟩ Q C
 refine Zr<|Zv (dk rfl rfl)<|ct<|Zq<|ZQ rfl (λD=> ?_) λD=> ?_
 refine cu<|Zq<|cx ?_
 have hck:=hls.c k (by omega)
 have hbk:=hmb k (by omega)
 have p:(vs.getD k fL).c.m<256∧(vs.getD k fL).c.v<256:=by rw[hck];exact hbk
 refine Zr<|Zv (df (v:=lv) rfl (Below.slT hB hlv) rfl ff Om Om)<|Zv (gH rfl gp (dh.cell (Below.slT hB hlv) ex fL Om Om 0 rfl) (dh.cell (Below.slT hB hlv) ex fL Om Om 1 rfl) (dh.cell (Below.slT hB hlv) ex fL Om Om 2 rfl)) ?_
 have d:dh dJ 1 w ((vs.getD k fL).o) ((T.ls.getD k eV).os):=hls.o k (by omega)
 refine Zy (cI l8 rfl λE R F G b=> ?_)
 have H:=ZO F hB
 obtain⟨hB,a⟩:=G.k2 hB a
 refine Zy (cz rfl rfl gp rfl b rfl (by exact mN (dh.one d)) λS r I=> ?_)
 replace hB:=Zg hB r H
 replace a:=At.grownAt a b r Dd
 replace b:=I
 refine ct<|Zq<|Zr<|Zf rfl jf<|Zv (fD rfl cZ (At.cell b rfl) (At.cell b rfl))<|Zf rfl fx<|Zl rfl cK a rfl<|ZC (vs:=[.agg #[_,_], .int .i64 _]) C3 (na (vs.getD k fL).c.m (vs.getD k fL).c.v _ _ p.1 p.2) rfl λU V J K=> ?_
 obtain⟨hB,a,b⟩:=J.k3 hB a b
 obtain rfl:=K
 refine Zv (eR rfl)<|ZX rfl (λe=> ?_) λe=> ?_
 refine Zs<|Zs<|Zs<|Zs<|Zs<|Zs<|Zb rfl<|ct<|cF rfl<|Zr<|Zb rfl<|ct<|Zt<|cV (v:= .bool false) rfl ?_
 refine⟨hB,?_⟩
 exact nI (k:=k) (by omega) (WX (by rw[←hck];exact Mn e))
 refine Zf rfl d8<|ZL ((vs.getD k fL).o) rfl dV b rfl<|Zv (cT (v:=(vs.getD k fL).o) rfl (Below.slT hB d) cM)<|Zf rfl f6<|Zl rfl cK a rfl<|Zv (ep rfl rfl)<|Zb rfl<|ct<|ZQ rfl (λf=> ?_) λf=> ?_
 refine Zr<|Zb rfl<|ct<|Zt<|cV (v:= .bool false) rfl ⟨hB,?_⟩
 exact nI (k:=k) (by omega) (X3 f)
 refine cu<|Zr<|Zf rfl d8<|ZL ((vs.getD k fL).o) rfl dV b rfl<|Zv (cT (v:=(vs.getD k fL).o) rfl (Below.slT hB d) cM)<|ZZ rfl<|cx ?_
 refine cS (σ:=(Nat)) [2,2,6,6,65,75] (λj=>[(65, .int .i64 (j:Int))]) (λj W=>(Below w.heap.size w W)∧(At W l _ 24)∧(At W E _ 37)∧(j≤(T.ls.getD k eV).os.length)∧(∀q,q<j→0≤(T.ls.getD k eV).os.getD q 0∧(T.ls.getD k eV).os.getD q 0<3)∧(True)) (λj=>(T.ls.getD k eV).os.length-j) (0) ⟨rfl,trivial⟩ ⟨hB,a,b,(my _),ef,trivial⟩ ?_
 rintro j X Y ⟨hB,a,b,hj,hqj,_⟩ Z L
 refine Zr<|Zv (dk rfl rfl)<|ct<|Zq<|ZQ rfl (λM=> ?_) λM=> ?_
 refine cu<|Zq<|cx<|Zr<|Zv (df (v:=(vs.getD k fL).o) rfl (Below.slT hB d) rfl cM Om Om)<|Zv (cB (v:= .int .i64 _) rfl cK (dh.cell (Below.slT hB d) dI 0 Om Om 0 rfl))<|ZZ rfl<|Zr<|Zi rfl<|Zv (dk rfl rfl)<|ZX rfl (λg=> ?_) λg=> ?_
 refine Zs<|Zs<|Zb rfl<|ct<|cF rfl<|Zr<|Zb rfl<|ct<|Zt<|cV (v:= .bool false) rfl ⟨hB,?_⟩
 exact nI (k:=k) (by omega) (VV (j:=j) (by omega) (by have h1:(T.ls.getD k eV).os.getD j 0<0:=g;omega))
 refine Zi rfl<|Zv (mT rfl rfl)<|Zb rfl<|ct<|ZQ rfl (λh=> ?_) λh=> ?_
 refine Zr<|Zb rfl<|ct<|Zt<|cV (v:= .bool false) rfl ⟨hB,?_⟩
 exact nI (k:=k) (by omega) (VV (j:=j) (by omega) (by have h1:(T.ls.getD k eV).os.getD j 0≥3:=h;omega))
 refine cu ?_
 have aa:¬(T.ls.getD k eV).os.getD j 0<0:=g
 have ab:¬(T.ls.getD k eV).os.getD j 0≥3:=h
 refine ZT rfl rfl rfl ?_
 exact L _ _ (j+1) Za ⟨rfl,trivial⟩ ⟨hB,a,b,Om,(dG hqj Om),trivial⟩ (by show (T.ls.getD k eV).os.length-(j+1)<(T.ls.getD k eV).os.length-j;omega)
 refine cR ?_
 have hqj2:∀q,q<(T.ls.getD k eV).os.length→0≤(T.ls.getD k eV).os.getD q 0∧(T.ls.getD k eV).os.getD q 0<3:=λq hq'=>hqj q (by omega)
 refine ZT rfl rfl rfl ?_
 exact C _ _ (k+1) Za ⟨rfl,trivial⟩ ⟨hB,a,Om,(dG hq (WS (by rw[←hck];exact Hk e) (aaa f) hqj2)),trivial⟩ Zo
 refine cR<|Zr<|Zb rfl<|ct<|Zt<|cV (v:= .bool true) rfl ⟨hB,?_⟩
 exact DY (by omega) (λq hq'=>hq q (by omega))
theorem pZ (T:Tb) (lv:Value) (vs:List uI) (w:World) (hlv:dh iH 3 w lv vs) (hls:jX w vs T.ls) (hmb:∀i,i<T.ls.length→(T.ls.getD i eV).c.m<256∧(T.ls.getD i eV).c.v<256):
    Fn Tryz.prog 12 #[.agg #[.int .i64 T.kind, .int .i64 T.ni, .int .i64 T.no,lv]] w λv w'=>v= .bool (fc T):=by
 refine cH (n:=95) Tryz.func12 rfl rfl rfl λhB=> ?_
 have hle:=hls.len
 refine Zr<|Zy (dt (c:= #[_,_,_,_]) rfl rfl λr W3 O u a=> ?_)
 replace hB:=Ze hB u
 refine Zb rfl<|ct<|Zq<|Zr<|Zf rfl jg<|Zl rfl cK a rfl<|Zv (dk rfl rfl)<|ZX rfl (λx=> ?_) λx=> ?_
 refine Zs<|Zs<|Zs<|Zb rfl<|Zb rfl<|Zs<|Zs<|Zs<|Zb rfl<|Zb rfl<|Zs<|Zs<|Zs<|Zb rfl ?_
 refine Zb rfl<|Zs<|Zs<|Zs<|Zb rfl<|Zb rfl<|Zs<|Zs<|Zs<|Zb rfl<|Zb rfl<|Zs<|Zs<|Zs ?_
 refine Zs<|Zb rfl<|ct<|cF rfl<|Zr<|Zb rfl<|ct<|Zt<|cV (v:= .bool false) rfl ⟨hB,?_⟩
 exact iN (by omega)
 refine Zf rfl jg<|Zl rfl cK a rfl<|Zv (il rfl rfl)<|Zb rfl<|ZX rfl (λy=> ?_) λy=> ?_
 refine Zs<|Zs<|Zs<|Zb rfl<|Zb rfl<|Zs<|Zs<|Zs<|Zb rfl<|Zb rfl<|Zs<|Zs<|Zs<|Zb rfl ?_
 refine Zb rfl<|Zs<|Zs<|Zs<|Zb rfl<|Zb rfl<|Zs<|Zs<|Zs<|Zs<|Zb rfl<|ct<|cF rfl<|Zr ?_
 refine Zb rfl<|ct<|Zt<|cV (v:= .bool false) rfl ⟨hB,?_⟩
 exact iN (by omega)
 refine Zf rfl fx<|Zl rfl cK a rfl<|Zv (dk rfl rfl)<|Zb rfl<|ZX rfl (λz=> ?_) λz=> ?_
 refine Zs<|Zs<|Zs<|Zb rfl<|Zb rfl<|Zs<|Zs<|Zs<|Zb rfl<|Zb rfl<|Zs<|Zs<|Zs<|Zb rfl ?_
 refine Zb rfl<|Zs<|Zs<|Zs<|Zs<|Zb rfl<|ct<|cF rfl<|Zr<|Zb rfl<|ct<|Zt<|cV (v:= .bool false) rfl ⟨hB,?_⟩
 exact iN (by omega)
 refine Zf rfl fx<|Zl rfl cK a rfl<|Zv (il rfl rfl)<|Zb rfl<|ZX rfl (λA=> ?_) λA=> ?_
 refine Zs<|Zs<|Zs<|Zb rfl<|Zb rfl<|Zs<|Zs<|Zs<|Zb rfl<|Zb rfl<|Zs<|Zs<|Zs<|Zs ?_
 refine Zb rfl<|ct<|cF rfl<|Zr<|Zb rfl<|ct<|Zt<|cV (v:= .bool false) rfl ⟨hB,?_⟩
 exact iN (by omega)
 refine Zf rfl f6<|Zl rfl cK a rfl<|Zv (dk rfl rfl)<|Zb rfl<|ZX rfl (λB=> ?_) λB=> ?_
 refine Zs<|Zs<|Zs<|Zb rfl<|Zb rfl<|Zs<|Zs<|Zs<|Zs<|Zb rfl<|ct<|cF rfl<|Zr<|Zb rfl ?_
 refine ct<|Zt<|cV (v:= .bool false) rfl ⟨hB,?_⟩
 exact iN (by omega)
 refine Zf rfl f6<|Zl rfl cK a rfl<|Zv (il rfl rfl)<|Zb rfl<|ZX rfl (λC=> ?_) λC=> ?_
 refine Zs<|Zs<|Zs<|Zs<|Zb rfl<|ct<|cF rfl<|Zr<|Zb rfl<|ct<|Zt<|cV (v:= .bool false) rfl ⟨hB,?_⟩
 exact iN (by omega)
 refine Zf rfl eq<|ZL lv rfl fF a rfl<|Zv (cT (v:=lv) rfl (Below.slT hB hlv) ff)<|Zv (il rfl rfl)<|Zb rfl<|ct<|ZQ rfl (λD=> ?_) λD=> ?_
 refine Zr<|Zb rfl<|ct<|Zt<|cV (v:= .bool false) rfl ⟨hB,?_⟩
 exact iN (by omega)
 refine cu<|Zq<|Zr<|ZZ rfl<|cx ?_
 refine cS (σ:=(Nat)) [2,5,40,94] (λk=>[(3, .int .i64 (k:Int))]) (λk W=>(Below w.heap.size w W)∧(At W r _ 24)∧(k≤T.ls.length)∧(∀q,q<k→oN T.ni T.no (T.ls.getD q eV)=true)∧(True)) (λk=>T.ls.length-k) (0) ⟨rfl,trivial⟩ ⟨hB,a,(my _),ef,trivial⟩ ?_
 rintro k P Q ⟨hB,a,hk,hq,_⟩ R E
 refine Zq<|Zr<|Zi rfl<|Zf rfl eq<|ZL lv rfl fF a rfl<|Zv (cT (v:=lv) rfl (Below.slT hB hlv) ff)<|Zv (dk rfl rfl)<|ct<|ZQ rfl (λF=> ?_) λF=> ?_
 refine cu<|Zq<|cx ?_
 have hck:=hls.c k (by omega)
 have hbk:=hmb k (by omega)
 have s:(vs.getD k fL).c.m<256∧(vs.getD k fL).c.v<256:=by rw[hck];exact hbk
 refine Zr<|Zf rfl eq<|ZL lv rfl fF a rfl<|Zi rfl<|Zv (df (v:=lv) rfl (Below.slT hB hlv) rfl ff Om Om)<|Zv (gH rfl gp (dh.cell (Below.slT hB hlv) ex fL Om Om 0 rfl) (dh.cell (Below.slT hB hlv) ex fL Om Om 1 rfl) (dh.cell (Below.slT hB hlv) ex fL Om Om 2 rfl)) ?_
 have d:dh dJ 1 w ((vs.getD k fL).o) ((T.ls.getD k eV).os):=hls.o k (by omega)
 refine Zy (cI l8 rfl λG S H I b=> ?_)
 have J:=ZO H hB
 obtain⟨hB,a⟩:=I.k2 hB a
 refine Zy (cz rfl rfl gp rfl b rfl (by exact mN (dh.one d)) λU t K=> ?_)
 replace hB:=Zg hB t J
 replace a:=At.grownAt a b t Dd
 replace b:=K
 refine ct<|Zq<|Zr<|Zf rfl jf<|Zv (fD rfl cZ (At.cell b rfl) (At.cell b rfl))<|Zf rfl fx<|Zl rfl cK a rfl<|ZC (vs:=[.agg #[_,_], .int .i64 _]) Un (pQ (vs.getD k fL).c.m (vs.getD k fL).c.v _ _ s.1 s.2) rfl λV X L M=> ?_
 obtain⟨hB,a,b⟩:=L.k3 hB a b
 obtain rfl:=M
 refine Zv (eR rfl)<|ZX rfl (λe=> ?_) λe=> ?_
 refine Zs<|Zs<|Zs<|Zs<|Zs<|Zs<|Zb rfl<|ct<|cF rfl<|Zr<|Zb rfl<|ct<|Zt<|cV (v:= .bool false) rfl ?_
 refine⟨hB,?_⟩
 exact nI (k:=k) (by omega) (WX (by rw[←hck];exact Mn e))
 refine Zf rfl d8<|ZL ((vs.getD k fL).o) rfl dV b rfl<|Zv (cT (v:=(vs.getD k fL).o) rfl (Below.slT hB d) cM)<|Zf rfl f6<|Zl rfl cK a rfl<|Zv (ep rfl rfl)<|Zb rfl<|ct<|ZQ rfl (λf=> ?_) λf=> ?_
 refine Zr<|Zb rfl<|ct<|Zt<|cV (v:= .bool false) rfl ⟨hB,?_⟩
 exact nI (k:=k) (by omega) (X3 f)
 refine cu<|Zr<|ZZ rfl<|cx ?_
 refine cS (σ:=(Nat)) [2,2,5,5,66,94] (λj=>[(5, .int .i64 (j:Int))]) (λj W=>(Below w.heap.size w W)∧(At W r _ 24)∧(At W G _ 37)∧(j≤(T.ls.getD k eV).os.length)∧(∀q,q<j→0≤(T.ls.getD k eV).os.getD q 0∧(T.ls.getD k eV).os.getD q 0<3)∧(True)) (λj=>(T.ls.getD k eV).os.length-j) (0) ⟨rfl,trivial⟩ ⟨hB,a,b,(my _),ef,trivial⟩ ?_
 rintro j Y Z ⟨hB,a,b,hj,hqj,_⟩ aa g
 refine Zq<|Zr<|Zi rfl<|Zf rfl d8<|ZL ((vs.getD k fL).o) rfl dV b rfl<|Zv (cT (v:=(vs.getD k fL).o) rfl (Below.slT hB d) cM)<|Zv (dk rfl rfl)<|ct<|ZQ rfl (λN=> ?_) λN=> ?_
 refine cu<|Zq<|cx<|Zr<|Zf rfl d8<|ZL ((vs.getD k fL).o) rfl dV b rfl<|Zi rfl<|Zv (df (v:=(vs.getD k fL).o) rfl (Below.slT hB d) rfl cM Om Om)<|Zv (cB (v:= .int .i64 _) rfl cK (dh.cell (Below.slT hB d) dI 0 Om Om 0 rfl))<|Zv (ep rfl rfl)<|ZX rfl (λh=> ?_) λh=> ?_
 refine Zf rfl d8<|ZL ((vs.getD k fL).o) rfl dV b rfl<|Zi rfl<|Zv (df (v:=(vs.getD k fL).o) rfl (Below.slT hB d) rfl cM Om Om)<|Zv (cB (v:= .int .i64 _) rfl cK (dh.cell (Below.slT hB d) dI 0 Om Om 0 rfl))<|Zv (ep rfl rfl)<|Zb rfl<|ZX rfl (λl=> ?_) λl=> ?_
 refine Zf rfl d8<|ZL ((vs.getD k fL).o) rfl dV b rfl<|Zi rfl<|Zv (df (v:=(vs.getD k fL).o) rfl (Below.slT hB d) rfl cM Om Om)<|Zv (cB (v:= .int .i64 _) rfl cK (dh.cell (Below.slT hB d) dI 0 Om Om 0 rfl))<|Zv (ep rfl rfl)<|Zb rfl<|ct<|ZQ rfl (λp=> ?_) λp=> ?_
 refine Zr<|Zb rfl<|ct<|Zt<|cV (v:= .bool false) rfl ⟨hB,?_⟩
 exact nI (k:=k) (by omega) (VV (j:=j) (by omega) (by have h1:¬(T.ls.getD k eV).os.getD j 0=0:=h;have h2:¬(T.ls.getD k eV).os.getD j 0=1:=l;have h3:¬(T.ls.getD k eV).os.getD j 0=2:=p;omega))
 refine cu ?_
 have hsj:(T.ls.getD k eV).os.getD j 0=2:=aaa p
 refine cN<|Zi rfl<|Zv (eP rfl rfl Om Om)<|ZZ rfl ?_
 exact g _ _ (j+1) Za ⟨rfl,trivial⟩ ⟨hB,a,b,Om,(dG hqj Om),trivial⟩ (by show (T.ls.getD k eV).os.length-(j+1)<(T.ls.getD k eV).os.length-j;omega)
 refine Zs<|Zs<|Zs<|Zs<|Zs<|Zs<|Zb rfl<|ct<|dA rfl<|cu ?_
 have hsj:(T.ls.getD k eV).os.getD j 0=1:=aaa l
 refine cN<|Zi rfl<|Zv (eP rfl rfl Om Om)<|ZZ rfl ?_
 exact g _ _ (j+1) Za ⟨rfl,trivial⟩ ⟨hB,a,b,Om,(dG hqj Om),trivial⟩ (by show (T.ls.getD k eV).os.length-(j+1)<(T.ls.getD k eV).os.length-j;omega)
 refine Zs<|Zs<|Zs<|Zs<|Zs<|Zs<|Zb rfl<|Zb rfl<|Zs<|Zs<|Zs<|Zs<|Zs<|Zs ?_
 refine Zb rfl<|ct<|dA rfl<|cu ?_
 have hsj:(T.ls.getD k eV).os.getD j 0=0:=aaa h
 refine cN<|Zi rfl<|Zv (eP rfl rfl Om Om)<|ZZ rfl ?_
 exact g _ _ (j+1) Za ⟨rfl,trivial⟩ ⟨hB,a,b,Om,(dG hqj Om),trivial⟩ (by show (T.ls.getD k eV).os.length-(j+1)<(T.ls.getD k eV).os.length-j;omega)
 refine cR ?_
 have hqj2:∀q,q<(T.ls.getD k eV).os.length→0≤(T.ls.getD k eV).os.getD q 0∧(T.ls.getD k eV).os.getD q 0<3:=λq hq'=>hqj q (by omega)
 refine cN<|Zi rfl<|Zv (eP rfl rfl Om Om)<|ZZ rfl ?_
 exact E _ _ (k+1) Za ⟨rfl,trivial⟩ ⟨hB,a,Om,(dG hq (WS (by rw[←hck];exact Hk e) (aaa f) hqj2)),trivial⟩ Zo
 refine cR<|Zr<|Zb rfl<|ct<|Zt<|cV (v:= .bool true) rfl ⟨hB,?_⟩
 exact DY (by omega) (λq hq'=>hq q (by omega))
theorem HD (T:Tb) (lv:Value) (vs:List uI) (U:Tb) (lu:Value) (us:List uI) (w:World) (hlv:dh iH 3 w lv vs) (hls:jX w vs T.ls) (hmb:∀i,i<T.ls.length→(T.ls.getD i eV).c.m<256∧(T.ls.getD i eV).c.v<256) (f:dh iH 3 w lu us) (p:jX w us U.ls) (hmb2:∀i,i<U.ls.length→(U.ls.getD i eV).c.m<256∧(U.ls.getD i eV).c.v<256) (hvl:T.ls.length≤1000000) (hol:∀k,k<T.ls.length→(T.ls.getD k eV).os.length≤1000000):
    Fn Tryz.prog 17 #[.agg #[.int .i64 T.kind, .int .i64 T.ni, .int .i64 T.no,lv], .agg #[.int .i64 U.kind, .int .i64 U.ni, .int .i64 U.no,lu]] w λv w'=>v= .bool (decide (T=U)):=by
 refine cH (n:=82) Tryz.func17 rfl rfl rfl λhB=> ?_
 have hle:=hls.len
 have hle2:=p.len
 refine Zr<|Zy (dt (c:= #[_,_,_,_]) rfl rfl λu W3 X A a=> ?_)
 replace hB:=Ze hB A
 refine Zy (dt (c:= #[_,_,_,_]) rfl rfl λx W6 Y B b=> ?_)
 obtain⟨hB,a⟩:=B.k2 hB a
 refine Zb rfl<|ct<|Zq<|Zr<|Zf rfl jg<|Zl rfl cK a rfl<|Zf rfl jg<|Zl rfl cK b rfl<|Zv (ep rfl rfl)<|ZX rfl (λC=> ?_) λC=> ?_
 refine Zs<|Zs<|Zs<|Zs<|Zs<|Zb rfl<|Zb rfl<|Zs<|Zs<|Zs<|Zs<|Zs<|Zb rfl<|Zb rfl ?_
 refine Zs<|Zs<|Zs<|Zs<|Zs<|Zs<|Zs<|Zb rfl<|ct<|cF rfl<|Zr<|Zb rfl<|ct<|Zt ?_
 refine cV (v:= .bool false) rfl ⟨hB,?_⟩
 exact mH (wM (by omega))
 refine Zf rfl fx<|Zl rfl cK a rfl<|Zf rfl fx<|Zl rfl cK b rfl<|Zv (ep rfl rfl)<|Zb rfl<|ZX rfl (λD=> ?_) λD=> ?_
 refine Zs<|Zs<|Zs<|Zs<|Zs<|Zb rfl<|Zb rfl<|Zs<|Zs<|Zs<|Zs<|Zs<|Zs<|Zs ?_
 refine Zb rfl<|ct<|cF rfl<|Zr<|Zb rfl<|ct<|Zt<|cV (v:= .bool false) rfl ⟨hB,?_⟩
 exact mH (wM (by omega))
 refine Zf rfl f6<|Zl rfl cK a rfl<|Zf rfl f6<|Zl rfl cK b rfl<|Zv (ep rfl rfl)<|Zb rfl<|ZX rfl (λE=> ?_) λE=> ?_
 refine Zs<|Zs<|Zs<|Zs<|Zs<|Zs<|Zs<|Zb rfl<|ct<|cF rfl<|Zr<|Zb rfl<|ct<|Zt ?_
 refine cV (v:= .bool false) rfl ⟨hB,?_⟩
 exact mH (wM (by omega))
 refine Zf rfl eq<|ZL lv rfl fF a rfl<|Zv (cT (v:=lv) rfl (Below.slT hB hlv) ff)<|Zf rfl eq<|ZL lu rfl fF b rfl<|Zv (cT (v:=lu) rfl (Below.slT hB f) ff)<|Zv (ep rfl rfl)<|Zb rfl<|ct<|ZQ rfl (λF=> ?_) λF=> ?_
 refine Zr<|Zb rfl<|ct<|Zt<|cV (v:= .bool false) rfl ⟨hB,?_⟩
 exact mH (wM (by omega))
 refine cu<|Zq<|Zr<|Zf rfl eq<|ZL lv rfl fF a rfl<|Zv (cT (v:=lv) rfl (Below.slT hB hlv) ff)<|ZZ rfl<|cx ?_
 refine cS (σ:=(Nat)) [4,9,41,81] (λk=>[(41, .int .i64 (k:Int))]) (λk W=>(Below w.heap.size w W)∧(At W u _ 24)∧(At W x _ 24)∧(k≤T.ls.length)∧(∀q,q<k→T.ls.getD q eV=U.ls.getD q eV)∧(True)) (λk=>T.ls.length-k) (0) ⟨rfl,trivial⟩ ⟨hB,a,b,(my _),ef,trivial⟩ ?_
 rintro k Z aa ⟨hB,a,b,hk,hq,_⟩ ab G
 refine Zr<|Zv (dk rfl rfl)<|ct<|Zq<|ZQ rfl (λH=> ?_) λH=> ?_
 refine cu<|Zq<|cx ?_
 have hck:=hls.c k (by omega)
 have hck2:=p.c k (by omega)
 have hok:=hol k (by omega)
 refine Zr<|Zi rfl<|Zv (df (v:=lv) rfl (Below.slT hB hlv) rfl ff Om Om)<|Zv (gH rfl gp (dh.cell (Below.slT hB hlv) ex fL Om Om 0 rfl) (dh.cell (Below.slT hB hlv) ex fL Om Om 1 rfl) (dh.cell (Below.slT hB hlv) ex fL Om Om 2 rfl)) ?_
 have g:dh dJ 1 w ((vs.getD k fL).o) ((T.ls.getD k eV).os):=hls.o k (by omega)
 refine Zy (cI l8 rfl λI ac J K d=> ?_)
 have L:=ZO J hB
 obtain⟨hB,a,b⟩:=K.k3 hB a b
 refine Zi rfl<|Zy (cz rfl rfl gp rfl d rfl (by exact mN (dh.one g)) λad r M=> ?_)
 replace hB:=Zg hB r L
 replace a:=At.grownAt a d r Dd
 replace b:=At.grownAt b d r Dd
 replace d:=M
 refine ct<|Zr<|Zf rfl eq<|ZL lu rfl fF b rfl<|Zi rfl<|Zv (df (v:=lu) rfl (Below.slT hB f) rfl ff Om Om)<|Zv (gH rfl gp (dh.cell (Below.slT hB f) ex fL Om Om 0 rfl) (dh.cell (Below.slT hB f) ex fL Om Om 1 rfl) (dh.cell (Below.slT hB f) ex fL Om Om 2 rfl)) ?_
 have h:dh dJ 1 w ((us.getD k fL).o) ((U.ls.getD k eV).os):=p.o k (by omega)
 refine Zy (cI l8 rfl λN ae y O e=> ?_)
 have P:=ZO y hB
 have Q:=Zn y d.lt
 obtain⟨hB,a,b,d⟩:=O.k4 hB a b d
 refine Zy (cz rfl rfl gp rfl e rfl (by exact mN (dh.one h)) λaf l R=> ?_)
 replace hB:=Zg hB l P
 replace a:=At.grownAt a e l Dd
 replace b:=At.grownAt b e l Dd
 replace d:=At.grownNe d Q l
 replace e:=R
 refine ct<|Zq<|Zr<|Zf rfl jf<|Zv (fD rfl cZ (At.cell d rfl) (At.cell d rfl))<|Zf rfl jf<|Zv (fD rfl cZ (At.cell e rfl) (At.cell e rfl))<|Zv (yM rfl rfl)<|ZX rfl (λs=> ?_) λs=> ?_
 refine Zs<|Zs<|Zs<|Zs<|Zs<|Zs<|Zs<|Zb rfl<|ct<|cF rfl<|Zr<|Zb rfl<|ct<|Zt ?_
 refine cV (v:= .bool false) rfl ⟨hB,?_⟩
 exact mH (ve (Dq hck hck2 s))
 refine Zf rfl d8<|ZL ((vs.getD k fL).o) rfl dV d rfl<|Zv (cT (v:=(vs.getD k fL).o) rfl (Below.slT hB g) cM)<|Zf rfl d8<|ZL ((us.getD k fL).o) rfl dV e rfl<|Zv (cT (v:=(us.getD k fL).o) rfl (Below.slT hB h) cM)<|Zv (ep rfl rfl)<|Zb rfl<|ct<|ZQ rfl (λz=> ?_) λz=> ?_
 refine Zr<|Zb rfl<|ct<|Zt<|cV (v:= .bool false) rfl ⟨hB,?_⟩
 exact mH (ve (Dg z))
 refine cu<|Zr<|Zf rfl d8<|ZL ((vs.getD k fL).o) rfl dV d rfl<|Zv (cT (v:=(vs.getD k fL).o) rfl (Below.slT hB g) cM)<|ZZ rfl<|cx ?_
 refine cS (σ:=(Nat)) [4,4,8,9,68,80] (λj=>[(68, .int .i64 (j:Int))]) (λj W=>(Below w.heap.size w W)∧(At W u _ 24)∧(At W x _ 24)∧(At W I _ 37)∧(At W N _ 37)∧(j≤(T.ls.getD k eV).os.length)∧(∀q,q<j→(T.ls.getD k eV).os.getD q 0=(U.ls.getD k eV).os.getD q 0)∧(True)) (λj=>(T.ls.getD k eV).os.length-j) (0) ⟨rfl,trivial⟩ ⟨hB,a,b,d,e,(my _),ef,trivial⟩ ?_
 rintro j ag ah ⟨hB,a,b,d,e,hj,hqj,_⟩ ai S
 refine Zr<|Zv (dk rfl rfl)<|ct<|Zq<|ZQ rfl (λV=> ?_) λV=> ?_
 refine cu<|Zq<|cx<|Zr<|Zi rfl<|Zv (df (v:=(vs.getD k fL).o) rfl (Below.slT hB g) rfl cM Om Om)<|Zv (cB (v:= .int .i64 _) rfl cK (dh.cell (Below.slT hB g) dI 0 Om Om 0 rfl))<|Zi rfl<|ZZ rfl<|Zr<|Zi rfl<|Zf rfl d8 ?_
 refine ZL ((us.getD k fL).o) rfl dV e rfl<|Zi rfl<|Zv (df (v:=(us.getD k fL).o) rfl (Below.slT hB h) rfl cM Om Om)<|Zv (cB (v:= .int .i64 _) rfl cK (dh.cell (Below.slT hB h) dI 0 Om Om 0 rfl))<|Zv (ep rfl rfl)<|ct<|ZQ rfl (λt=> ?_) λt=> ?_
 refine Zr<|Zb rfl<|ct<|Zt<|cV (v:= .bool false) rfl ⟨hB,?_⟩
 exact mH (ve (k:=k) (HP (j:=j) t))
 refine cu ?_
 have hsj:(T.ls.getD k eV).os.getD j 0=(U.ls.getD k eV).os.getD j 0:=aaa t
 refine ZT rfl rfl rfl ?_
 exact S _ _ (j+1) Za ⟨rfl,trivial⟩ ⟨hB,a,b,d,e,Om,(dG hqj hsj),trivial⟩ (by show (T.ls.getD k eV).os.length-(j+1)<(T.ls.getD k eV).os.length-j;omega)
 refine cR ?_
 have hcc:=vG hck hck2 s
 have hqj2:∀q,q<(T.ls.getD k eV).os.length→(T.ls.getD k eV).os.getD q 0=(U.ls.getD k eV).os.getD q 0:=λq hq'=>hqj q (by omega)
 refine ZT rfl rfl rfl ?_
 exact G _ _ (k+1) Za ⟨rfl,trivial⟩ ⟨hB,a,b,Om,(dG hq (HO hcc Om hqj2)),trivial⟩ Zo
 refine cR<|Zr<|Zb rfl<|ct<|Zt<|cV (v:= .bool true) rfl ⟨hB,?_⟩
 exact Tv (LX (by omega) (λq hq'=>hq q (by omega)))
theorem qu (T:Tb) (lv:Value) (vs:List uI) (U:Tb) (lu:Value) (us:List uI) (w:World) (hlv:dh iH 3 w lv vs) (hls:jX w vs T.ls) (hmb:∀i,i<T.ls.length→(T.ls.getD i eV).c.m<256∧(T.ls.getD i eV).c.v<256) (r:dh iH 3 w lu us) (A:jX w us U.ls) (hmb2:∀i,i<U.ls.length→(U.ls.getD i eV).c.m<256∧(U.ls.getD i eV).c.v<256) (hvl:T.ls.length≤1000000) (hol:∀k,k<T.ls.length→(T.ls.getD k eV).os.length≤1000000):
    Fn Tryz.prog 16 #[.agg #[.int .i64 T.kind, .int .i64 T.ni, .int .i64 T.no,lv], .agg #[.int .i64 U.kind, .int .i64 U.ni, .int .i64 U.no,lu]] w λv w'=>v= .bool (decide (T=U)):=by
 refine cH (n:=86) Tryz.func16 rfl rfl rfl λhB=> ?_
 have hle:=hls.len
 have hle2:=A.len
 refine Zr<|Zy (dt (c:= #[_,_,_,_]) rfl rfl λB W3 ar S a=> ?_)
 replace hB:=Ze hB S
 refine Zy (dt (c:= #[_,_,_,_]) rfl rfl λC W6 au V b=> ?_)
 obtain⟨hB,a⟩:=V.k2 hB a
 refine Zb rfl<|ct<|Zq<|Zr<|Zf rfl jg<|Zl rfl cK a rfl<|Zf rfl jg<|Zl rfl cK b rfl<|Zv (ep rfl rfl)<|ZX rfl (λX=> ?_) λX=> ?_
 refine Zs<|Zs<|Zs<|Zs<|Zs<|Zb rfl<|Zb rfl<|Zs<|Zs<|Zs<|Zs<|Zs<|Zb rfl<|Zb rfl ?_
 refine Zs<|Zs<|Zs<|Zs<|Zs<|Zs<|Zs<|Zb rfl<|ct<|cF rfl<|Zr<|Zb rfl<|ct<|Zt ?_
 refine cV (v:= .bool false) rfl ⟨hB,?_⟩
 exact mH (wM (by omega))
 refine Zf rfl fx<|Zl rfl cK a rfl<|Zf rfl fx<|Zl rfl cK b rfl<|Zv (ep rfl rfl)<|Zb rfl<|ZX rfl (λY=> ?_) λY=> ?_
 refine Zs<|Zs<|Zs<|Zs<|Zs<|Zb rfl<|Zb rfl<|Zs<|Zs<|Zs<|Zs<|Zs<|Zs<|Zs ?_
 refine Zb rfl<|ct<|cF rfl<|Zr<|Zb rfl<|ct<|Zt<|cV (v:= .bool false) rfl ⟨hB,?_⟩
 exact mH (wM (by omega))
 refine Zf rfl f6<|Zl rfl cK a rfl<|Zf rfl f6<|Zl rfl cK b rfl<|Zv (ep rfl rfl)<|Zb rfl<|ZX rfl (λZ=> ?_) λZ=> ?_
 refine Zs<|Zs<|Zs<|Zs<|Zs<|Zs<|Zs<|Zb rfl<|ct<|cF rfl<|Zr<|Zb rfl<|ct<|Zt ?_
 refine cV (v:= .bool false) rfl ⟨hB,?_⟩
 exact mH (wM (by omega))
 refine Zf rfl eq<|ZL lv rfl fF a rfl<|Zv (cT (v:=lv) rfl (Below.slT hB hlv) ff)<|Zf rfl eq<|ZL lu rfl fF b rfl<|Zv (cT (v:=lu) rfl (Below.slT hB r) ff)<|Zv (ep rfl rfl)<|Zb rfl<|ct<|ZQ rfl (λaa=> ?_) λaa=> ?_
 refine Zr<|Zb rfl<|ct<|Zt<|cV (v:= .bool false) rfl ⟨hB,?_⟩
 exact mH (wM (by omega))
 refine cu<|Zq<|Zr<|ZZ rfl<|cx ?_
 refine cS (σ:=(Nat)) [4,8,37,85] (λk=>[(5, .int .i64 (k:Int))]) (λk W=>(Below w.heap.size w W)∧(At W B _ 24)∧(At W C _ 24)∧(k≤T.ls.length)∧(∀q,q<k→T.ls.getD q eV=U.ls.getD q eV)∧(True)) (λk=>T.ls.length-k) (0) ⟨rfl,trivial⟩ ⟨hB,a,b,(my _),ef,trivial⟩ ?_
 rintro k av aw ⟨hB,a,b,hk,hq,_⟩ ax N
 refine Zq<|Zr<|Zi rfl<|Zf rfl eq<|ZL lv rfl fF a rfl<|Zv (cT (v:=lv) rfl (Below.slT hB hlv) ff)<|Zv (dk rfl rfl)<|ct<|ZQ rfl (λab=> ?_) λab=> ?_
 refine cu<|Zq<|cx ?_
 have hck:=hls.c k (by omega)
 have hck2:=A.c k (by omega)
 have hok:=hol k (by omega)
 refine Zd dz λac ad=> ?_
 obtain⟨hB,a,b⟩:=ad.k3 hB a b
 have hS:=dz.refl ac
 refine Tf 0 rfl rfl eq hS<|Tk 1 rfl (λ_ hq=>cB (v:=lv) rfl fF (At.cell (hq.at a) rfl)) hS<|Ti 2 rfl rfl hS<|Tk 3 rfl (λ_ hq=>df (v:=lv) rfl (hq.slT (Below.slT hB hlv)) rfl ff Om Om) hS<|Tk 4 rfl (λ_ hq=>gH rfl gp (dh.cell (hq.slT (Below.slT hB hlv)) ex fL Om Om 0 rfl) (dh.cell (hq.slT (Below.slT hB hlv)) ex fL Om Om 1 rfl) (dh.cell (hq.slT (Below.slT hB hlv)) ex fL Om Om 2 rfl)) hS ?_
 have g:dh dJ 1 w ((vs.getD k fL).o) ((T.ls.getD k eV).os):=hls.o k (by omega)
 refine Tf 5 rfl rfl eq hS<|Tk 6 rfl (λ_ hq=>cB (v:=lu) rfl fF (At.cell (hq.at b) rfl)) hS<|Ti 7 rfl rfl hS<|Tk 8 rfl (λ_ hq=>df (v:=lu) rfl (hq.slT (Below.slT hB r)) rfl ff Om Om) hS<|Tk 9 rfl (λ_ hq=>gH rfl gp (dh.cell (hq.slT (Below.slT hB r)) ex fL Om Om 0 rfl) (dh.cell (hq.slT (Below.slT hB r)) ex fL Om Om 1 rfl) (dh.cell (hq.slT (Below.slT hB r)) ex fL Om Om 2 rfl)) hS ?_
 have h:dh dJ 1 w ((us.getD k fL).o) ((U.ls.getD k eV).os):=A.o k (by omega)
 refine tw 10 11 jW rfl rfl rfl rfl rfl rfl rfl rfl (cI l8 rfl (λs ay O D d=>⟨.inl (hS.trans D),?_⟩)) (cI l8 rfl (λE az ae F f=>⟨.inl (hS.trans F),?_⟩))
 have G:=ZO O hB
 have H:=an (dz.size hS) (aae O.symm)
 obtain⟨hB,a,b⟩:=D.k3 hB a b
 replace hS:=hS.trans D
 refine To 11 rfl (cI l8 rfl λE aA P I f=>⟨.inl (hS.trans I),?_⟩)
 have J:=ZO P hB
 have Q:=Zn P d.lt
 obtain⟨hB,a,b,d⟩:=I.k4 hB a b d
 replace hS:=hS.trans I
 refine To 12 rfl (cz rfl rfl gp rfl d rfl (by exact mN (dh.one g)) λaB t af=>⟨.inl (db hS t (am _) (λj hj=>by have e:s=j:=Z9 hj;rw[←e];exact H)),?_⟩)
 replace hB:=Zg hB t G
 replace a:=At.grownAt a d t Dd
 replace b:=At.grownAt b d t Dd
 replace f:=At.grownNe f (Ne.symm Q) t
 replace d:=af
 refine To 13 rfl (cz rfl rfl gp rfl f rfl (by exact mN (dh.one h)) λaC y ag=>⟨.inr jW,?_⟩)
 replace hB:=Zg hB y J
 replace a:=At.grownAt a f y Dd
 replace b:=At.grownAt b f y Dd
 replace d:=At.grownNe d Q y
 replace f:=ag
 refine Td<|Zq<|Zr<|Zf rfl jf<|Zv (fD rfl cZ (At.cell d rfl) (At.cell d rfl))<|Zf rfl jf<|Zv (fD rfl cZ (At.cell f rfl) (At.cell f rfl))<|Zv (yM rfl rfl)<|ZX rfl (λl=> ?_) λl=> ?_
 refine Zs<|Zs<|Zs<|Zs<|Zs<|Zs<|Zs<|Zb rfl<|ct<|cF rfl<|Zr<|Zb rfl<|ct<|Zt ?_
 refine cV (v:= .bool false) rfl ⟨hB,?_⟩
 exact mH (ve (Dq hck hck2 l))
 refine Zf rfl d8<|ZL ((vs.getD k fL).o) rfl dV d rfl<|Zv (cT (v:=(vs.getD k fL).o) rfl (Below.slT hB g) cM)<|Zf rfl d8<|ZL ((us.getD k fL).o) rfl dV f rfl<|Zv (cT (v:=(us.getD k fL).o) rfl (Below.slT hB h) cM)<|Zv (ep rfl rfl)<|Zb rfl<|ct<|ZQ rfl (λu=> ?_) λu=> ?_
 refine Zr<|Zb rfl<|ct<|Zt<|cV (v:= .bool false) rfl ⟨hB,?_⟩
 exact mH (ve (Dg u))
 refine cu<|Zr<|ZZ rfl<|cx ?_
 refine cS (σ:=(Nat)) [4,4,8,8,68,85] (λj=>[(8, .int .i64 (j:Int))]) (λj W=>(Below w.heap.size w W)∧(At W B _ 24)∧(At W C _ 24)∧(At W s _ 37)∧(At W E _ 37)∧(j≤(T.ls.getD k eV).os.length)∧(∀q,q<j→(T.ls.getD k eV).os.getD q 0=(U.ls.getD k eV).os.getD q 0)∧(True)) (λj=>(T.ls.getD k eV).os.length-j) (0) ⟨rfl,trivial⟩ ⟨hB,a,b,d,f,(my _),ef,trivial⟩ ?_
 rintro j aD aE ⟨hB,a,b,d,f,hj,hqj,_⟩ aF ah
 refine Zq<|Zr<|Zi rfl<|Zf rfl d8<|ZL ((vs.getD k fL).o) rfl dV d rfl<|Zv (cT (v:=(vs.getD k fL).o) rfl (Below.slT hB g) cM)<|Zv (dk rfl rfl)<|ct<|ZQ rfl (λK=> ?_) λK=> ?_
 refine cu<|Zq<|cx<|Zd dz λai aj=> ?_
 obtain⟨hB,a,b,d,f⟩:=aj.k5 hB a b d f
 have hS:=dz.refl ai
 refine Tf 0 rfl rfl d8 hS<|Tk 1 rfl (λ_ hq=>cB (v:=(vs.getD k fL).o) rfl dV (At.cell (hq.at d) rfl)) hS<|Ti 2 rfl rfl hS<|Tk 3 rfl (λ_ hq=>df (v:=(vs.getD k fL).o) rfl (hq.slT (Below.slT hB g)) rfl cM Om Om) hS<|Tk 4 rfl (λ_ hq=>cB (v:= .int .i64 _) rfl cK (dh.cell (hq.slT (Below.slT hB g)) dI 0 Om Om 0 rfl)) hS<|Tf 5 rfl rfl d8 hS<|Tk 6 rfl (λ_ hq=>cB (v:=(us.getD k fL).o) rfl dV (At.cell (hq.at f) rfl)) hS<|Ti 7 rfl rfl hS<|Tk 8 rfl (λ_ hq=>df (v:=(us.getD k fL).o) rfl (hq.slT (Below.slT hB h)) rfl cM Om Om) hS<|Tk 9 rfl (λ_ hq=>cB (v:= .int .i64 _) rfl cK (dh.cell (hq.slT (Below.slT hB h)) dI 0 Om Om 0 rfl)) hS<|Tk 10 rfl (λ_ _=>ep rfl rfl) hS<|Td<|ZQ rfl (λp=> ?_) λp=> ?_
 refine Zr<|Zb rfl<|ct<|Zt<|cV (v:= .bool false) rfl ⟨hB,?_⟩
 exact mH (ve (k:=k) (HP (j:=j) p))
 refine cu ?_
 have hsj:(T.ls.getD k eV).os.getD j 0=(U.ls.getD k eV).os.getD j 0:=aaa p
 refine cN<|Zi rfl<|Zv (eP rfl rfl Om Om)<|ZZ rfl ?_
 exact ah _ _ (j+1) Za ⟨rfl,trivial⟩ ⟨hB,a,b,d,f,Om,(dG hqj hsj),trivial⟩ (by show (T.ls.getD k eV).os.length-(j+1)<(T.ls.getD k eV).os.length-j;omega)
 refine cR ?_
 have hcc:=vG hck hck2 l
 have hqj2:∀q,q<(T.ls.getD k eV).os.length→(T.ls.getD k eV).os.getD q 0=(U.ls.getD k eV).os.getD q 0:=λq hq'=>hqj q (by omega)
 refine cN<|Zi rfl<|Zv (eP rfl rfl Om Om)<|ZZ rfl ?_
 exact N _ _ (k+1) Za ⟨rfl,trivial⟩ ⟨hB,a,b,Om,(dG hq (HO hcc Om hqj2)),trivial⟩ Zo
 have J:=ZO ae hB
 obtain⟨hB,a,b⟩:=F.k3 hB a b
 replace hS:=hS.trans F
 refine To 10 rfl (cI l8 rfl λs aG L M d=>⟨.inl (hS.trans M),?_⟩)
 have G:=ZO L hB
 have H:=an (dz.size hS) (aae L.symm)
 have R:=Zn L f.lt
 obtain⟨hB,a,b,f⟩:=M.k4 hB a b f
 replace hS:=hS.trans M
 refine To 12 rfl (cz rfl rfl gp rfl d rfl (by exact mN (dh.one g)) λaH x ak=>⟨.inl (db hS x (am _) (λj hj=>by have e:s=j:=Z9 hj;rw[←e];exact H)),?_⟩)
 replace hB:=Zg hB x G
 replace a:=At.grownAt a d x Dd
 replace b:=At.grownAt b d x Dd
 replace f:=At.grownNe f R x
 replace d:=ak
 refine To 13 rfl (cz rfl rfl gp rfl f rfl (by exact mN (dh.one h)) λaI z al=>⟨.inr jW,?_⟩)
 replace hB:=Zg hB z J
 replace a:=At.grownAt a f z Dd
 replace b:=At.grownAt b f z Dd
 replace d:=At.grownNe d (Ne.symm R) z
 replace f:=al
 refine Td<|Zq<|Zr<|Zf rfl jf<|Zv (fD rfl cZ (At.cell d rfl) (At.cell d rfl))<|Zf rfl jf<|Zv (fD rfl cZ (At.cell f rfl) (At.cell f rfl))<|Zv (yM rfl rfl)<|ZX rfl (λl=> ?_) λl=> ?_
 refine Zs<|Zs<|Zs<|Zs<|Zs<|Zs<|Zs<|Zb rfl<|ct<|cF rfl<|Zr<|Zb rfl<|ct<|Zt ?_
 refine cV (v:= .bool false) rfl ⟨hB,?_⟩
 exact mH (ve (Dq hck hck2 l))
 refine Zf rfl d8<|ZL ((vs.getD k fL).o) rfl dV d rfl<|Zv (cT (v:=(vs.getD k fL).o) rfl (Below.slT hB g) cM)<|Zf rfl d8<|ZL ((us.getD k fL).o) rfl dV f rfl<|Zv (cT (v:=(us.getD k fL).o) rfl (Below.slT hB h) cM)<|Zv (ep rfl rfl)<|Zb rfl<|ct<|ZQ rfl (λu=> ?_) λu=> ?_
 refine Zr<|Zb rfl<|ct<|Zt<|cV (v:= .bool false) rfl ⟨hB,?_⟩
 exact mH (ve (Dg u))
 refine cu<|Zr<|ZZ rfl<|cx ?_
 refine cS (σ:=(Nat)) [4,4,8,8,68,85] (λj=>[(8, .int .i64 (j:Int))]) (λj W=>(Below w.heap.size w W)∧(At W B _ 24)∧(At W C _ 24)∧(At W E _ 37)∧(At W s _ 37)∧(j≤(T.ls.getD k eV).os.length)∧(∀q,q<j→(T.ls.getD k eV).os.getD q 0=(U.ls.getD k eV).os.getD q 0)∧(True)) (λj=>(T.ls.getD k eV).os.length-j) (0) ⟨rfl,trivial⟩ ⟨hB,a,b,f,d,(my _),ef,trivial⟩ ?_
 rintro j aJ aK ⟨hB,a,b,f,d,hj,hqj,_⟩ aL ao
 refine Zq<|Zr<|Zi rfl<|Zf rfl d8<|ZL ((vs.getD k fL).o) rfl dV d rfl<|Zv (cT (v:=(vs.getD k fL).o) rfl (Below.slT hB g) cM)<|Zv (dk rfl rfl)<|ct<|ZQ rfl (λK=> ?_) λK=> ?_
 refine cu<|Zq<|cx<|Zd dz λap aq=> ?_
 obtain⟨hB,a,b,f,d⟩:=aq.k5 hB a b f d
 have hS:=dz.refl ap
 refine Tf 0 rfl rfl d8 hS<|Tk 1 rfl (λ_ hq=>cB (v:=(vs.getD k fL).o) rfl dV (At.cell (hq.at d) rfl)) hS<|Ti 2 rfl rfl hS<|Tk 3 rfl (λ_ hq=>df (v:=(vs.getD k fL).o) rfl (hq.slT (Below.slT hB g)) rfl cM Om Om) hS<|Tk 4 rfl (λ_ hq=>cB (v:= .int .i64 _) rfl cK (dh.cell (hq.slT (Below.slT hB g)) dI 0 Om Om 0 rfl)) hS<|Tf 5 rfl rfl d8 hS<|Tk 6 rfl (λ_ hq=>cB (v:=(us.getD k fL).o) rfl dV (At.cell (hq.at f) rfl)) hS<|Ti 7 rfl rfl hS<|Tk 8 rfl (λ_ hq=>df (v:=(us.getD k fL).o) rfl (hq.slT (Below.slT hB h)) rfl cM Om Om) hS<|Tk 9 rfl (λ_ hq=>cB (v:= .int .i64 _) rfl cK (dh.cell (hq.slT (Below.slT hB h)) dI 0 Om Om 0 rfl)) hS<|Tk 10 rfl (λ_ _=>ep rfl rfl) hS<|Td<|ZQ rfl (λp=> ?_) λp=> ?_
 refine Zr<|Zb rfl<|ct<|Zt<|cV (v:= .bool false) rfl ⟨hB,?_⟩
 exact mH (ve (k:=k) (HP (j:=j) p))
 refine cu ?_
 have hsj:(T.ls.getD k eV).os.getD j 0=(U.ls.getD k eV).os.getD j 0:=aaa p
 refine cN<|Zi rfl<|Zv (eP rfl rfl Om Om)<|ZZ rfl ?_
 exact ao _ _ (j+1) Za ⟨rfl,trivial⟩ ⟨hB,a,b,f,d,Om,(dG hqj hsj),trivial⟩ (by show (T.ls.getD k eV).os.length-(j+1)<(T.ls.getD k eV).os.length-j;omega)
 refine cR ?_
 have hcc:=vG hck hck2 l
 have hqj2:∀q,q<(T.ls.getD k eV).os.length→(T.ls.getD k eV).os.getD q 0=(U.ls.getD k eV).os.getD q 0:=λq hq'=>hqj q (by omega)
 refine cN<|Zi rfl<|Zv (eP rfl rfl Om Om)<|ZZ rfl ?_
 exact N _ _ (k+1) Za ⟨rfl,trivial⟩ ⟨hB,a,b,Om,(dG hq (HO hcc Om hqj2)),trivial⟩ Zo
 refine cR<|Zr<|Zb rfl<|ct<|Zt<|cV (v:= .bool true) rfl ⟨hB,?_⟩
 exact Tv (LX (by omega) (λq hq'=>hq q (by omega)))
end
section
open Go Go.RowKit
theorem Qt (u0 u1 u2 u3:Value) (z:Array Value) (h0:u0.cells= #[u0]) (h1:u1.cells= #[u1]) (h2:u2.cells= #[u2]) (h3:u3.cells= #[u3]) (hz:z.size=4):Instr.fill (λi=>some (i*1,1)) z [(0,u0),(1,u1),(2,u2),(3,u3)]=some #[u0,u1,u2,u3]:=by
 rw[gR 1 0 u0 _ z (by rw[h0];rfl) (by omega),gR 1 1 u1 _ _ (by rw[h1];rfl) (by simp[h0];omega),gR 1 2 u2 _ _ (by rw[h2];rfl) (by simp[h0,h1];omega),gR 1 3 u3 _ _ (by rw[h3];rfl) (by simp[h0,h1,h2];omega),Instr.fill,h0,h1,h2,h3]
 obtain⟨l⟩:=z
 match l,hz with
 |[a,b,c,d],_=>simp
section
variable {P:Program} {f:Nat→Value} {w w':World} {d:Option Nat} {ty:TypeId} {ps:String} {af:Array Edge} {g:Option (Nat×Bool)} {t e T:TypeId} {by_ N sz b:Nat} {K:Value→World→Prop}
theorem PS {x0 x1 x2 x3:Operand} {u0 u1 u2 u3:Value} (hx0:dg f x0=u0) (hx1:dg f x1=u1) (hx2:dg f x2=u2) (hx3:dg f x3=u3) (hT:fj P t=some (e,1,by_)) (hz:(dT P e).map (λz=>z.cells.size)=some 1) (h0:u0.cells= #[u0]) (h1:u1.cells= #[u1]) (h2:u2.cells= #[u2]) (h3:u3.cells= #[u3])
  (hK:∀b w',b=w.heap.size→dz w w'→At w' b #[u0,u1,u2,u3] e→K (.slice (some ⟨b,0,none⟩) 4 4) w'):Yd P ⟨d, .buildSlice t 4 #[(0,x0),(1,x1),(2,x2),(3,x3)],ty,ps,af,g⟩ f w K:=by
 obtain⟨z,hz,hzs⟩:=go.1 hz
 unfold dT at hz
 obtain⟨i,hi,hzz⟩:=Do.1 hz
 unfold fj at hT
 cases hun:P.underlying t with
 |none=>simp[hun]at hT
 |some desc=>
  cases desc<;>simp[hun]at hT
  rename_i e'
  obtain⟨i',hi',rfl,q1,rfl⟩:=hT
  obtain rfl:i'=i:=by rw[hi]at hi';exact(Z9 hi').symm
  refine .val (w':=w.alloc (.cells #[u0,u1,u2,u3] e')) ?_ (hK w.heap.size _ rfl (dz.alloc w _) (mz w _ _))
  have hf:=Qt u0 u1 u2 u3 ((Array.range (4*1)).map (z.cells[·%z.cells.size]!)) h0 h1 h2 h3 gj
  simp only[abB]at hf
  simp[execOp,hx0,hx1,hx2,hx3,Instr.buildSlice,run_underlying hun,sizeOf,typeInfo,hi,q1,zeroValue,hzz,newRow,hf]
end
end
section
open Go Go.RowKit
def DC (m u i:Nat):UInt8:=if m/2^i%2=0 then 45 else if u/2^i%2=0 then 48 else 49
def pF (m u k:Nat):List UInt8:=(List.range k).map (DC m u)
def t7 (m u n k:Nat):List Int:=(List.range n).map λi=>if i<k then ((DC m u i).toNat:Int)else 0
section
variable {m u n k:Nat} {x:Int}
theorem k9 (m u k:Nat):(pF m u k).length=k:=by simp[pF]
theorem zI (m u n k:Nat):(t7 m u n k).length=n:=by simp[t7]
theorem Li (m u n:Nat):List.replicate n (0:Int)=t7 m u n 0:=by
 refine List.ext_getElem (by simp[t7]) λi h1 h2=> ?_
 simp[t7]
theorem zL (hk:k<n) (hx:x=((DC m u k).toNat:Int)):(t7 m u n k).set k x=t7 m u n (k+1):=by
 refine List.ext_getElem (by simp[t7]) λi h1 h2=> ?_
 have hi:i<n:=by simpa [t7] using h2
 rw[List.getElem_set]
 by_cases h:k=i
 ·subst h;simp[t7,hx]
 ·rw[if_neg h]
  simp only[t7,List.getElem_map,List.getElem_range]
  by_cases h3:i<k
  ·rw[if_pos h3,if_pos (by omega)]
  ·rw[if_neg h3,if_neg (by omega)]
theorem Ol (m u n:Nat):nK (t7 m u n n)=pF m u n:=by
 unfold nK t7 pF
 rw[List.map_map]
 refine abg λi hi=> ?_
 have h:=aam.1 hi
 simp[h]
theorem SR (h:((m/2^k &&& 1:Nat):Int)=0):(45:Int)=((DC m u k).toNat:Int):=by
 rw[px]at h
 unfold DC
 rw[if_pos (by omega)]
 rfl
theorem Zm (h:¬((m/2^k &&& 1:Nat):Int)=0) (h2:((u/2^k &&& 1:Nat):Int)=0):(48:Int)=((DC m u k).toNat:Int):=by
 rw[px]at h h2
 unfold DC
 rw[if_neg (by omega),if_pos (by omega)]
 rfl
theorem ZB (h:¬((m/2^k &&& 1:Nat):Int)=0) (h2:¬((u/2^k &&& 1:Nat):Int)=0):(49:Int)=((DC m u k).toNat:Int):=by
 rw[px]at h h2
 unfold DC
 rw[if_neg (by omega),if_neg (by omega)]
 rfl
def XY:List (List UInt8):=[[48],[49],[45]]
theorem La:XY.length=3:=rfl
theorem Le:(nP m u).length=8:=l9 m u 8
end
def GL (x:Int):UInt8:=if x=0 then 48 else if x=1 then 49 else 45
def lD (os:List Int):List UInt8:=os.map GL
def yE (m u:Nat) (n:Int) (os:List Int):List UInt8:=(pF m u n.toNat++[32])++lD os
section
variable {m u n k:Nat} {x:Int} {os:List Int} {a:List UInt8}
theorem pm (os:List Int):(lD os).length=os.length:=by simp[lD]
theorem K6 (hk:k<os.length):lD (os.take (k+1))=lD (os.take k)++[GL (os.getD k 0)]:=by
 unfold lD
 rw[aaH,th hk,abh,me,th hk]
 rfl
theorem KC {q:Nat} (hq:x=(q:Int)) (h:q<3):(([48,49,45]:List UInt8).drop q).take (q+1-q)=[GL x]:=by
 subst hq
 have:q=0∨q=1∨q=2:=by omega
 rcases this with rfl|rfl|rfl<;>rfl
theorem HS (hk:k<os.length) {q:Nat} (hq:os.getD (k:Int).toNat 0=(q:Int)) (h:q<3):eM ((a++lD (os.take k))++(([48,49,45]:List UInt8).drop q).take (q+1-q))=eM (a++lD (os.take (k+1))):=by
 rw[KC hq h,so,K6 hk,aav]
theorem Wm:eM a=eM (a++lD (os.take 0)):=by simp[lD]
theorem za {k:Nat}:(lD (os.take k)).length≤os.length:=by rw[pm,aal];omega
end
def j7:List (List UInt8):=[[102],[102,100],[102,114],[102,100,114]]
theorem nJ:j7.length=4:=rfl
theorem A8 (k:Nat):(j7.getD k []).length≤3:=by
 match k with
 |0|1|2|3=>decide
 |_+4=>exact my 3
def Fx (T:Tb):List UInt8:=([46,105,32]++jo T.ni.toNat++[10,46,111,32]++jo T.no.toNat++[10,46,116,121,112,101,32]++j7.getD T.kind.toNat []++[10,46,112,32]++jo T.ls.length)++[10]
def vm (ni:Int) (l:Ln):List UInt8:=yE l.c.m l.c.v ni l.os
def iX (T:Tb):Nat→List UInt8
 |0=>Fx T
 |k+1=>(iX T k++vm T.ni (T.ls.getD k eV))++[10]
def jy (T:Tb):List UInt8:=iX T T.ls.length++[46,101,10]
section
variable {T:Tb} {k j:Nat} {n:Int}
theorem iu (h:fc T=true):0≤T.kind∧T.kind≤3∧0≤T.ni∧T.ni≤8∧1≤T.no∧T.no≤4∧T.ls.length≤64:=by
 unfold fc at h
 rw[we]at h
 exact of_decide_eq_true h.1
theorem mw (h:fc T=true) (hk:k<T.ls.length):oN T.ni T.no (T.ls.getD k eV)=true:=by
 unfold fc at h
 rw[we]at h
 exact aaj.1 h.2 _ (oT hk)
theorem lj {ni no:Int} {l:Ln}:oN ni no l=true↔dC l.c.m l.c.v ni=true∧(l.os.length:Int)=no∧∀x,x∈l.os→0≤x∧x<3:=by
 unfold oN EK
 simp[and_assoc]
theorem xe (h0:0≤n) (h:n<100):Lib.itoa n=jo n.toNat:=by
 obtain⟨q,rfl⟩:=aau h0
 exact vZ (by omega)
theorem Lf (T:Tb):(Fx T).length≤40:=by
 unfold Fx
 have h1:=rg T.ni.toNat
 have h2:=rg T.no.toNat
 have h3:=rg T.ls.length
 have h4:=A8 T.kind.toNat
 simp only[An,aak,aa8]
 omega
theorem Ir {ni no:Int} {l:Ln} (h:oN ni no l=true) (hn:ni≤8) (ho:no≤4):(vm ni l).length≤13:=by
 obtain⟨_,h2,_⟩:=lj.1 h
 unfold vm yE
 simp only[An,aak,aa8,k9,pm]
 omega
theorem oq (h:fc T=true):∀k,k≤T.ls.length→(iX T k).length≤40+14*k
 |0,_=>by have:=Lf T;simpa [iX] using this
 |k+1,hk=>by
  have ih:=oq h k (by omega)
  obtain⟨_,_,_,h8,_,h4,_⟩:=iu h
  have hl:=Ir (mw h (show k<T.ls.length by omega)) h8 h4
  rw[iX]
  simp only[An,aak,aa8]
  omega
theorem DV {c:Cb} (hc:c=(T.ls.getD k eV).c) (hj:j=(T.ls.getD k eV).os.length):eM (((iX T k++(pF c.m c.v T.ni.toNat++[32]))++lD ((T.ls.getD k eV).os.take j))++[10])=eM (iX T (k+1)):=by
 subst hj
 subst hc
 rw[iX,vm,yE,aan]
 simp only[aav]
theorem Vr {q:Nat} (hq:q=T.ls.length):eM (([46,105,32]++jo T.ni.toNat++[10,46,111,32]++jo T.no.toNat++[10,46,116,121,112,101,32]++j7.getD T.kind.toNat []++[10,46,112,32]++jo (q:Int).toNat)++[10])=eM (iX T 0):=by
 subst hq;rfl
theorem HI {q:Nat} (hq:q=T.ls.length) (h0:0≤T.ni) (h1:T.ni<100) (h2:0≤T.no) (h3:T.no<100) (h4:q<100):eM (([46,105,32]++Lib.itoa T.ni++[10,46,111,32]++Lib.itoa T.no++[10,46,116,121,112,101,32]++j7.getD T.kind.toNat []++[10,46,112,32]++Lib.itoa (q:Int))++[10])=eM (iX T 0):=by
 rw[xe h0 h1,xe h2 h3,xe (by omega) (by omega)]
 exact Vr hq
theorem zt (h0:0≤n) (h:n<100):(Lib.itoa n).length≤2:=by rw[xe h0 h];exact rg _
end
end
section
open Go Go.RowKit
theorem mh:fj Tryz.prog 177=some (5,1,1):=by kernel_rfl
theorem HQ:(dT Tryz.prog 5).map (λz=>z.cells.size)=some 1:=by kernel_rfl
theorem mb:fj Tryz.prog 64=some (9,1,16):=by kernel_rfl
theorem VZ:(dT Tryz.prog 9).map (λz=>z.cells.size)=some 1:=by kernel_rfl
theorem ik (b:Bool) (w:World):
    Fn Tryz.prog 123 #[.bool b] w λv w'=>v= .int .i64 (if b=true then 0 else 2):=by
 refine cH (n:=4) Tryz.func123 rfl rfl rfl λhB=> ?_
 refine Zr<|ZZ rfl<|Zq<|Zr<|Zb rfl<|ct<|ZQ rfl (λa=> ?_) λa=> ?_
 refine Zr<|ZZ rfl<|Zt<|cV (v:= .int .i64 0) rfl ⟨hB,?_⟩
 rw[if_pos a]
 refine cu<|Zr<|ZZ rfl<|Zt<|cV (v:= .int .i64 2) rfl ⟨hB,?_⟩
 rw[if_neg (by rw[a];decide)]
theorem ws (w:World):
    Fn Tryz.prog 56 #[] w λv w'=>cD Da 1 9 w' w.heap.size v j7:=by
 refine cH (n:=2) Tryz.func56 rfl rfl rfl λhB=> ?_
 refine Zr<|Zw (.slice none 0 0) rfl<|ct<|Zr<|Zy (PS rfl rfl rfl rfl mb VZ rfl rfl rfl rfl λa W5 b c d=> ?_)
 have e:=ZO b hB
 replace hB:=Ze hB c
 have f:cD Da 1 9 W5 w.heap.size (.slice (some ⟨a,0,none⟩) 4 4) j7:=IE (l:=j7) d e kq (by decide)
 refine Zw (.slice (some ⟨a,0,none⟩) 4 4) rfl<|ct<|Zt<|cV (v:= .slice (some ⟨a,0,none⟩) 4 4) rfl ⟨hB,?_⟩
 exact f
end
section
open Go Go.RowKit
theorem XJ:dT Tryz.prog 5=some (.int .u8 0):=by kernel_rfl
theorem rF:eE Tryz.prog 9=true:=by kernel_rfl
theorem eA:j8 Tryz.prog 24=some 4:=by kernel_rfl
theorem LP:cX Tryz.prog 54=true:=by kernel_rfl
theorem Mq:cX Tryz.prog 56=true:=by kernel_rfl
theorem V1:cX Tryz.prog 57=true:=by kernel_rfl
theorem F1 (m u:Nat) (n:Int) (w:World) (hm:m<256) (hv:u<256):
    Fn Tryz.prog 57 #[.agg #[.int .u8 (m:Int), .int .u8 (u:Int)], .int .i64 n] w λv w'=>v=if dC m u n=true then .tuple #[eM (pF m u n.toNat), .int .i64 0]else .tuple #[eM [], .int .i64 1]:=by
 refine cH (n:=45) Tryz.func57 rfl rfl rfl λhB=> ?_
 refine Zr<|Zy (dt (c:= #[_,_]) rfl rfl λs W3 D t b=> ?_)
 replace hB:=Ze hB t
 refine Zw (.string _) rfl<|ZZ rfl<|Zq<|Zr<|Zv (cy rfl cZ rfl b)<|Zi rfl<|ZC (vs:=[.agg #[_,_], .int .i64 _]) C3 (na _ _ _ _ m5 m5) rfl λE F x y=> ?_
 obtain⟨hB,b⟩:=x.k2 hB b
 obtain rfl:=y
 refine Zv (eR rfl)<|ct<|ZQ rfl (λg=> ?_) λg=> ?_
 refine Zr<|Zw (.string _) rfl<|ZZ rfl<|Zt<|dL (v:= .string _) rfl (v1:= .int .i64 1) rfl ⟨hB,?_⟩
 rw[if_neg (by simpa using g)];rfl
 refine cu ?_
 have hr:dC m u n=true:=by simpa using g
 obtain⟨hn0,hn8,hmn,hvm⟩:=dw.1 hr
 obtain⟨q,rfl⟩:=aau hn0
 have hq8:q≤8:=by omega
 refine Zr<|Zi rfl<|Zy (OV (n:=q) (N:=w.heap.size) rfl rfl mh XJ Om (by simp[maxLen];omega) (Below.size hB) λd G z e=> ?_)
 replace e:=acA tW 0 rfl Dd e
 obtain⟨hB,b⟩:=z.k2 hB b
 rw[Li m u q]at e
 refine Zw d rfl<|ct<|Zq<|Zr<|Zw d rfl<|Zv (cT (v:=d) rfl e.sl mh)<|ZZ rfl<|cx ?_
 refine cS (σ:=(Nat)) [7,7,16,42] (λk=>[(16, .int .i64 (k:Int))]) (λk W=>(Below w.heap.size w W)∧(At W s _ 34)∧(cD Ac 1 5 W w.heap.size d (t7 m u q k))∧(k≤q)∧(True)) (λk=>q-k) (0) ⟨rfl,trivial⟩ ⟨hB,b,e,(my _),trivial⟩ ?_
 rintro k H I ⟨hB,b,ho,hk,_⟩ J h
 refine Zr<|Zv (dk rfl rfl)<|ct<|Zq<|ZQ rfl (λi=> ?_) λi=> ?_
 refine cu<|Zq<|cx ?_
 rw[zI]at i
 refine Zr<|Zi rfl<|ZZ rfl<|cx ?_
 have hdm:=aaw (aaY m (2^k)) hm
 refine Zr<|Zf rfl ea<|Zl rfl dK b rfl<|Zi rfl<|Zv (qd rfl rfl Om (by simp only[IntKind.bits];omega))<|Zv (mZ (n:=1) rfl rfl rfl (by simp only[ip];simp only[so];omega) tk)<|Zv (dW rfl rfl)<|Zb rfl<|ct<|ZQ rfl (λf=> ?_) λf=> ?_
 refine cN<|Zw d rfl<|Zi rfl<|Zv (df (v:=d) rfl ho.sl rfl mh Om Ou)<|Zy (uP (v:=d) (u:= .int .u8 45) (a:=45) (j:=_) rfl rfl (.inl ⟨dK,rfl⟩) tW rfl rfl ho Om Ou λK o A=> ?_)
 replace hB:=ZG hB o ho
 replace b:=At.grownOw b ho o Dd
 replace ho:=A
 rw[so,zL (by omega) (SR (k:=k) f)]at ho
 refine ct<|ZT rfl rfl rfl ?_
 exact h _ _ (k+1) Za ⟨rfl,trivial⟩ ⟨hB,b,(by exact ho),Om,trivial⟩ Om
 have hdu:=aaw (aaY u (2^k)) hv
 refine Zr<|Zf rfl fE<|Zl rfl dK b rfl<|Zi rfl<|Zv (qd rfl rfl Om (by simp only[IntKind.bits];omega))<|Zv (mZ (n:=1) rfl rfl rfl (by simp only[ip];simp only[so];omega) tk)<|Zv (dW rfl rfl)<|Zb rfl<|ct<|ZQ rfl (λl=> ?_) λl=> ?_
 refine cN<|Zw d rfl<|Zi rfl<|Zv (df (v:=d) rfl ho.sl rfl mh Om Ou)<|Zy (uP (v:=d) (u:= .int .u8 48) (a:=48) (j:=_) rfl rfl (.inl ⟨dK,rfl⟩) tW rfl rfl ho Om Ou λL p B=> ?_)
 replace hB:=ZG hB p ho
 replace b:=At.grownOw b ho p Dd
 replace ho:=B
 rw[so,zL (by omega) (Zm (k:=k) f l)]at ho
 refine ct<|ZT rfl rfl rfl ?_
 exact h _ _ (k+1) Za ⟨rfl,trivial⟩ ⟨hB,b,(by exact ho),Om,trivial⟩ Om
 refine cN<|Zw d rfl<|Zi rfl<|Zv (df (v:=d) rfl ho.sl rfl mh Om Ou)<|Zy (uP (v:=d) (u:= .int .u8 49) (a:=49) (j:=_) rfl rfl (.inl ⟨dK,rfl⟩) tW rfl rfl ho Om Ou λM r C=> ?_)
 replace hB:=ZG hB r ho
 replace b:=At.grownOw b ho r Dd
 replace ho:=C
 rw[so,zL (by omega) (ZB (k:=k) f l)]at ho
 refine ct<|ZT rfl rfl rfl ?_
 exact h _ _ (k+1) Za ⟨rfl,trivial⟩ ⟨hB,b,(by exact ho),Om,trivial⟩ Om
 refine cR<|Zr<|Zw d rfl<|Zv (yO (v:=d) rfl ho.sl Tryz.underlying177 Tryz.underlying5 Tryz.underlying9)<|Zw (eM _) rfl<|ZZ rfl<|Zt<|dL (v:=eM _) rfl (v1:= .int .i64 0) rfl ⟨hB,?_⟩
 have hkq:k=q:=by rw[zI]at i;omega
 subst hkq
 rw[if_pos hr,Ol];rfl
theorem wP (T:Tb) (lv:Value) (vs:List uI) (w:World) (hgl:Gl w) (hlv:dh iH 3 w lv vs) (hls:jX w vs T.ls) (hmb:∀i,i<T.ls.length→(T.ls.getD i eV).c.m<256∧(T.ls.getD i eV).c.v<256):
    Fn Tryz.prog 14 #[.agg #[.int .i64 T.kind, .int .i64 T.ni, .int .i64 T.no,lv]] w λv w'=>v=if fc T=true then .tuple #[eM (jy T), .int .i64 0]else .tuple #[eM [], .int .i64 1]:=by
 refine cH (n:=75) Tryz.func14 rfl rfl rfl λhB=> ?_
 have hle:=hls.len
 refine Zr<|Zy (dt (c:= #[_,_,_,_]) rfl rfl λp W3 Z F b=> ?_)
 replace hB:=Ze hB F
 refine Zw (.string _) rfl<|ZZ rfl<|Zq<|Zr<|Zv (cy rfl eA rfl b)<|ZC (vs:=[.agg #[_,_,_,_]]) LP (wO _ _ _ _ (Below.slT hB hlv) (jX.below hB hls) m5) rfl λaa ab G H=> ?_
 obtain⟨hB,b⟩:=G.k2 hB b
 obtain rfl:=H
 refine Zv (eR rfl)<|ct<|ZQ rfl (λh=> ?_) λh=> ?_
 refine Zr<|Zw (.string _) rfl<|ZZ rfl<|Zt<|dL (v:= .string _) rfl (v1:= .int .i64 1) rfl ⟨hB,?_⟩
 rw[if_neg (by simpa using h)];rfl
 refine cu ?_
 refine rN (σ:=(Unit)) [4,4,14,36] (λu_=>[(4,eM (iX T 0))]) (λW=>(Below w.heap.size w W)∧(At W p _ 24)∧(True)) ⟨hB,b,trivial⟩ (λu_ W=>(True)) (λac r=> ?_) ?_
 have hr:fc T=true:=by simpa using h
 obtain⟨hk0,hk3,hi0,hi8,hno1,hno4,hl64⟩:=iu hr
 have hd1:=zt hi0 (by omega)
 have hd2:=zt (n:=T.no) (by omega) (by omega)
 have hd3:=zt (n:=(vs.length:Int)) (by omega) (by omega)
 have hd4:=A8 T.kind.toNat
 refine fe dz fQ (λI J=> ?_)
 obtain⟨hB,b⟩:=J.k2 hB b
 have hS:=dz.refl I
 refine Tf 0 rfl rfl fx hS<|Tk 1 rfl (λ_ hq=>cB (v:= .int .i64 _) rfl cK (At.cell (hq.at b) rfl)) hS<|Tf 5 rfl rfl f6 hS<|Tk 6 rfl (λ_ hq=>cB (v:= .int .i64 _) rfl cK (At.cell (hq.at b) rfl)) hS<|Tf 11 rfl rfl jg hS<|Tk 12 rfl (λ_ hq=>cB (v:= .int .i64 _) rfl cK (At.cell (hq.at b) rfl)) hS<|Tf 17 rfl rfl eq hS<|Tk 18 rfl (λ_ hq=>cB (v:=lv) rfl fF (At.cell (hq.at b) rfl)) hS<|Tk 19 rfl (λ_ hq=>cT (v:=lv) rfl (hq.slT (Below.slT hB hlv)) ff) hS<|To 2 rfl (TC wc (jc _ _ (Gl.below hB hgl) (by omega) (by omega)) rfl λad ae s K=>⟨.inl (hS.trans s),?_⟩)
 obtain⟨hB,b⟩:=s.k2 hB b
 replace hS:=hS.trans s
 obtain rfl:=K
 refine Tk 3 rfl (λ_ _=>iC rfl rfl E8) hS<|Tk 4 rfl (λ_ _=>iC rfl rfl E8) hS<|To 7 rfl (TC wc (jc _ _ (Gl.below hB hgl) (by omega) (by omega)) rfl λaf ag t L=>⟨.inl (hS.trans t),?_⟩)
 obtain⟨hB,b⟩:=t.k2 hB b
 replace hS:=hS.trans t
 obtain rfl:=L
 refine Tk 8 rfl (λ_ _=>iC rfl rfl E8) hS<|Tk 9 rfl (λ_ _=>iC rfl rfl E8) hS<|To 10 rfl (TC Mq (ws _) rfl λA ah u e=>⟨.inl (hS.trans u),?_⟩)
 have M:=(Below.size hB)
 obtain⟨hB,b⟩:=u.k2 hB b
 replace hS:=hS.trans u
 replace e:=cD.mono e M
 refine tw 13 20 jW rfl rfl rfl rfl rfl rfl rfl rfl (Yd.val (df (v:=A) rfl e.sl rfl mb Om Ou) ⟨.inl hS,?_⟩) (Yd.call (Ig wc (v0:= .int .i64 _) rfl) (jc _ _ (Gl.below hB hgl) (by omega) (by omega)) (λB ai x g=>⟨.inl (hS.trans x),?_⟩))
 refine tw 14 20 jW rfl rfl rfl rfl rfl rfl rfl rfl (Yd.val (cB (v:= .string _) rfl rF (dh.cell e.sl kq [] Om Ou 0 rfl)) ⟨.inl hS,?_⟩) (Yd.call (Ig wc (v0:= .int .i64 _) rfl) (jc _ _ (Gl.below hB hgl) (by omega) (by omega)) (λB aj y g=>⟨.inl (hS.trans y),?_⟩))
 refine Tk 15 rfl (λ_ _=>iC rfl rfl E8) hS<|Tk 16 rfl (λ_ _=>iC rfl rfl E8) hS<|To 20 rfl (TC wc (jc _ _ (Gl.below hB hgl) (by omega) (by omega)) rfl λB ak z g=>⟨.inl (hS.trans z),?_⟩)
 obtain⟨hB,b⟩:=z.k2 hB b
 replace hS:=hS.trans z
 obtain rfl:=g
 refine Tk 21 rfl (λ_ _=>iC rfl rfl E8) hS<|Tk 22 rfl (λ_ _=>iC rfl rfl E8) hS<|Tw 23 (.string _) rfl rfl hS<|Td ?_
 exact r _ _ (()) Za ⟨HI hle hi0 Om Om Om Om,trivial⟩ ⟨hB,b,trivial⟩ (by exact trivial)
 obtain⟨hB,b,e⟩:=y.k3 hB b e
 replace hS:=hS.trans y
 obtain rfl:=g
 refine jK (dd:=some 28) 14 jW rfl rfl rfl rfl (Yd.val (cB (v:= .string _) rfl rF (dh.cell e.sl kq [] Om Ou 0 rfl)) ⟨.inl hS,?_⟩)
 refine Tk 15 rfl (λ_ _=>iC rfl rfl E8) hS<|Tk 16 rfl (λ_ _=>iC rfl rfl E8) hS<|Tk 21 rfl (λ_ _=>iC rfl rfl E8) hS<|Tk 22 rfl (λ_ _=>iC rfl rfl E8) hS<|Tw 23 (.string _) rfl rfl hS<|Td ?_
 exact r _ _ (()) Za ⟨HI hle hi0 Om Om Om Om,trivial⟩ ⟨hB,b,trivial⟩ (by exact trivial)
 obtain⟨hB,b,e⟩:=x.k3 hB b e
 replace hS:=hS.trans x
 obtain rfl:=g
 refine jK (dd:=some 27) 13 jW rfl rfl rfl rfl (Yd.val (df (v:=A) rfl e.sl rfl mb Om Ou) ⟨.inl hS,?_⟩)
 refine jK (dd:=some 28) 14 jW rfl rfl rfl rfl (Yd.val (cB (v:= .string _) rfl rF (dh.cell e.sl kq [] Om Ou 0 rfl)) ⟨.inl hS,?_⟩)
 refine Tk 15 rfl (λ_ _=>iC rfl rfl E8) hS<|Tk 16 rfl (λ_ _=>iC rfl rfl E8) hS<|Tk 21 rfl (λ_ _=>iC rfl rfl E8) hS<|Tk 22 rfl (λ_ _=>iC rfl rfl E8) hS<|Tw 23 (.string _) rfl rfl hS<|Td ?_
 exact r _ _ (()) Za ⟨HI hle hi0 Om Om Om Om,trivial⟩ ⟨hB,b,trivial⟩ (by exact trivial)
 rintro u_ al ao ⟨hB,b,_⟩ ⟨_⟩
 have hr:fc T=true:=by simpa using h
 obtain⟨hk0,hk3,hi0,hi8,hno1,hno4,hl64⟩:=iu hr
 refine Zq<|Zr<|Zf rfl eq<|ZL lv rfl fF b rfl<|Zv (cT (v:=lv) rfl (Below.slT hB hlv) ff)<|ZZ rfl<|cx ?_
 refine cS (σ:=(Nat)) [4,4,6,8,10,10,40,72] (λk=>[(40, .int .i64 (k:Int)),(4,eM (iX T k))]) (λk W=>(Below w.heap.size w W)∧(At W p _ 24)∧(k≤T.ls.length)∧(True)) (λk=>T.ls.length-k) (0) ⟨rfl,rfl,trivial⟩ ⟨hB,b,(my _),trivial⟩ ?_
 rintro k ap aq ⟨hB,b,hk,_⟩ ar N
 refine Zr<|Zv (dk rfl rfl)<|ct<|Zq<|ZQ rfl (λO=> ?_) λO=> ?_
 refine cu<|Zq<|cx ?_
 have hpl:=oq hr k (by omega)
 have hck:=hls.c k (by omega)
 have hbk:=hmb k (by omega)
 have hln:=mw hr (show k<T.ls.length by omega)
 have hll:=Ir hln hi8 hno4
 obtain⟨hr1,hr2,hr3⟩:=lj.1 hln
 have C:(vs.getD k fL).c.m<256∧(vs.getD k fL).c.v<256:=by rw[hck];exact hbk
 unfold vm at hll
 rw[←hck]at hll
 have hrb:dC (vs.getD k fL).c.m (vs.getD k fL).c.v T.ni=true:=by rw[hck];exact hr1
 unfold yE at hll
 simp only[An,aak,aa8,k9,pm]at hll
 refine Zr<|Zv (df (v:=lv) rfl (Below.slT hB hlv) rfl ff Om (by omega))<|Zv (gH rfl gp (dh.cell (Below.slT hB hlv) ex fL Om (by omega) 0 rfl) (dh.cell (Below.slT hB hlv) ex fL Om (by omega) 1 rfl) (dh.cell (Below.slT hB hlv) ex fL Om (by omega) 2 rfl)) ?_
 have l:dh dJ 1 w ((vs.getD k fL).o) ((T.ls.getD k eV).os):=hls.o k (by omega)
 refine Zy (cI l8 rfl λP au Q R f=> ?_)
 have S:=ZO Q hB
 obtain⟨hB,b⟩:=R.k2 hB b
 refine Zy (cz rfl rfl gp rfl f rfl (by exact mN (dh.one l)) λav D U=> ?_)
 replace hB:=Zg hB D S
 replace b:=At.grownAt b f D Dd
 replace f:=U
 refine ct<|Zr<|Zf rfl jf<|Zv (fD rfl cZ (At.cell f rfl) (At.cell f rfl))<|Zf rfl fx<|Zl rfl cK b rfl<|ZC (vs:=[.agg #[_,_], .int .i64 _]) V1 (F1 (vs.getD k fL).c.m (vs.getD k fL).c.v _ _ C.1 C.2) rfl λaw ax V E=> ?_
 obtain⟨hB,b,f⟩:=V.k3 hB b f
 rw[if_pos hrb]at E
 obtain rfl:=E
 refine Zw (.tuple #[.string _, .int .i64 0]) rfl<|Zv (c7 rfl)<|Zv (da rfl)<|Zw (.string _) rfl<|ZZ rfl<|Zr<|Zw (.string _) rfl<|Zw (.string _) rfl<|Zv (iC rfl rfl Vk)<|Zv (iC rfl rfl Vk)<|Zw (.string _) rfl<|ct<|Zq ?_
 refine Zr<|Zf rfl d8<|ZL ((vs.getD k fL).o) rfl dV f rfl<|Zv (cT (v:=(vs.getD k fL).o) rfl (Below.slT hB l) cM)<|ZZ rfl<|cx ?_
 refine cS (σ:=(Nat)) [4,4,10,10,59,69] (λj=>[(59, .int .i64 (j:Int)),(4,eM ((iX T k++(pF (vs.getD k fL).c.m (vs.getD k fL).c.v T.ni.toNat++[32]))++lD ((T.ls.getD k eV).os.take j)))]) (λj W=>(Below w.heap.size w W)∧(At W p _ 24)∧(At W P _ 37)∧(j≤(T.ls.getD k eV).os.length)∧(True)) (λj=>(T.ls.getD k eV).os.length-j) (0) ⟨rfl,Wm,trivial⟩ ⟨hB,b,f,(my _),trivial⟩ ?_
 rintro j ay az ⟨hB,b,f,hj,_⟩ aA X
 refine Zr<|Zv (dk rfl rfl)<|ct<|Zq<|ZQ rfl (λY=> ?_) λY=> ?_
 refine cu<|Zq<|cx<|Zr<|Zv (df (v:=(vs.getD k fL).o) rfl (Below.slT hB l) rfl cM Om (by omega))<|Zv (cB (v:= .int .i64 _) rfl cK (dh.cell (Below.slT hB l) dI 0 Om (by omega) 0 rfl))<|ZZ rfl ?_
 have hx:0≤(T.ls.getD k eV).os.getD (j:Int).toNat 0∧(T.ls.getD k eV).os.getD (j:Int).toNat 0<3:=hr3 _ (oT (d:=0) (show j<(T.ls.getD k eV).os.length by omega))
 obtain⟨q,hq⟩:=aau hx.1
 have hq1:(T.ls.getD k eV).os.getD (j:Int).toNat 0+1=((q+1:Nat):Int):=by omega
 have hq3:q<3:=by omega
 have hol2:=za (os:=(T.ls.getD k eV).os) (k:=j)
 refine cN<|Zw (.string _) rfl<|Zi rfl<|Zi rfl<|Zv (eP rfl rfl Om Om)<|Zv (LU (a:=[48,49,45]) (i:=q) (j:=q+1) rfl (congrArg (Value.int .i64) hq) (congrArg (Value.int .i64) hq1) Tryz.underlying9 Om iq)<|Zv (iC rfl rfl (by simp only[An,aak,aa8,k9,aal,aa5];omega))<|Zw (.string _) rfl<|ct<|ZT rfl rfl rfl ?_
 exact X _ _ (j+1) Za ⟨rfl,HS Om hq hq3,trivial⟩ ⟨hB,b,f,Om,trivial⟩ Zo
 refine cR ?_
 have hol2:=za (os:=(T.ls.getD k eV).os) (k:=j)
 refine cN<|Zw (.string _) rfl<|Zv (iC rfl rfl Vk)<|Zw (.string _) rfl<|ct<|ZT rfl rfl rfl ?_
 exact N _ _ (k+1) Za ⟨rfl,DV hck Om,trivial⟩ ⟨hB,b,Om,trivial⟩ Zo
 refine cR ?_
 have hpl:=oq hr k (by omega)
 refine Zr<|Zw (.string _) rfl<|Zv (iC rfl rfl E8)<|Zw (.string _) rfl<|ZZ rfl<|Zt<|dL (v:= .string _) rfl (v1:= .int .i64 0) rfl ⟨hB,?_⟩
 obtain rfl:k=T.ls.length:=by omega
 rw[if_pos hr];rfl
end
section
open Go Go.RowKit
structure Dx (Tn:TypeId) (N:Nat) (xs:List Nat) (w w':World):Prop where
 os:w'.os=w.os
 tape:w'.tape=w.tape
 output:w'.output=w.output
 size:w.heap.size≤w'.heap.size
 block:∀k,k<w.heap.size→(k<N∨(k∉xs∧∀c fr,w.heap[k]?≠some (.cells c Tn fr)))→w'.heap[k]? =w.heap[k]?
section
variable {Tn T:TypeId} {N:Nat} {xs:List Nat} {w w' w'':World}
theorem Dx.refl:Dx Tn N xs w w:=⟨rfl,rfl,rfl,am _,λ_ _ _=>rfl⟩
theorem Dx.trans (h:Dx Tn N xs w w') (k:Dx Tn N xs w' w''):Dx Tn N xs w w'':=by
 refine⟨k.os.trans h.os,k.tape.trans h.tape,k.output.trans h.output,an h.size k.size,λj hj hc=> ?_⟩
 have e:=h.block j hj hc
 rw[k.block j (aao hj h.size) (hc.imp id λ⟨a,b⟩=>⟨a,λc fr=>by rw[e];exact b c fr⟩),e]
theorem Dx.ext (h:dz w w'):Dx Tn N xs w w':=⟨Below.os h,Below.tape h,Below.output h,Below.size h,λk hk _=>Below.block h k hk⟩
instance {Tn:TypeId} {N:Nat} {xs:List Nat} {w0 w w':World}:Kp w w' (Dx Tn N xs w0 w) (Dx Tn N xs w0 w'):=⟨λh k=>Dx.trans k (Dx.ext h)⟩
theorem Dx.grown {b:Nat} (h:w.grownBy w' (some b)) (hb:b∈xs) (hN:N≤b):Dx Tn N xs w w':=by
 refine⟨h.os,h.tape,h.output,h.size,λk hk hc=>h.block k hk λe=> ?_⟩
 cases e
 rcases hc with hc|⟨hc,_⟩
 ·omega
 ·exact hc hb
theorem Dx.row {α:Type} {enc:α→List Value} {sz:Nat} {v:Value} {l:List α} (k:cD enc sz Tn w N v l) (h:w.grownBy w' v.ownBlock):Dx Tn N xs w w':=by
 refine⟨h.os,h.tape,h.output,h.size,λj hj hc=>h.block j hj λe=> ?_⟩
 obtain⟨_,h2|⟨g,cap,cur,h3,hg,hh,_⟩⟩:=k
 ·rw[h2.1]at e;cases e
 ·rw[h3]at e
  obtain rfl:j=g:=Z9 e
  rcases hc with hc|⟨_,hc⟩
  ·omega
  ·exact hc _ _ hh
theorem Dx.mono {ys:List Nat} (h:Dx Tn N xs w w') (hs:∀x,x∈xs→x∈ys):Dx Tn N ys w w':=⟨h.os,h.tape,h.output,h.size,λk hk hc=>h.block k hk (hc.imp id λ⟨a,b⟩=>⟨λq=>a (hs k q),b⟩)⟩
theorem Dx.new {b:Nat} (h:Dx Tn N xs w w') (hb:w.heap.size≤b) (k:Dx Tn N (b::xs) w' w''):Dx Tn N xs w w'':=by
 refine⟨k.os.trans h.os,k.tape.trans h.tape,k.output.trans h.output,an h.size k.size,λj hj hc=> ?_⟩
 have e:=h.block j hj hc
 rw[k.block j (aao hj h.size) (hc.imp id λ⟨a,q⟩=>⟨λm=>(aaq.1 m).elim (λe=>by omega) a,λc fr=>by rw[e];exact q c fr⟩),e]
theorem Below.dx {B:Nat} {w0:World} (hB:Go.RowKit.Below B w0 w) (hN:B≤N) (hs:B≤w0.heap.size) (h:Dx Tn N xs w w'):Go.RowKit.Below B w0 w':=
 ⟨h.os.trans hB.os,h.tape.trans hB.tape,h.output.trans hB.output,an hB.size h.size,λk hk=>(h.block k (by have:=hB.size;omega) (.inl (by omega))).trans (hB.block k hk)⟩
end
section
variable {Tn T:TypeId} {N:Nat} {xs:List Nat} {w w' w'':World}
theorem Dx.below (h:Go.RowKit.Below w.heap.size w w'):Dx Tn N xs w w':=⟨h.os,h.tape,h.output,h.size,λk hk _=>h.block k hk⟩
end
end
section
open Go Go.RowKit
structure iT (Ti:TypeId) (N:Nat) (w:World) (vs:List uI) (ls:List Ln):Prop where
 len:vs.length=ls.length
 c:∀i,i<ls.length→(vs.getD i fL).c=(ls.getD i eV).c
 o:∀i,i<ls.length→cD dJ 1 Ti w N (vs.getD i fL).o (ls.getD i eV).os
section
variable {Ti T':TypeId} {N N':Nat} {w w' W:World} {vs:List uI} {ls:List Ln}
theorem iT.nil:iT Ti N w [] []:=⟨rfl,λi hi=>(by cases hi),λi hi=>(by cases hi)⟩
theorem iT.at (k:iT Ti N w vs ls):jX w vs ls:=⟨k.len,k.c,λi hi=>(k.o i hi).sl⟩
theorem iT.ext (h:dz w w') (k:iT Ti N w vs ls):iT Ti N w' vs ls:=⟨k.len,k.c,λi hi=>h.ow (k.o i hi)⟩
instance {w w':World}:Kp w w' (iT Ti N w vs ls) (iT Ti N w' vs ls):=⟨iT.ext⟩
theorem iT.mono (k:iT Ti N w vs ls) (h:N'≤N):iT Ti N' w vs ls:=⟨k.len,k.c,λi hi=>(k.o i hi).mono h⟩
theorem iT.below (h:Go.RowKit.Below w.heap.size w W) (k:iT Ti N w vs ls):iT Ti N W vs ls:=⟨k.len,k.c,λi hi=>Below.ow h (k.o i hi)⟩
theorem iT.grownAt {b:Nat} {c:Array Value} (k:iT Ti N w vs ls) (hm:At w b c T') (hG:w.grownBy w' (some b)) (hT:T'≠Ti):iT Ti N w' vs ls:=⟨k.len,k.c,λi hi=>(k.o i hi).grownAt hm hG hT⟩
theorem iT.grownOw {α:Type} {enc:α→List Value} {sz:Nat} {v:Value} {l:List α} (k:iT Ti N w vs ls) (h:cD enc sz T' w N' v l) (hG:w.grownBy w' v.ownBlock) (hT:T'≠Ti):iT Ti N w' vs ls:=⟨k.len,k.c,λi hi=>(k.o i hi).grownOw h hG hT.symm⟩
theorem iT.snoc {x:uI} {l:Ln} (k:iT Ti N w vs ls) (hc:x.c=l.c) (ho:cD dJ 1 Ti w N x.o l.os):iT Ti N w (vs++[x]) (ls++[l]):=by
 have hl:=k.len
 refine⟨by simp[hl],λi hi=> ?_,λi hi=> ?_⟩
 all_goals
  rw[An,aaC]at hi
  by_cases h1:i<ls.length
  ·have e1:(vs++[x]).getD i fL=vs.getD i fL:=by simp only[me];rw[aaK (by omega)]
   have e2:(ls++[l]).getD i eV=ls.getD i eV:=by simp only[me];rw[aaK (by omega)]
   rw[e1,e2]
   first|exact k.c i h1|exact k.o i h1
  ·obtain rfl:i=ls.length:=by omega
   have e1:(vs++[x]).getD ls.length fL=x:=by simp only[me];rw[aaI (by omega),hl,Nat.sub_self];rfl
   have e2:(ls++[l]).getD ls.length eV=l:=by simp only[me];rw[aaI (by omega),Nat.sub_self];rfl
   rw[e1,e2]
   first|exact hc|exact ho
theorem jX.ext (h:dz w w') (k:jX w vs ls):jX w' vs ls:=⟨k.len,k.c,λi hi=>h.slT (k.o i hi)⟩
theorem jX.nil:jX w [] []:=⟨rfl,λi hi=>(by cases hi),λi hi=>by cases hi⟩
end
theorem vE {a b c:Int} {v:Value} (h:v.oneCell'=true):(#[Value.int .i64 a, .int .i64 b, .int .i64 c,v]:Array Value).toList.all Value.oneCell'=true:=by
 simp only[aa7,abL,h]
 rfl
def Kw (b:Nat):Int:=if b=45 then 2 else (b:Int)-48
def sL (s:List UInt8):List Int:=s.map λb=>Kw b.toNat
def jE (ni no:Int) (line:List UInt8):Bool:=
 (Lib.cut line [32]).2.2&&(nO (Lib.cut line [32]).1&&(decide (((Lib.cut line [32]).1.length:Int)=ni)&&(decide (((Lib.cut line [32]).2.1.length:Int)=no)&&(List.range (Lib.cut line [32]).2.1.length).all λi=>ss (iY (Lib.cut line [32]).2.1 i))))
def E3 (line:List UInt8):Ln:=⟨Aw (Lib.cut line [32]).1,sL (Lib.cut line [32]).2.1⟩
section
variable {P:Program} {f:Nat→Value} {w:World} {d:Option Nat} {ty:TypeId} {ps:String} {af:Array Edge} {g:Option (Nat×Bool)} {x y:Operand} {t t2:TypeId}
theorem Fr {m n:Nat} {b:Int} (hx:dg f x= .int .i32 (m:Int)) (hy:dg f y= .int .i32 b) (hb:b=(n:Int)) (h:n≤m) (hm:m<2147483648):
  (execOp (dg f) ⟨d, .binOp .sub t x y t2,ty,ps,af,g⟩).run P w= .ok (.value (.int .i32 ((m-n:Nat):Int))) w:=by
 subst hb
 rw[Mp hx hy,show (m:Int)-(n:Int)=((m-n:Nat):Int)by omega,ke (show m-n<ip .i32 by simp only[ip];omega)]
theorem Ud {m n:Nat} (hx:dg f x= .int .i64 (m:Int)) (hy:dg f y= .int .i64 1) (hm:m=n+1) (hn:n<9223372036854775807):
  (execOp (dg f) ⟨d, .binOp .sub t x y t2,ty,ps,af,g⟩).run P w= .ok (.value (.int .i64 (n:Int))) w:=by
 rw[ld hx hy (by omega) (by omega),show (m:Int)-1=(n:Int)by omega]
end
section
variable {s line:List UInt8} {i r:Nat} {x ni no:Int}
theorem RE (s p:List UInt8):(Lib.cut s p).1.length≤s.length∧(Lib.cut s p).2.1.length≤s.length:=by
 unfold Lib.cut
 split
 ·simp only[aal,aa5];omega
 ·exact⟨am _,my _⟩
theorem Bn (s:List UInt8):(sL s).length=s.length:=by simp[sL]
theorem tl (h:i<s.length) (hx:x=Kw (iY s i)):sL (s.take (i+1))=sL (s.take i)++[x]:=by
 unfold sL
 rw[aaH,th h,abh,hx]
 unfold iY
 rw[me,th h]
 rfl
theorem Nm (h:iY s i=48∨iY s i=49) (hr:r=iY s i):((r-48:Nat):Int)=Kw (iY s i):=by
 unfold Kw;rw[if_neg (by omega)];omega
theorem V8 (h:iY s i=45):(2:Int)=Kw (iY s i):=by rw[h];rfl
theorem O6 (h:(!(Lib.cut line [32]).2.2)=true):jE ni no line=false:=by
 unfold jE
 cases h2:(Lib.cut line [32]).2.2 with
 |false=>rfl
 |true=>rw[h2]at h;cases h
theorem UY (h:¬nO (Lib.cut line [32]).1=true):jE ni no line=false:=by
 unfold jE
 rw[aah.2 h,aaJ,aaB]
theorem Vj (h:¬((Lib.cut line [32]).1.length:Int)=ni):jE ni no line=false:=by
 unfold jE
 rw[decide_eq_false h,aaJ,aaB,aaB]
theorem VM (h:¬((Lib.cut line [32]).2.1.length:Int)=no):jE ni no line=false:=by
 unfold jE
 rw[decide_eq_false h,aaJ,aaB,aaB,aaB]
theorem T4 (hi:i<(Lib.cut line [32]).2.1.length) (h:ss (iY (Lib.cut line [32]).2.1 i)=false):jE ni no line=false:=by
 unfold jE
 have e:((List.range (Lib.cut line [32]).2.1.length).all λi=>ss (iY (Lib.cut line [32]).2.1 i))=false:=aah.2 λk=>by
  rw[aaj.1 k i (aam.2 hi)]at h
  cases h
 rw[e,aaB,aaB,aaB,aaB]
theorem Xq (h1:(!(Lib.cut line [32]).2.2)=false) (h2:nO (Lib.cut line [32]).1=true) (h3:¬¬((Lib.cut line [32]).1.length:Int)=ni) (h4:¬¬((Lib.cut line [32]).2.1.length:Int)=no) (h5:∀q,q<(Lib.cut line [32]).2.1.length→ss (iY (Lib.cut line [32]).2.1 q)=true):jE ni no line=true:=by
 unfold jE
 rw[h2,decide_eq_true (aaa h3),decide_eq_true (aaa h4),aaj.2 λq hq=>h5 q (aam.1 hq)]
 simpa using h1
theorem AZ:jE ni no line=true↔(Lib.cut line [32]).2.2=true∧nO (Lib.cut line [32]).1=true∧((Lib.cut line [32]).1.length:Int)=ni∧((Lib.cut line [32]).2.1.length:Int)=no∧∀q,q<(Lib.cut line [32]).2.1.length→ss (iY (Lib.cut line [32]).2.1 q)=true:=by
 unfold jE
 simp[aaj]
end
structure Rd where
 T:Tb
 st:Int
 told:Int
def Pz:Tb:=⟨0,0,0,[]⟩
def Hv:Rd:=⟨⟨1,0,0,[]⟩,0,-1⟩
def QJ (b:Bool):Int:=if b=true then 0 else 2
def kR:List UInt8:=[46,116,121,112,101,32]
def ym (s:List UInt8):Option Nat:=if s=[102]then some 0 else if s=[102,100]then some 1 else if s=[102,114]then some 2 else if s=[102,100,114]then some 3 else none
def gi (r:Rd) (l:List UInt8):Rd×Int:=
 if r.st=0 then (⟨{r.T with ni:=iS l [46,105] 0 8},r.st+1,r.told⟩,QJ (decide (iS l [46,105] 0 8≥0)))
 else if r.st=1 then (⟨{r.T with no:=iS l [46,111] 1 4},r.st+1,r.told⟩,QJ (decide (iS l [46,111] 1 4≥0)))
 else if r.st=5 then (r,2)
 else if Lib.hasPrefix l kR=true∧r.st=2 then
  match ym (Lib.trimPrefix l kR)with
  |some k=>(⟨{r.T with kind:=k},3,r.told⟩,0)
  |none=>(⟨r.T,3,r.told⟩,2)
 else if iS l [46,112] 0 64≥0∧r.st≤3 then (⟨r.T,4,iS l [46,112] 0 64⟩,0)
 else if l=[46,101]then (⟨r.T,5,r.told⟩,QJ (decide (r.told<0)||decide (r.told=(r.T.ls.length:Int))))
 else if jE r.T.ni r.T.no l=true then (⟨{r.T with ls:=r.T.ls++[E3 l]},4,r.told⟩,if r.T.ls.length=64 then 3 else 0)
 else (⟨r.T,4,r.told⟩,2)
section
variable {r:Rd} {l:List UInt8} {i k:Nat}
theorem XN (h:r.st=0):gi r l=(⟨{r.T with ni:=iS l [46,105] 0 8},r.st+1,r.told⟩,QJ (decide (iS l [46,105] 0 8≥0))):=by unfold gi;rw[if_pos h]
theorem Wu (h0:¬r.st=0) (h:r.st=1):gi r l=(⟨{r.T with no:=iS l [46,111] 1 4},r.st+1,r.told⟩,QJ (decide (iS l [46,111] 1 4≥0))):=by unfold gi;rw[if_neg h0,if_pos h]
theorem YS (h0:¬r.st=0) (h1:¬r.st=1) (h:r.st=5):gi r l=(r,2):=by unfold gi;rw[if_neg h0,if_neg h1,if_pos h]
theorem GN (hi:i<4) (h:j7.getD i []=l):ym l=some i:=by
 subst h
 match i,hi with
 |0,_|1,_|2,_|3,_=>decide
theorem Hm (h:∀q,q<4→¬j7.getD q []=l):ym l=none:=by
 unfold ym
 rw[if_neg λe=>h 0 (by decide) e.symm,if_neg λe=>h 1 (by decide) e.symm,if_neg λe=>h 2 (by decide) e.symm,if_neg λe=>h 3 (by decide) e.symm]
theorem Xw (h0:¬r.st=0) (h1:¬r.st=1) (h5:¬r.st=5) (hp:Lib.hasPrefix l kR=true) (h2:r.st=2) (hi:i<4) (hk:j7.getD i []=Lib.trimPrefix l kR):gi r l=(⟨{r.T with kind:=(i:Int)},3,r.told⟩,0):=by
 unfold gi;rw[if_neg h0,if_neg h1,if_neg h5,if_pos ⟨hp,h2⟩,GN hi hk]
theorem WB (h0:¬r.st=0) (h1:¬r.st=1) (h5:¬r.st=5) (hp:Lib.hasPrefix l kR=true) (h2:r.st=2) (hk:∀q,q<4→¬j7.getD q []=Lib.trimPrefix l kR):gi r l=(⟨r.T,3,r.told⟩,2):=by
 unfold gi;rw[if_neg h0,if_neg h1,if_neg h5,if_pos ⟨hp,h2⟩,Hm hk]
theorem WF (h0:¬r.st=0) (h1:¬r.st=1) (h5:¬r.st=5) (hp:¬(Lib.hasPrefix l kR=true∧r.st=2)) (hn:iS l [46,112] 0 64≥0) (h3:r.st≤3):gi r l=(⟨r.T,4,iS l [46,112] 0 64⟩,0):=by
 unfold gi;rw[if_neg h0,if_neg h1,if_neg h5,if_neg hp,if_pos ⟨hn,h3⟩]
theorem Us (h0:¬r.st=0) (h1:¬r.st=1) (h5:¬r.st=5) (hp:¬(Lib.hasPrefix l kR=true∧r.st=2)) (hn:¬(iS l [46,112] 0 64≥0∧r.st≤3)) (he:l=[46,101]):gi r l=(⟨r.T,5,r.told⟩,QJ (decide (r.told<0)||decide (r.told=(r.T.ls.length:Int)))):=by
 unfold gi;rw[if_neg h0,if_neg h1,if_neg h5,if_neg hp,if_neg hn,if_pos he]
theorem Wn (h0:¬r.st=0) (h1:¬r.st=1) (h5:¬r.st=5) (hp:¬(Lib.hasPrefix l kR=true∧r.st=2)) (hn:¬(iS l [46,112] 0 64≥0∧r.st≤3)) (he:¬l=[46,101]) (hr:jE r.T.ni r.T.no l=true):gi r l=(⟨{r.T with ls:=r.T.ls++[E3 l]},4,r.told⟩,if r.T.ls.length=64 then 3 else 0):=by
 unfold gi;rw[if_neg h0,if_neg h1,if_neg h5,if_neg hp,if_neg hn,if_neg he,if_pos hr]
theorem XK (h0:¬r.st=0) (h1:¬r.st=1) (h5:¬r.st=5) (hp:¬(Lib.hasPrefix l kR=true∧r.st=2)) (hn:¬(iS l [46,112] 0 64≥0∧r.st≤3)) (he:¬l=[46,101]) (hr:jE r.T.ni r.T.no l=false):gi r l=(⟨r.T,4,r.told⟩,2):=by
 unfold gi;rw[if_neg h0,if_neg h1,if_neg h5,if_neg hp,if_neg hn,if_neg he,if_neg (by rw[hr];decide)]
theorem R7:(gi r l).1.T.ls=r.T.ls∨(gi r l).1.T.ls=r.T.ls++[E3 l]∧(jE r.T.ni r.T.no l=true∧(gi r l).2=if r.T.ls.length=64 then 3 else 0):=by
 unfold gi
 by_cases h0:r.st=0;· rw[if_pos h0];exact .inl rfl
 rw[if_neg h0]
 by_cases h1:r.st=1;· rw[if_pos h1];exact .inl rfl
 rw[if_neg h1]
 by_cases h5:r.st=5;· rw[if_pos h5];exact .inl rfl
 rw[if_neg h5]
 by_cases hp:Lib.hasPrefix l kR=true∧r.st=2;· rw[if_pos hp];cases ym (Lib.trimPrefix l kR)<;>exact .inl rfl
 rw[if_neg hp]
 by_cases hn:iS l [46,112] 0 64≥0∧r.st≤3;· rw[if_pos hn];exact .inl rfl
 rw[if_neg hn]
 by_cases he:l=[46,101];· rw[if_pos he];exact .inl rfl
 rw[if_neg he]
 by_cases hr:jE r.T.ni r.T.no l=true
 ·rw[if_pos hr];exact .inr ⟨rfl,hr,rfl⟩
 ·rw[if_neg hr];exact .inl rfl
theorem EP (h:r.T.ls.length≤64) (he:(gi r l).2=0):(gi r l).1.T.ls.length≤64:=by
 rcases R7 (r:=r) (l:=l)with h1|⟨h1,_,h2⟩
 ·rw[h1];exact h
 ·rw[h2]at he
  split at he
  ·cases he
  ·rw[h1,An,aaC];omega
end
def pr (Tr Tl Ti:TypeId) (N:Nat) (w:World) (br:Nat) (r:Rd):Prop:=
 ∃lv vs,At w br #[.int .i64 r.T.kind, .int .i64 r.T.ni, .int .i64 r.T.no,lv, .int .i64 r.st, .int .i64 r.told] Tr∧cD iH 3 Tl w N lv vs∧iT Ti N w vs r.T.ls
section
variable {Tr Tl Ti T':TypeId} {N N' br:Nat} {w w' W:World} {r:Rd}
theorem pr.ext (h:dz w w') (k:pr Tr Tl Ti N w br r):pr Tr Tl Ti N w' br r:=by
 obtain⟨lv,vs,h1,h2,h3⟩:=k
 exact⟨lv,vs,h.at h1,h.ow h2,h3.ext h⟩
theorem pr.grownAt {b:Nat} {c:Array Value} (k:pr Tr Tl Ti N w br r) (hm:At w b c T') (hG:w.grownBy w' (some b)) (h1:T'≠Tr) (h2:T'≠Tl) (h3:T'≠Ti):pr Tr Tl Ti N w' br r:=by
 obtain⟨lv,vs,a1,a2,a3⟩:=k
 exact⟨lv,vs,a1.grownAt hm hG h1.symm,a2.grownAt hm hG h2,a3.grownAt hm hG h3⟩
theorem pr.below (h:Go.RowKit.Below w.heap.size w W) (k:pr Tr Tl Ti N w br r):pr Tr Tl Ti N W br r:=by
 obtain⟨lv,vs,h1,h2,h3⟩:=k
 exact⟨lv,vs,On h h1,Below.ow h h2,h3.below h⟩
theorem At.rd {b:Nat} {c:Array Value} {T:TypeId} (hR:pr Tr Tl Ti N w br r) (hX:Dx Tl N [br] w w') (k:At w b c T) (h1:T≠Tl) (h2:T≠Tr):At w' b c T:=by
 obtain⟨lv,vs,a1,_,_⟩:=hR
 have hne:=aco k a1 h2
 unfold At at*
 rw[hX.block b (gf k) (.inr ⟨by simpa using hne,λc' fr e=>by rw[k]at e;simp at e;exact h1 e.2.1⟩)]
 exact k
theorem cD.rd {α:Type} {enc:α→List Value} {sz:Nat} {T:TypeId} {v:Value} {l:List α} (hR:pr Tr Tl Ti N w br r) (hX:Dx Tl N [br] w w') (ho:cD enc sz T w N' v l) (h1:T≠Tl) (h2:T≠Tr):cD enc sz T w' N' v l:=by
 obtain⟨q1,q2|⟨g,cap,cur,q3,hg,hh,q⟩⟩:=ho
 ·exact⟨q1, .inl q2⟩
 ·exact⟨q1, .inr ⟨g,cap,cur,q3,hg,At.rd (c:=cur) hR hX hh h1 h2,q⟩⟩
end
def o0 (l:List UInt8):Bool:=decide (l=[])||decide (iY l 0=35)
def kZ (r:Rd) (l:List UInt8):Rd:=if o0 l=true then r else (gi r l).1
def mi (r:Rd) (l:List UInt8):Int:=if o0 l=true then 0 else (gi r l).2
def oa (ls:List (List UInt8)) (k:Nat):Rd:=(ls.take k).foldl kZ Hv
def Dh (ls:List (List UInt8)) (n:Nat):Option Nat:=(List.range n).find? λk=>decide (mi (oa ls k) (ls.getD k [])≠0)
def de (s:List UInt8):Tb×Nat×Int:=
 if 8000<s.length then (Pz,0,3)
 else match Dh (dp s) ((dp s).length-1)with
  |some k=>(Pz,k,mi (oa (dp s) k) ((dp s).getD k []))
  |none=>if (dp s).getD ((dp s).length-1) []≠[]then (Pz,(dp s).length-1,2)
   else if (oa (dp s) ((dp s).length-1)).st≠5 then (Pz,(dp s).length-1,7)
   else ((oa (dp s) ((dp s).length-1)).T,0,0)
section
variable {ls:List (List UInt8)} {s:List UInt8} {k n:Nat} {r:Rd} {l:List UInt8}
theorem Ev:oa ls 0=Hv:=rfl
theorem pk (h:k<ls.length):oa ls (k+1)=kZ (oa ls k) (ls.getD k []):=by
 unfold oa
 rw[aaH,th h,List.foldl_append,me,th h]
 rfl
theorem nj (h:o0 l=true):kZ r l=r∧mi r l=0:=by unfold kZ mi;rw[if_pos h,if_pos h];exact⟨rfl,rfl⟩
theorem gC (h:o0 l=false):kZ r l=(gi r l).1∧mi r l=(gi r l).2:=by unfold kZ mi;rw[if_neg (by rw[h];decide),if_neg (by rw[h];decide)];exact⟨rfl,rfl⟩
theorem D1 (h:l=[]):o0 l=true:=by rw[h];rfl
theorem A2 (h:((iY l 0:Nat):Int)=35):o0 l=true:=by unfold o0;rw[decide_eq_true (show iY l 0=35 by omega),Bool.or_true]
theorem ri (h:¬l=[]) (h2:¬((iY l 0:Nat):Int)=35):o0 l=false:=by unfold o0;rw[decide_eq_false h,decide_eq_false (show ¬iY l 0=35 by omega)];rfl
theorem LR (hk:k<n) (h:∀q,q<k→mi (oa ls q) (ls.getD q [])=0) (he:¬mi (oa ls k) (ls.getD k [])=0):Dh ls n=some k:=by
 unfold Dh
 rw[List.find?_range_eq_some]
 refine⟨by simpa using he,aam.2 hk,λj hj=> ?_⟩
 simpa using h j hj
theorem x8 (h:∀q,q<n→mi (oa ls q) (ls.getD q [])=0):Dh ls n=none:=by
 unfold Dh
 rw[List.find?_eq_none]
 intro k hk
 simpa using h k (aam.1 hk)
theorem Kq (h:Dh ls n=none):∀q,q<n→mi (oa ls q) (ls.getD q [])=0:=by
 intro q hq
 unfold Dh at h
 rw[List.find?_eq_none]at h
 simpa using h q (aam.2 hq)
theorem Mf (h:∀q,q<k→mi (oa ls q) (ls.getD q [])=0) (hk:k≤ls.length):(oa ls k).T.ls.length≤64:=by
 induction k with
 |zero=>rw[Ev];decide
 |succ k ih=>
  rw[pk (by omega)]
  have h1:=ih (λq hq=>h q (by omega)) (by omega)
  have h2:=h k (by omega)
  cases hs:o0 (ls.getD k [])with
  |true=>rw[(nj hs).1];exact h1
  |false=>rw[(gC hs).1];rw[(gC hs).2]at h2;exact EP h1 h2
theorem Bj:∀(s l:List UInt8),l∈dp s→l.length≤s.length
 |[],l,h=>by
  rw[dp,Z8]at h
  rw[h];exact am _
 |b::r,l,h=>by
  have ih:=Bj r
  unfold dp at h
  by_cases hb:b=10
  ·rw[if_pos hb]at h
   rcases aaq.1 h with rfl|h
   ·exact my _
   ·have:=ih l h;simp only[aak];omega
  ·rw[if_neg hb]at h
   cases hl:dp r with
   |nil=>exact absurd hl (rZ r)
   |cons a t=>
    rw[hl]at h ih
    simp only at h
    rcases aaq.1 h with rfl|h
    ·have:=ih a (aab);simp only[aak];omega
    ·have:=ih l (aai _ h);simp only[aak];omega
theorem G3 (s:List UInt8) (k:Nat):((dp s).getD k []).length≤s.length:=by
 rw[me]
 cases h:(dp s)[k]? with
 |none=>exact my _
 |some l=>exact Bj s l (List.mem_of_getElem? h)
theorem F9 (s:List UInt8):(dp s).length≤s.length+1:=by
 induction s with
 |nil=>exact am _
 |cons b r ih=>
  unfold dp
  by_cases hb:b=10
  ·rw[if_pos hb];simp only[aak];omega
  ·rw[if_neg hb]
   cases hl:dp r with
   |nil=>exact absurd hl (rZ r)
   |cons a t=>rw[hl]at ih;simp only[aak]at*;omega
theorem Ej (h:8000<s.length):de s=(Pz,0,3):=by unfold de;rw[if_pos h]
theorem Qs (h:¬8000<s.length) (hn:(dp s).length=n+1) (hk:k<n) (hq:∀q,q<k→mi (oa (dp s) q) ((dp s).getD q [])=0) (he:¬mi (oa (dp s) k) ((dp s).getD k [])=0):de s=(Pz,k,mi (oa (dp s) k) ((dp s).getD k [])):=by
 unfold de
 rw[if_neg h,show (dp s).length-1=n by omega,LR hk hq he]
theorem F0 (h:¬8000<s.length) (hn:(dp s).length=n+1) (hq:∀q,q<n→mi (oa (dp s) q) ((dp s).getD q [])=0) (he:¬(dp s).getD n []=[]):de s=(Pz,n,2):=by
 unfold de
 rw[if_neg h,show (dp s).length-1=n by omega,x8 hq]
 simp only[]
 rw[if_pos he]
theorem DS (h:¬8000<s.length) (hn:(dp s).length=n+1) (hq:∀q,q<n→mi (oa (dp s) q) ((dp s).getD q [])=0) (he:(dp s).getD n []=[]) (h5:¬(oa (dp s) n).st=5):de s=(Pz,n,7):=by
 unfold de
 rw[if_neg h,show (dp s).length-1=n by omega,x8 hq]
 simp only[]
 rw[if_neg (λe=>e he),if_pos h5]
theorem Gn (h:¬8000<s.length) (hn:(dp s).length=n+1) (hq:∀q,q<n→mi (oa (dp s) q) ((dp s).getD q [])=0) (he:(dp s).getD n []=[]) (h5:(oa (dp s) n).st=5):de s=((oa (dp s) n).T,0,0):=by
 unfold de
 rw[if_neg h,show (dp s).length-1=n by omega,x8 hq]
 simp only[]
 rw[if_neg (λe=>e he),if_neg (λe=>e h5)]
theorem DN (h:ls.length=n+1):((ls.drop 0).take (n-0)).length=n:=by simp;omega
theorem J3 (l:List (List UInt8)) (h:k<n):((l.drop 0).take (n-0)).getD k []=l.getD k []:=by
 rw[List.drop_zero,abK,me,me,List.getElem?_take_of_lt h]
end
end
end Go.Proofs.YtedeonkjellcpaaGreatDoor
