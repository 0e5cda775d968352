/- The walks of package spec. The words of the statements of layer 4. No program in it. Specs alike, and the document's reading of a table, in plain words. No program in it. The walks of specs alike, and of the document's reading of a table. A row of the call's own is changed in place: one field of an  -/
import Derived.Test.YtedeonkjellcpaaGreatDoorPar
namespace Go.Proofs.YtedeonkjellcpaaGreatDoor
set_option linter.unusedVariables false
set_option linter.unusedSimpArgs false
section
open Go Go.RowKit
theorem ID:dW Tryz.prog 133=some (.agg #[.nilFunc, .bool false, .nilFunc, .bool false, .nilFunc, .bool false, .nilFunc, .bool false]):=by kernel_rfl
theorem Dz:dW Tryz.prog 132=some (.agg #[.nilFunc, .bool false]):=by kernel_rfl
theorem Nj:(Tryz.prog.info? 4).map (·.size)=some 1:=by kernel_rfl
theorem Hs:(Tryz.prog.info? 130).map (·.size)=some 1:=by kernel_rfl
theorem kH {f:Nat→Value} {w:World} {d:Option Nat} {ty:TypeId} {ps:String} {af:Array Edge} {g:Option (Nat×Bool)} {x0 x1:Operand} {c0_0 c1_0:Value} (h0:dk f x0=c0_0) (k0:c0_0.cells= #[c0_0]) (h1:dk f x1=c1_0) (k1:c1_0.cells= #[c1_0]):
    (execOp (dk f) ⟨d, .build 132 #[(0,x0),(1,x1)],ty,ps,af,g⟩).run Tryz.prog w= .ok (.value (.agg #[c0_0,c1_0])) w:=by
  obtain⟨i0,hi0,hz0⟩:=Do.1 (show (Tryz.prog.info? 132).bind (·.zero)=_ from Dz)
  obtain⟨j4,hj4,hs4⟩:=an.1 Nj
  obtain⟨j130,hj130,hs130⟩:=an.1 Hs
  simp[execOp,h0,k0,h1,k1,Instr.build,zeroValue,typeInfo,sizeOf,hi0,hz0,run_underlying Tryz.underlying132,Instr.fill,d7,hj4,hs4,hj130,hs130]
theorem Io:(Tryz.prog.info? 132).map (·.size)=some 2:=by kernel_rfl
theorem s6 {f:Nat→Value} {w:World} {d:Option Nat} {ty:TypeId} {ps:String} {af:Array Edge} {g:Option (Nat×Bool)} {x0 x1 x2 x3:Operand} {c0_0 c0_1 c1_0 c1_1 c2_0 c2_1 c3_0 c3_1:Value} (h0:dk f x0= .agg #[c0_0,c0_1]) (h1:dk f x1= .agg #[c1_0,c1_1]) (h2:dk f x2= .agg #[c2_0,c2_1]) (h3:dk f x3= .agg #[c3_0,c3_1]):
    (execOp (dk f) ⟨d, .build 133 #[(0,x0),(1,x1),(2,x2),(3,x3)],ty,ps,af,g⟩).run Tryz.prog w= .ok (.value (.agg #[c0_0,c0_1,c1_0,c1_1,c2_0,c2_1,c3_0,c3_1])) w:=by
  obtain⟨i0,hi0,hz0⟩:=Do.1 (show (Tryz.prog.info? 133).bind (·.zero)=_ from ID)
  obtain⟨j132,hj132,hs132⟩:=an.1 Io
  simp[execOp,h0,h1,h2,h3,Instr.build,zeroValue,typeInfo,sizeOf,hi0,hz0,run_underlying Tryz.underlying133,Instr.fill,d7,hj132,hs132]
theorem FY:kf Tryz.prog 133=some 8:=by kernel_rfl
theorem za:dW Tryz.prog 59=some (.agg #[.int .i64 0, .slice none 0 0, .slice none 0 0]):=by kernel_rfl
theorem BS:(Tryz.prog.info? 57).map (·.size)=some 1:=by kernel_rfl
theorem w3 {f:Nat→Value} {w:World} {d:Option Nat} {ty:TypeId} {ps:String} {af:Array Edge} {g:Option (Nat×Bool)}:
    (execOp (dk f) ⟨d, .build 59 #[],ty,ps,af,g⟩).run Tryz.prog w= .ok (.value (.agg #[.int .i64 0, .slice none 0 0, .slice none 0 0])) w:=by
  obtain⟨i0,hi0,hz0⟩:=Do.1 (show (Tryz.prog.info? 59).bind (·.zero)=_ from za)
  obtain⟨j3,hj3,hs3⟩:=an.1 fN
  obtain⟨j57,hj57,hs57⟩:=an.1 BS
  simp[execOp,Instr.build,zeroValue,typeInfo,sizeOf,hi0,hz0,run_underlying Tryz.underlying59,Instr.fill,d7,hj3,hs3,hj57,hs57]
theorem Ms:cX Tryz.prog 81=true:=by kernel_rfl
theorem Et:kf Tryz.prog 132=some 2:=by kernel_rfl
theorem CU {f:Nat→Value} {w:World} {d:Option Nat} {ty:TypeId} {ps:String} {af:Array Edge} {g:Option (Nat×Bool)} {x0:Operand} {c0_0:Value} (h0:dk f x0=c0_0) (k0:c0_0.cells= #[c0_0]):
    (execOp (dk f) ⟨d, .build 59 #[(0,x0)],ty,ps,af,g⟩).run Tryz.prog w= .ok (.value (.agg #[c0_0, .slice none 0 0, .slice none 0 0])) w:=by
  obtain⟨i0,hi0,hz0⟩:=Do.1 (show (Tryz.prog.info? 59).bind (·.zero)=_ from za)
  obtain⟨j3,hj3,hs3⟩:=an.1 fN
  obtain⟨j57,hj57,hs57⟩:=an.1 BS
  simp[execOp,h0,k0,Instr.build,zeroValue,typeInfo,sizeOf,hi0,hz0,run_underlying Tryz.underlying59,Instr.fill,d7,hj3,hs3,hj57,hs57]
theorem GG:cX Tryz.prog 82=true:=by kernel_rfl
theorem Hc:d5 Tryz.prog 132 1=some 1:=by kernel_rfl
theorem Pf {f:Nat→Value} {w:World} {d:Option Nat} {ty t2:TypeId} {ps:String} {af:Array Edge} {g:Option (Nat×Bool)} {x y:Operand} {a0 a1 a2 a3 b0 b1 b2 b3:Int} (hx:dk f x= .agg #[.int .u64 a0, .int .u64 a1, .int .u64 a2, .int .u64 a3]) (hy:dk f y= .agg #[.int .u64 b0, .int .u64 b1, .int .u64 b2, .int .u64 b3]):
    (execOp (dk f) ⟨d, .binOp .neq 40 x y t2,ty,ps,af,g⟩).run Tryz.prog w= .ok (.value (.bool (decide (¬(a0=b0∧a1=b1∧a2=b2∧a3=b3))))) w:=by
  have hg:Tryz.prog.eqGuardType Tryz.prog.depth 40=false:=by kernel_rfl
  have ha:=mY (P:=Tryz.prog) w 9999 4 40 38 #[.int .u64 a0, .int .u64 a1, .int .u64 a2, .int .u64 a3] #[.int .u64 b0, .int .u64 b1, .int .u64 b2, .int .u64 b3]
    (λi=> .int .u64 ([a0,a1,a2,a3].getD i 0)) (λi=> .int .u64 ([b0,b1,b2,b3].getD i 0)) (λi=>[a0,a1,a2,a3].getD i 0==[b0,b1,b2,b3].getD i 0) Tryz.underlying40 ka (by simp[isAgg,run_underlying Tryz.underlying38])
    (λi hi=>by
      have:i=0∨i=1∨i=2∨i=3:=by omega
      rcases this with rfl|rfl|rfl|rfl<;>rfl)
    (λi hi=>by
      have:i=0∨i=1∨i=2∨i=3:=by omega
      rcases this with rfl|rfl|rfl|rfl<;>rfl)
    (λi hi=>run_equalIn_int w 9998 38 .u64 .u64 _ _ Tryz.underlying38)
  simp only[execOp,hx,hy,Sem.run_bind,run_eqGuard_agg _ _ _ _ _ _ _ hg,Result.andThen_ok,run_neq_struct,ha]
  simp[List.range,List.range.loop]
  by_cases q0:a0=b0<;>by_cases q1:a1=b1<;>by_cases q2:a2=b2<;>by_cases q3:a3=b3<;>simp[q0,q1,q2,q3]
theorem HA:d5 Tryz.prog 132 0=some 0:=by kernel_rfl
theorem L7:eJ Tryz.prog 130=true:=by kernel_rfl
theorem pP:(dW Tryz.prog 40).map (λz=>z.cells.size)=some 4:=by kernel_rfl
theorem ux (a b c e:Nat) (w:World):
    Fn Tryz.prog 128 #[ej a,ej b,ej c,ej e] w λv w'=>v=ej (andNot a c):=by
 refine cM (n:=12) Tryz.func128 rfl rfl rfl λhB=> ?_
 refine Zr<|Zy (dw (c:= #[_,_,_,_]) rfl rfl λx W3 y h d=> ?_)
 replace hB:=Ze hB h
 refine Zy (dw (c:= #[_,_,_,_]) rfl rfl λz W6 A i B=> ?_)
 obtain⟨hB,d⟩:=i.k2 hB d
 refine Zy (dw (c:= #[_,_,_,_]) rfl rfl λC W9 D j g=> ?_)
 obtain⟨hB,d⟩:=j.k2 hB d
 refine Zy (dw (c:= #[_,_,_,_]) rfl rfl λE F G k H=> ?_)
 obtain⟨hB,d,g⟩:=k.k3 hB d g
 refine Zy (cK el rfl λl m o p f=> ?_)
 have q:=ZO o hB
 obtain⟨hB,d,g⟩:=p.k3 hB d g
 replace f:At m l #[wv 0 0,wv 0 1,wv 0 2,wv 0 3] 40:=f
 refine ct<|Zr<|Zv (cz rfl cC rfl d)<|Zv (cz rfl cC rfl g)<|ZC (vs:=[.agg #[_,_,_,_], .agg #[_,_,_,_]]) ss (l6 _ _ _) rfl λI J r s=> ?_
 obtain⟨hB,f⟩:=r.k2 hB f
 obtain rfl:=s
 refine Zy (cA rfl rfl cC rfl f rfl rfl λK t u=> ?_)
 replace hB:=Zg hB t q
 replace f:=u
 refine ct<|Zt<|jw rfl cC f rfl ⟨hB,?_⟩
 rfl
theorem ut (a b c e:Nat) (w:World):
    Fn Tryz.prog 129 #[ej a,ej b,ej c,ej e] w λv w'=>v=ej b:=by
 refine cM (n:=10) Tryz.func129 rfl rfl rfl λhB=> ?_
 refine Zr<|Zy (dw (c:= #[_,_,_,_]) rfl rfl λs W3 t g u=> ?_)
 replace hB:=Ze hB g
 refine Zy (dw (c:= #[_,_,_,_]) rfl rfl λx W6 y h d=> ?_)
 replace hB:=Ze hB h
 refine Zy (dw (c:= #[_,_,_,_]) rfl rfl λz W9 A i B=> ?_)
 obtain⟨hB,d⟩:=i.k2 hB d
 refine Zy (dw (c:= #[_,_,_,_]) rfl rfl λC D E j F=> ?_)
 obtain⟨hB,d⟩:=j.k2 hB d
 refine Zy (cK el rfl λk l m o f=> ?_)
 have p:=ZO m hB
 obtain⟨hB,d⟩:=o.k2 hB d
 replace f:At l k #[wv 0 0,wv 0 1,wv 0 2,wv 0 3] 40:=f
 refine ct<|Zr<|Zv (cz rfl cC rfl d)<|Zy (cA rfl rfl cC rfl f rfl rfl λG q r=> ?_)
 replace hB:=Zg hB q p
 replace f:=r
 refine ct<|Zt<|jw rfl cC f rfl ⟨hB,?_⟩
 rfl
theorem vC (a b c e:Nat) (w:World):
    Fn Tryz.prog 130 #[ej a,ej b,ej c,ej e] w λv w'=>v=ej (b ||| e):=by
 refine cM (n:=12) Tryz.func130 rfl rfl rfl λhB=> ?_
 refine Zr<|Zy (dw (c:= #[_,_,_,_]) rfl rfl λx W3 y h z=> ?_)
 replace hB:=Ze hB h
 refine Zy (dw (c:= #[_,_,_,_]) rfl rfl λA W6 B i d=> ?_)
 replace hB:=Ze hB i
 refine Zy (dw (c:= #[_,_,_,_]) rfl rfl λC W9 D j E=> ?_)
 obtain⟨hB,d⟩:=j.k2 hB d
 refine Zy (dw (c:= #[_,_,_,_]) rfl rfl λF G H k g=> ?_)
 obtain⟨hB,d⟩:=k.k2 hB d
 refine Zy (cK el rfl λl m o p f=> ?_)
 have q:=ZO o hB
 obtain⟨hB,d,g⟩:=p.k3 hB d g
 replace f:At m l #[wv 0 0,wv 0 1,wv 0 2,wv 0 3] 40:=f
 refine ct<|Zr<|Zv (cz rfl cC rfl d)<|Zv (cz rfl cC rfl g)<|ZC (vs:=[.agg #[_,_,_,_], .agg #[_,_,_,_]]) qj (pq _ _ _) rfl λI J r s=> ?_
 obtain⟨hB,f⟩:=r.k2 hB f
 obtain rfl:=s
 refine Zy (cA rfl rfl cC rfl f rfl rfl λK t u=> ?_)
 replace hB:=Zg hB t q
 replace f:=u
 refine ct<|Zt<|jw rfl cC f rfl ⟨hB,?_⟩
 rfl
theorem aaD (k:Int) (all ones nz fr:Nat) (w:World):Fn Tryz.prog (SQ 129 130 128 k) #[ej all,ej ones,ej nz,ej fr] w λv w'=>v=ej (MF k all ones nz fr):=by
  unfold SQ MF
  by_cases h0:k=0
  · rw[if_pos h0,if_pos h0];exact ut all ones nz fr w
  · rw[if_neg h0,if_neg h0]
    by_cases h1:k=1
    · rw[if_pos h1,if_pos h1];exact vC all ones nz fr w
    · rw[if_neg h1,if_neg h1];exact ux all ones nz fr w
theorem Ps (k:Int):cX Tryz.prog (SQ 129 130 128 k)=true:=by
  unfold SQ
  by_cases h0:k=0
  · rw[if_pos h0];kernel_rfl
  · rw[if_neg h0]
    by_cases h1:k=1
    · rw[if_pos h1];kernel_rfl
    · rw[if_neg h1];kernel_rfl
theorem qN (w:World):
    Fn Tryz.prog 81 #[] w λv w'=>v= .agg #[.func (.func 129) #[] #[], .bool false, .func (.func 130) #[] #[], .bool false, .func (.func 128) #[] #[], .bool true, .func (.func 128) #[] #[], .bool true]:=by
 refine cM (n:=9) Tryz.func81 rfl rfl rfl λhB=> ?_
 refine Zr<|Zy (cK ID rfl λg W3 b c a=> ?_)
 have d:=ZO b hB
 replace hB:=Ze hB c
 refine ct<|Zr<|Zw (.func (.func 128) #[] #[]) rfl<|ct<|Zr<|Zv (kH (h0:=rfl) (k0:=rfl) (h1:=rfl) (k1:=rfl) (c0_0:= .func (.func 129) #[] #[]) (c1_0:= .bool false))<|Zv (kH (h0:=rfl) (k0:=rfl) (h1:=rfl) (k1:=rfl) (c0_0:= .func (.func 130) #[] #[]) (c1_0:= .bool false))<|Zw (.func (.func 128) #[] #[]) rfl<|Zv (kH (h0:=rfl) (k0:=rfl) (h1:=rfl) (k1:=rfl) (c0_0:= .func (.func 128) #[] #[]) (c1_0:= .bool true))<|Zw (.func (.func 128) #[] #[]) rfl<|Zv (kH (h0:=rfl) (k0:=rfl) (h1:=rfl) (k1:=rfl) (c0_0:= .func (.func 128) #[] #[]) (c1_0:= .bool true))<|Zv (s6 (h0:=rfl) (h1:=rfl) (h2:=rfl) (h3:=rfl))<|Zy (cA rfl rfl FY rfl a rfl rfl λh e f=> ?_)
 replace hB:=Zg hB e d
 replace a:=f
 refine ct<|Zt<|jw rfl FY a rfl ⟨hB,?_⟩
 rfl
theorem o0 (T:Tb) (lv:Value) (vs:List AA) (o:Nat) (m:Int) (w:World) (hlv:dp ik 3 w lv vs) (hls:qW w vs T.ls) (hmb:∀i,i<T.ls.length→(T.ls.getD i jE).c.m<256∧(T.ls.getD i jE).c.v<256) (hr:fy T=true) (ho:(o:Int)<T.no):
    Fn Tryz.prog 82 #[.agg #[.int .i64 T.kind, .int .i64 T.ni, .int .i64 T.no,lv], .int .i64 (o:Int), .int .i64 m] w λv w'=>v=ej (nW T o m):=by
 refine cM (n:=39) Tryz.func82 rfl rfl rfl λhB=> ?_
 have hle:=hls.len
 obtain⟨hk0,hk3,hi0,hi8,hno1,hno4,hl64⟩:=iR hr
 refine Zr<|Zy (dw (c:= #[_,_,_,_]) rfl rfl λB W3 ac C d=> ?_)
 replace hB:=Ze hB C
 refine Zy (cK el rfl λr W6 D E a=> ?_)
 have F:=ZO D hB
 obtain⟨hB,d⟩:=E.k2 hB d
 replace a:At W6 r #[wv 0 0,wv 0 1,wv 0 2,wv 0 3] 40:=a
 refine ct<|Zr<|Zy (cK el rfl λs G t H b=> ?_)
 have I:=ZO t hB
 have u:=Zn t a.lt
 obtain⟨hB,d,a⟩:=H.k3 hB d a
 replace b:At G s #[wv 0 0,wv 0 1,wv 0 2,wv 0 3] 40:=b
 refine ct<|Zq<|Zr<|Zf rfl fW<|ZL lv rfl iU d rfl<|Zv (de (v:=lv) rfl (Below.slT hB hlv) gY)<|ZZ rfl<|cy ?_
 refine cY (σ:=(Nat)) [9,11,15,37] (λk=>[(15, .int .i64 (k:Int))]) (λk W=>(Below w.heap.size w W)∧(At W B _ 24)∧(At W r _ 40)∧(At W s #[wv (s8 T o m k) 0,wv (s8 T o m k) 1,wv (s8 T o m k) 2,wv (s8 T o m k) 3] 40)∧(k≤T.ls.length)∧(True)) (λk=>T.ls.length-k) (0) ⟨rfl,trivial⟩ ⟨hB,d,a,b,(my _),trivial⟩ ?_
 rintro k ad ae ⟨hB,d,a,b,hk,_⟩ af x
 refine Zr<|Zv (dq rfl rfl)<|ct<|Zq<|ZQ rfl (λJ=> ?_) λJ=> ?_
 refine cx<|Zq<|cy ?_
 have hck:=hls.c k (by omega)
 have hln:=pr hr (show k<T.ls.length by omega)
 obtain⟨hr1,hr2,hr3⟩:=nJ.1 hln
 have hbk:=hmb k (by omega)
 have y:(vs.getD k nG).c.m<256∧(vs.getD k nG).c.v<256:=by rw[hck];exact hbk
 have hrb:dP (vs.getD k nG).c.m (vs.getD k nG).c.v T.ni=true:=by rw[hck];exact hr1
 refine Zr<|Zv (dm (v:=lv) rfl (Below.slT hB hlv) rfl gY Om (by omega))<|Zv (jc rfl f7 (dp.cell (Below.slT hB hlv) kd nG Om (by omega) 0 rfl) (dp.cell (Below.slT hB hlv) kd nG Om (by omega) 1 rfl) (dp.cell (Below.slT hB hlv) kd nG Om (by omega) 2 rfl)) ?_
 have j:dp dT 1 w ((vs.getD k nG).o) ((T.ls.getD k jE).os):=hls.o k (by omega)
 refine Zy (cK oZ rfl λag ah K L e=> ?_)
 have M:=ZO K hB
 obtain⟨hB,d,a,b⟩:=L.k4 hB d a b
 refine Zy (cA rfl rfl f7 rfl e rfl (by exact oV (dp.one j)) λai g N=> ?_)
 replace hB:=Zg hB g M
 replace d:=At.grownAt d e g Dd
 replace a:=At.grownAt a e g Dd
 replace b:=At.grownAt b e g Dd
 replace e:=N
 refine ct<|Zr<|Zf rfl gX<|ZL ((vs.getD k nG).o) rfl fp e rfl<|Zi rfl<|Zv (dm (v:=(vs.getD k nG).o) rfl (Below.slT hB j) rfl cV Om (by omega))<|Zv (cD (v:= .int .i64 _) rfl cR (dp.cell (Below.slT hB j) ez 0 Om (by omega) 0 rfl))<|Zi rfl<|Zv (dJ rfl rfl)<|ct<|ZQ rfl (λl=> ?_) λl=> ?_
 refine Zr<|Zf rfl wj<|Zv (iq rfl dh (At.cell e rfl) (At.cell e rfl))<|Zf rfl fT<|Zl rfl cR d rfl<|ZC (vs:=[.agg #[_,_], .int .i64 _]) yM (kx (vs.getD k nG).c.m (vs.getD k nG).c.v _ _ y.1 y.2) rfl λaj ak O z=> ?_
 obtain⟨hB,d,a,b⟩:=O.k4 hB d a b
 rw[if_pos hrb]at z
 obtain rfl:=z
 refine Zw (.tuple #[.agg #[_,_,_,_], .int .i64 0]) rfl<|Zv (cZ rfl)<|Zv (c7 rfl)<|Zy (cK el rfl λP Q p R f=> ?_)
 have S:=ZO p hB
 have U:=Zn p a.lt
 have V:=Zn p b.lt
 obtain⟨hB,d,a,b⟩:=R.k4 hB d a b
 replace f:At Q P #[wv 0 0,wv 0 1,wv 0 2,wv 0 3] 40:=f
 refine Zy (cA rfl rfl cC rfl f rfl rfl λal h X=> ?_)
 replace hB:=Zg hB h S
 replace d:=At.grownAt d f h Dd
 replace a:=At.grownNe a U h
 replace b:=At.grownNe b V h
 replace f:=X
 refine ZZ rfl<|cI<|Zv (cz rfl cC rfl b)<|Zv (cz rfl cC rfl f)<|ZC (vs:=[.agg #[_,_,_,_], .agg #[_,_,_,_]]) qj (pq _ _ _) rfl λao ap Y Z=> ?_
 obtain⟨hB,d,a,b⟩:=Y.k4 hB d a b
 obtain rfl:=Z
 refine Zy (cA rfl rfl cC rfl b rfl rfl λaq q aa=> ?_)
 replace hB:=Zg hB q I
 replace d:=At.grownAt d b q Dd
 replace a:=At.grownNe a u q
 replace b:=aa
 refine ct<|ZT rfl rfl rfl ?_
 exact x _ _ (k+1) Za ⟨rfl,trivial⟩ ⟨hB,d,a,(by (rw[←Vl (o:=o) (k:=k) l,←hck];exact b)),Om,trivial⟩ Zo
 refine cx<|ZT rfl rfl rfl ?_
 exact x _ _ (k+1) Za ⟨rfl,trivial⟩ ⟨hB,d,a,(by (rw[←Nm (o:=o) (k:=k) l];exact b)),Om,trivial⟩ Zo
 refine cT<|Zr<|Zv (cz rfl cC rfl b)<|Zy (cA rfl rfl cC rfl a rfl rfl λar A ab=> ?_)
 replace hB:=Zg hB A F
 replace b:=At.grownNe b (Ne.symm u) A
 replace a:=ab
 refine ct<|Zt<|jw rfl cC a rfl ⟨hB,?_⟩
 obtain rfl:k=T.ls.length:=by omega
 rfl
set_option maxHeartbeats 4000000 in
theorem wt (T:Tb) (lv:Value) (vs:List AA) (w:World) (hlv:dp ik 3 w lv vs) (hls:qW w vs T.ls) (hmb:∀i,i<T.ls.length→(T.ls.getD i jE).c.m<256∧(T.ls.getD i jE).c.v<256):
    Fn Tryz.prog 25 #[.agg #[.int .i64 T.kind, .int .i64 T.ni, .int .i64 T.no,lv]] w λv w'=>(oo T=0∧∃onV mayV,v= .tuple #[.agg #[.int .i64 T.ni,onV,mayV], .int .i64 0]∧cH fh 4 40 w' w.heap.size onV (pg T T.no.toNat)∧cH fh 4 40 w' w.heap.size mayV (lK T T.no.toNat))∨(oo T≠0∧v= .tuple #[.agg #[.int .i64 0, .slice none 0 0, .slice none 0 0], .int .i64 (oo T)]):=by
 refine cM (n:=73) Tryz.func25 rfl rfl rfl λhB=> ?_
 have hle:=hls.len
 refine Zr<|Zy (dw (c:= #[_,_,_,_]) rfl rfl λaP W3 bM aQ f=> ?_)
 replace hB:=Ze hB aQ
 refine Zy (cK za rfl λaR W6 aS aT e=> ?_)
 have Z:=ZO aS hB
 obtain⟨hB,f⟩:=aT.k2 hB f
 refine ZZ rfl<|Zq<|Zr<|Zv (cz rfl dX rfl f)<|ZC (vs:=[.agg #[_,_,_,_]]) Nb (w5 _ _ _ _ (Below.slT hB hlv) (qW.below hB hls) pN) rfl λbN bO aU aV=> ?_
 obtain⟨hB,f,e⟩:=aU.k3 hB f e
 obtain rfl:=aV
 refine Zv (eR rfl)<|ct<|ZQ rfl (λaa=> ?_) λaa=> ?_
 refine Zr<|Zv (w3)<|Zy (cA rfl rfl ee rfl e rfl rfl λbP aW aX=> ?_)
 replace hB:=Zg hB aW Z
 replace e:=aX
 refine ZZ rfl<|Zt<|eh rfl ee e rfl (v1:= .int .i64 1) rfl ⟨hB,?_⟩
 (rw[YU (by simpa using aa)];exact .inr ⟨by decide,rfl⟩)
 refine cx ?_
 have hr:fy T=true:=by simpa using aa
 obtain⟨hk0,hk3,hi0,hi8,hno1,hno4,hl64⟩:=iR hr
 have hn8:=J1 hr
 obtain⟨no,hno⟩:=abj (show 0≤T.no by omega)
 refine Zr<|Zf rfl fT<|Zl rfl cR f rfl<|ZC vU (nA _ _) rfl λbQ bR aY ay=> ?_
 obtain⟨hB,f,e⟩:=aY.k3 hB f e
 rw[if_pos ⟨hi0,hi8⟩]at ay
 obtain rfl:=ay
 refine Zw (.tuple #[.agg #[_,_,_,_], .int .i64 0]) rfl<|Zv (cZ rfl)<|Zv (c7 rfl)<|Zy (cK el rfl λaz aZ a0 a1 j=> ?_)
 have a2:=ZO a0 hB
 obtain⟨hB,f,e⟩:=a1.k3 hB f e
 replace j:At aZ az #[wv 0 0,wv 0 1,wv 0 2,wv 0 3] 40:=j
 refine Zy (cA rfl rfl cC rfl j rfl rfl λbS ab a3=> ?_)
 replace hB:=Zg hB ab a2
 replace f:=At.grownAt f j ab Dd
 replace e:=At.grownAt e j ab Dd
 replace j:=a3
 refine ZZ rfl ?_
 refine qn (σ:=(Nat)) [6,6,22,25] (λD=>[(6, .pointer (some ⟨D,0,none⟩))]) (λW=>(Below w.heap.size w W)∧(At W aP _ 24)∧(At W aR _ 59)∧(At W az _ 40)∧(True)) ⟨hB,f,e,j,trivial⟩ (λD W=>(At W D #[.func (.func (SQ 129 130 128 T.kind)) #[] #[], .bool (decide (2≤T.kind))] 132)∧(w.heap.size≤D)∧(True)) (λbT aA=> ?_) ?_
 refine eP dC fC (λa4 a5=> ?_)
 obtain⟨hB,f,e,j⟩:=a5.k4 hB f e j
 have hS:=dC.refl a4
 refine Tf 1 rfl rfl mn hS<|Tk 2 rfl (λ_ hq=>cD (v:= .int .i64 _) rfl cR (At.cell (hq.at f) rfl)) hS ?_
 refine v8 0 4 ka rfl rfl rfl rfl rfl rfl rfl rfl (Yd.call (SN Ms) (qN _) (λa6 bU ac ad=>⟨.inl (hS.trans ac),?_⟩)) (cK Dz rfl (λD bV a7 ae l=>⟨.inl (hS.trans ae),?_⟩))
 obtain⟨hB,f,e,j⟩:=ac.k4 hB f e j
 replace hS:=hS.trans ac
 obtain rfl:=ad
 refine Tk 3 rfl (λ_ _=>B4 rfl rfl Tryz.underlying133 Tryz.underlying132 ka hk0 hk3) hS<|To 4 rfl (cK Dz rfl λD bW a8 aB l=>⟨.inl (hS.trans aB),?_⟩)
 have M:=ZO a8 hB
 obtain⟨hB,f,e,j⟩:=aB.k4 hB f e j
 refine To 5 rfl (cA rfl rfl Et rfl l rfl rfl λbX R a9=>⟨.inr ka,?_⟩)
 replace hB:=Zg hB R M
 replace f:=At.grownAt f l R Dd
 replace e:=At.grownAt e l R Dd
 replace j:=At.grownAt j l R Dd
 replace l:=a9
 refine Td ?_
 exact aA _ _ (D) Za ⟨rfl,trivial⟩ ⟨hB,f,e,j,trivial⟩ (by exact⟨(by exact l),M,trivial⟩)
 have M:=ZO a7 hB
 obtain⟨hB,f,e,j⟩:=ae.k4 hB f e j
 replace hS:=hS.trans ae
 refine To 0 rfl (TC Ms (qN _) rfl λa6 bY af ad=>⟨.inl (hS.trans af),?_⟩)
 obtain⟨hB,f,e,j,l⟩:=af.k5 hB f e j l
 replace hS:=hS.trans af
 obtain rfl:=ad
 refine Tk 3 rfl (λ_ _=>B4 rfl rfl Tryz.underlying133 Tryz.underlying132 ka hk0 hk3) hS<|To 5 rfl (cA rfl rfl Et rfl l rfl rfl λbZ S ba=>⟨.inr ka,?_⟩)
 replace hB:=Zg hB S M
 replace f:=At.grownAt f l S Dd
 replace e:=At.grownAt e l S Dd
 replace j:=At.grownAt j l S Dd
 replace l:=ba
 refine Td ?_
 exact aA _ _ (D) Za ⟨rfl,trivial⟩ ⟨hB,f,e,j,trivial⟩ (by exact⟨(by exact l),M,trivial⟩)
 rintro D b0 r ⟨hB,f,e,j,_⟩ ⟨l,M,_⟩
 have ag:=Below.slT hB hlv
 have ah:=qW.below hB hls
 have U:=hB
 replace hB:=Below.refl r.heap.size r
 refine Zr<|Zf rfl fT<|Zl rfl cR (On hB f) rfl<|Zv (CU (h0:=rfl) (k0:=rfl) (c0_0:= .int .i64 _))<|Zy (cK za rfl λai b1 bb bc d=> ?_)
 have aj:=ZO bb hB
 replace hB:=Ze hB bc
 refine Zy (cA rfl rfl ee rfl d rfl rfl λb2 bd bf=> ?_)
 replace hB:=Zg hB bd aj
 replace d:=bf
 refine ct<|Zq<|Zr<|Zf rfl gD<|Zl rfl cR (On hB f) rfl<|ZZ rfl<|cy ?_
 refine cY (σ:=(Nat)×(Value)×(Value)) [3,3,8,11,31,71] (λ(o,onv,mayv)=>[(31, .int .i64 (o:Int))]) (λsg W=>match sg with|(o,onv,mayv)=>(Below r.heap.size r W)∧(At W ai #[.int .i64 T.ni,onv,mayv] 59)∧(cH fh 4 40 W r.heap.size onv (pg T o))∧(cH fh 4 40 W r.heap.size mayv (lK T o))∧(ft onv mayv)∧((o:Int)≤T.no)∧(∀q,q<o→nT T q=false)∧(True)) (λ(o,onv,mayv)=>T.no.toNat-o) ((0, .slice none 0 0, .slice none 0 0)) ⟨rfl,trivial⟩ ⟨hB,d,cH.nil,cH.nil,adh,Om,eT,trivial⟩ ?_
 rintro⟨o,onv,mayv⟩ b3 b4 ⟨hB,d,hon,hmay,hap,ho,hq,_⟩ b5 bg
 refine Zr<|Zv (dq rfl rfl)<|ct<|Zq<|ZQ rfl (λbh=> ?_) λbh=> ?_
 refine cx<|Zq<|cy<|Zr<|Zi rfl<|ZZ rfl<|Zd dC λaC bi=> ?_
 obtain⟨hB,d,hon,hmay⟩:=bi.k4 hB d hon hmay
 have hS:=dC.refl aC
 refine Tk 0 rfl (λ_ hq=>cz rfl dX rfl (hq.at (On hB f))) hS<|Ti 1 rfl rfl hS<|Tk 3 rfl (λ_ hq=>cz rfl dX rfl (hq.at (On hB f))) hS<|Ti 4 rfl rfl hS<|Tk 6 rfl (λ_ hq=>cz rfl dX rfl (hq.at (On hB f))) hS<|Ti 7 rfl rfl hS ?_
 refine UV (m:=6) (A:=[2,5,8,9,10,11]) (L1:= #[true,true,true,true,true,true,true,true,true,true,true,true,false,false,false]) (T:=[9,11,36,36,39,39,42,42]) (λL g W=>∃t y z:Nat,(dC aC W)∧(Below r.heap.size r W)∧(At W ai _ 59)∧(cH fh 4 40 W r.heap.size onv _)∧(cH fh 4 40 W r.heap.size mayv _)∧((L.getD 2 false=true→g 36=ej (nW T o 1)))∧((L.getD 5 false=true→g 39=ej (nW T o 0)))∧((L.getD 8 false=true→g 42=ej (nW T o 2)))∧((L.getD 9 false=true→g 9= .pointer (some ⟨t,0,none⟩)∧At W t #[wv 0 0,wv 0 1,wv 0 2,wv 0 3] 40∧r.heap.size≤t∧Value.ownBlock onv≠some t∧Value.ownBlock mayv≠some t))∧((L.getD 10 false=true→g 10= .pointer (some ⟨y,0,none⟩)∧At W y #[wv 0 0,wv 0 1,wv 0 2,wv 0 3] 40∧r.heap.size≤y∧Value.ownBlock onv≠some y∧Value.ownBlock mayv≠some y))∧((L.getD 11 false=true→g 11= .pointer (some ⟨z,0,none⟩)∧At W z #[wv 0 0,wv 0 1,wv 0 2,wv 0 3] 40∧r.heap.size≤z∧Value.ownBlock onv≠some z∧Value.ownBlock mayv≠some z))∧((L.getD 9 false=true→L.getD 10 false=true→t≠y))∧((L.getD 9 false=true→L.getD 11 false=true→t≠z))∧((L.getD 10 false=true→L.getD 11 false=true→y≠z))∧(True)) ka ⟨0,0,0,hS,hB,d,hon,hmay,(λh=>Bool.noConfusion (show false=true from h)),(λh=>Bool.noConfusion (show false=true from h)),(λh=>Bool.noConfusion (show false=true from h)),(λh=>Bool.noConfusion (show false=true from h)),(λh=>Bool.noConfusion (show false=true from h)),(λh=>Bool.noConfusion (show false=true from h)),(λh=>Bool.noConfusion (show false=true from h)),(λh=>Bool.noConfusion (show false=true from h)),(λh=>Bool.noConfusion (show false=true from h)),trivial⟩ ?_ ?_
 rintro i hi L g b6 hlt ⟨t,y,z,hS,hB,d,hon,hmay,I,J,K,E,F,G,hn9_10,hn9_11,hn10_11,_⟩
 have hi2:i=2∨i=5∨i=8∨i=9∨i=10∨i=11:=by simpa using hi
 rcases hi2 with rfl|rfl|rfl|rfl|rfl|rfl
 refine⟨_,36,rfl,rfl,rfl,rfl,rfl,?_⟩
 refine Yd.call (DY GG (v0:= .agg #[_,_,_,_]) rfl (v1:= .int .i64 _) rfl (v2:= .int .i64 1) rfl) (o0 T _ vs o 1 _ (Below.slT hB ag) (qW.below hB ah) hmb hr Om) (λv W' hE hP=>⟨.inl (hS.trans hE),?_⟩)
 obtain rfl:=hP
 exact⟨t,y,z,hS.trans hE,cW hB hE (am _),hE.at d,hE.ow hon,hE.ow hmay,(λ_=>rfl),(λh=>J (dZ Dd h)),(λh=>K (dZ Dd h)),(λh=>let q:=E (dZ Dd h);⟨q.1,hE.at q.2.1,q.2.2⟩),(λh=>let q:=F (dZ Dd h);⟨q.1,hE.at q.2.1,q.2.2⟩),(λh=>let q:=G (dZ Dd h);⟨q.1,hE.at q.2.1,q.2.2⟩),(λh k=>hn9_10 (dZ Dd h) (dZ Dd k)),(λh k=>hn9_11 (dZ Dd h) (dZ Dd k)),(λh k=>hn10_11 (dZ Dd h) (dZ Dd k)),trivial⟩
 refine⟨_,39,rfl,rfl,rfl,rfl,rfl,?_⟩
 refine Yd.call (DY GG (v0:= .agg #[_,_,_,_]) rfl (v1:= .int .i64 _) rfl (v2:= .int .i64 0) rfl) (o0 T _ vs o 0 _ (Below.slT hB ag) (qW.below hB ah) hmb hr Om) (λv W' hE hP=>⟨.inl (hS.trans hE),?_⟩)
 obtain rfl:=hP
 exact⟨t,y,z,hS.trans hE,cW hB hE (am _),hE.at d,hE.ow hon,hE.ow hmay,(λh=>I (dZ Dd h)),(λ_=>rfl),(λh=>K (dZ Dd h)),(λh=>let q:=E (dZ Dd h);⟨q.1,hE.at q.2.1,q.2.2⟩),(λh=>let q:=F (dZ Dd h);⟨q.1,hE.at q.2.1,q.2.2⟩),(λh=>let q:=G (dZ Dd h);⟨q.1,hE.at q.2.1,q.2.2⟩),(λh k=>hn9_10 (dZ Dd h) (dZ Dd k)),(λh k=>hn9_11 (dZ Dd h) (dZ Dd k)),(λh k=>hn10_11 (dZ Dd h) (dZ Dd k)),trivial⟩
 refine⟨_,42,rfl,rfl,rfl,rfl,rfl,?_⟩
 refine Yd.call (DY GG (v0:= .agg #[_,_,_,_]) rfl (v1:= .int .i64 _) rfl (v2:= .int .i64 2) rfl) (o0 T _ vs o 2 _ (Below.slT hB ag) (qW.below hB ah) hmb hr Om) (λv W' hE hP=>⟨.inl (hS.trans hE),?_⟩)
 obtain rfl:=hP
 exact⟨t,y,z,hS.trans hE,cW hB hE (am _),hE.at d,hE.ow hon,hE.ow hmay,(λh=>I (dZ Dd h)),(λh=>J (dZ Dd h)),(λ_=>rfl),(λh=>let q:=E (dZ Dd h);⟨q.1,hE.at q.2.1,q.2.2⟩),(λh=>let q:=F (dZ Dd h);⟨q.1,hE.at q.2.1,q.2.2⟩),(λh=>let q:=G (dZ Dd h);⟨q.1,hE.at q.2.1,q.2.2⟩),(λh k=>hn9_10 (dZ Dd h) (dZ Dd k)),(λh k=>hn9_11 (dZ Dd h) (dZ Dd k)),(λh k=>hn10_11 (dZ Dd h) (dZ Dd k)),trivial⟩
 refine⟨_,9,rfl,rfl,rfl,rfl,rfl,?_⟩
 refine cK el rfl (λb W' hb hE hm=>⟨.inl (hS.trans hE),?_⟩)
 exact⟨b,y,z,hS.trans hE,cW hB hE (am _),hE.at d,hE.ow hon,hE.ow hmay,(λh=>I (dZ Dd h)),(λh=>J (dZ Dd h)),(λh=>K (dZ Dd h)),(λ_=>⟨rfl,hm,hb▸(Below.size hB),abE hon (aa1 hb.symm),abE hmay (aa1 hb.symm)⟩),(λh=>let q:=F (dZ Dd h);⟨q.1,hE.at q.2.1,q.2.2⟩),(λh=>let q:=G (dZ Dd h);⟨q.1,hE.at q.2.1,q.2.2⟩),(λ_ k=>Nat.ne_of_gt (hb▸(F (dZ Dd k)).2.1.lt)),(λ_ k=>Nat.ne_of_gt (hb▸(G (dZ Dd k)).2.1.lt)),(λh k=>hn10_11 (dZ Dd h) (dZ Dd k)),trivial⟩
 refine⟨_,10,rfl,rfl,rfl,rfl,rfl,?_⟩
 refine cK el rfl (λb W' hb hE hm=>⟨.inl (hS.trans hE),?_⟩)
 exact⟨t,b,z,hS.trans hE,cW hB hE (am _),hE.at d,hE.ow hon,hE.ow hmay,(λh=>I (dZ Dd h)),(λh=>J (dZ Dd h)),(λh=>K (dZ Dd h)),(λh=>let q:=E (dZ Dd h);⟨q.1,hE.at q.2.1,q.2.2⟩),(λ_=>⟨rfl,hm,hb▸(Below.size hB),abE hon (aa1 hb.symm),abE hmay (aa1 hb.symm)⟩),(λh=>let q:=G (dZ Dd h);⟨q.1,hE.at q.2.1,q.2.2⟩),(λh _=>Nat.ne_of_lt (hb▸(E (dZ Dd h)).2.1.lt)),(λh k=>hn9_11 (dZ Dd h) (dZ Dd k)),(λ_ k=>Nat.ne_of_gt (hb▸(G (dZ Dd k)).2.1.lt)),trivial⟩
 refine⟨_,11,rfl,rfl,rfl,rfl,rfl,?_⟩
 refine cK el rfl (λb W' hb hE hm=>⟨.inl (hS.trans hE),?_⟩)
 exact⟨t,y,b,hS.trans hE,cW hB hE (am _),hE.at d,hE.ow hon,hE.ow hmay,(λh=>I (dZ Dd h)),(λh=>J (dZ Dd h)),(λh=>K (dZ Dd h)),(λh=>let q:=E (dZ Dd h);⟨q.1,hE.at q.2.1,q.2.2⟩),(λh=>let q:=F (dZ Dd h);⟨q.1,hE.at q.2.1,q.2.2⟩),(λ_=>⟨rfl,hm,hb▸(Below.size hB),abE hon (aa1 hb.symm),abE hmay (aa1 hb.symm)⟩),(λh k=>hn9_10 (dZ Dd h) (dZ Dd k)),(λh _=>Nat.ne_of_lt (hb▸(E (dZ Dd h)).2.1.lt)),(λh _=>Nat.ne_of_lt (hb▸(F (dZ Dd h)).2.1.lt)),trivial⟩
 rintro b7 b8 ⟨t,y,z,hS,hB,d,hon,hmay,I,J,K,E,F,G,hn9_10,hn9_11,hn10_11,_⟩
 have bj:=I rfl
 have bk:=J rfl
 have bl:=K rfl
 obtain⟨q9,p,bm,ak,al⟩:=E rfl
 obtain⟨bn,s,bo,aD,aE⟩:=F rfl
 obtain⟨bp,B,bq,aF,aG⟩:=G rfl
 have aH:=hn9_10 rfl rfl
 have aI:=hn9_11 rfl rfl
 have aJ:=hn10_11 rfl rfl
 refine Fk (Cl [(36,ej (nW T o 1)),(39,ej (nW T o 0)),(42,ej (nW T o 2)),(9, .pointer (some ⟨t,0,none⟩)),(10, .pointer (some ⟨y,0,none⟩)),(11, .pointer (some ⟨z,0,none⟩))] ⟨bj,bk,bl,q9,bn,bp,trivial⟩) ?_
 refine To 12 rfl (cA rfl rfl cC rfl p rfl rfl λb9 N br=>⟨.inr ka,?_⟩)
 replace hB:=Zg hB N bm
 replace d:=At.grownAt d p N Dd
 replace hon:=abg hon ak N
 replace hmay:=abg hmay al N
 replace s:=At.grownNe s (Ne.symm aH) N
 replace B:=At.grownNe B (Ne.symm aI) N
 replace p:=br
 refine To 13 rfl (cA rfl rfl cC rfl s rfl rfl λca O bs=>⟨.inr ka,?_⟩)
 replace hB:=Zg hB O bo
 replace d:=At.grownAt d s O Dd
 replace hon:=abg hon aD O
 replace hmay:=abg hmay aE O
 replace p:=At.grownNe p aH O
 replace B:=At.grownNe B (Ne.symm aJ) O
 replace s:=bs
 refine To 14 rfl (cA rfl rfl cC rfl B rfl rfl λcb P bt=>⟨.inr ka,?_⟩)
 replace hB:=Zg hB P bq
 replace d:=At.grownAt d B P Dd
 replace hon:=abg hon aF P
 replace hmay:=abg hmay aG P
 replace p:=At.grownNe p aI P
 replace s:=At.grownNe s aJ P
 replace B:=bt
 refine Td ?_
 refine qn (σ:=(Unit)) [3,3,43,52] (λu_=>[]) (λW=>(Below r.heap.size r W)∧(At W ai _ 59)∧(cH fh 4 40 W r.heap.size onv _)∧(cH fh 4 40 W r.heap.size mayv _)∧(ft onv mayv)∧(At W t _ 40)∧(At W y _ 40)∧(At W z _ 40)∧(True)) ⟨hB,d,hon,hmay,hap,p,s,B,trivial⟩ (λu_ W=>(nT T o=false)∧(True)) (λcc aK=> ?_) ?_
 refine Zr<|Zf rfl Hc<|ZL (.bool _) rfl Wb (On hB l) rfl<|ZX rfl (λao=> ?_) λao=> ?_
 refine Zv (cz rfl cC rfl p)<|Zv (cz rfl cC rfl s)<|ZC (vs:=[.agg #[_,_,_,_], .agg #[_,_,_,_]]) tH (pB _ _ _) rfl λcd ce bu bv=> ?_
 obtain⟨hB,d,hon,hmay,p,s,B⟩:=bu.k7 hB d hon hmay p s B
 obtain rfl:=bv
 refine Zv (v:=ej 0) (gm)<|Zv (Pf rfl rfl)<|Zb rfl<|ct<|ZQ rfl (λap=> ?_) λap=> ?_
 replace e:=On hB e
 have hzs:=go (am _) (Below.size U)
 replace hB:=Below.trans U (Below.mono hB hzs)
 refine Zr<|Zv (w3)<|Zy (cA rfl rfl ee rfl e rfl rfl λcf bw bx=> ?_)
 replace hB:=Zg hB bw Z
 replace e:=bx
 refine ZZ rfl<|Zt<|eh rfl ee e rfl (v1:= .int .i64 4) rfl ⟨hB,?_⟩
 (rw[YM (o:=o) hr (by omega) (RH ao hn8 ap)];exact .inr ⟨by decide,rfl⟩)
 refine cx ?_
 refine aK _ _ (()) ?_ ?_ ?_ ?_
 · repeat (first|exact dD.mask _ _ _|exact dD.refl _ _|refine acx ?_ rfl _|refine aco ?_ _ rfl|refine acg rfl ?_)
 · exact trivial
 · exact⟨hB,d,hon,hmay,hap,p,s,B,trivial⟩
 · exact⟨(Ra hn8 ap),trivial⟩
 refine Zs<|Zs<|Zs<|Zs<|Zs<|Zb rfl<|ct<|dH rfl<|cx ?_
 refine aK _ _ (()) ?_ ?_ ?_ ?_
 · repeat (first|exact dD.mask _ _ _|exact dD.refl _ _|refine acx ?_ rfl _|refine aco ?_ _ rfl|refine acg rfl ?_)
 · exact trivial
 · exact⟨hB,d,hon,hmay,hap,p,s,B,trivial⟩
 · exact⟨(Jo ao),trivial⟩
 rintro u_ cg ch ⟨hB,d,hon,hmay,hap,p,s,B,_⟩ ⟨hcf,_⟩
 refine eP (λa b=>xF onv.ownBlock mayv.ownBlock a b) fC (λaL bz=> ?_)
 obtain⟨hB,d,hon,hmay,p,s,B⟩:=bz.k7 hB d hon hmay p s B
 have V:=hon
 have X:=hmay
 have hS:xF onv.ownBlock mayv.ownBlock aL aL:=xF.refl
 refine Tf 0 rfl rfl gW hS<|Tk 1 rfl (λ_ hq=>cD (v:=onv) rfl eY (At.cell (adb d hq (pW V d Dd) (pW X d Dd)) rfl)) hS<|Tk 2 rfl (λ_ hq=>cz rfl cC rfl (adb p hq (Ne.symm ak) (Ne.symm al))) hS<|Tf 5 rfl rfl gi hS<|Tk 6 rfl (λ_ hq=>cD (v:=mayv) rfl eY (At.cell (adb d hq (pW V d Dd) (pW X d Dd)) rfl)) hS<|Tf 7 rfl rfl HA hS<|Tk 8 rfl (λ_ hq=>cD (v:= .func (.func (SQ 129 130 128 T.kind)) #[] #[]) rfl L7 (At.cell (On (Ck hB hq (am _) (cH.lt V) (cH.lt X)) l) rfl)) hS<|Tk 9 rfl (λ_ hq=>cz rfl cC rfl (On (Ck hB hq (am _) (cH.lt V) (cH.lt X)) j)) hS<|Tk 10 rfl (λ_ hq=>cz rfl cC rfl (adb p hq (Ne.symm ak) (Ne.symm al))) hS<|Tk 11 rfl (λ_ hq=>cz rfl cC rfl (adb s hq (Ne.symm aD) (Ne.symm aE))) hS<|Tk 12 rfl (λ_ hq=>cz rfl cC rfl (adb B hq (Ne.symm aF) (Ne.symm aG))) hS<|To 3 rfl (eC (u:= .agg #[_,_,_,_]) rfl ey pP rfl Dd Dd λbA ci cj aq bB=>⟨.inl (xF.ext hS aq),?_⟩)
 obtain⟨hB,d,hon,hmay⟩:=aq.k4 hB d hon hmay
 replace hS:=xF.ext hS aq
 refine To 4 rfl (jg (v:=onv) (v2:= .slice (some ⟨bA,0,none⟩) 1 1) rfl rfl ey pP Dd hon (eK bB rfl) rfl (mV hB) RI RI λaM ck Q C bC=>⟨.inl (xF.one hS Q),?_⟩)
 replace hS:=xF.one hS Q
 have aN:=ft.app hap bC hmay
 replace C:=cH.snoc (enc:=fh) (x:=(nW T o 1)) rfl rfl rfl rfl C
 replace hB:=ZG hB Q hon
 replace d:=At.grownOw d hon Q Dd
 replace hmay:=cH.grownAp hmay hap Q
 refine Tf 16 rfl rfl gW hS<|To 13 rfl (Yd.call (ip (q:=(SQ 129 130 128 T.kind)) (first:= #[]) (cap:= #[]) (vs:= #[.agg #[_,_,_,_], .agg #[_,_,_,_], .agg #[_,_,_,_], .agg #[_,_,_,_]]) rfl (Ps T.kind) GD) (aaD T.kind _ _ _ _ _) λcl cm ar bD=>⟨.inl (xF.ext hS ar),?_⟩)
 obtain⟨hB,d,hmay,C⟩:=ar.k4 hB d hmay C
 replace hS:=xF.ext hS ar
 obtain rfl:=bD
 refine To 14 rfl (eC (u:= .agg #[_,_,_,_]) rfl ey pP rfl Dd Dd λbE cn co au bF=>⟨.inl (xF.ext hS au),?_⟩)
 obtain⟨hB,d,hmay,C⟩:=au.k4 hB d hmay C
 replace hS:=xF.ext hS au
 refine To 15 rfl (jg (v:=mayv) (v2:= .slice (some ⟨bE,0,none⟩) 1 1) rfl rfl ey pP Dd hmay (eK bF rfl) rfl (mV hB) RI RI λaO cp Y H bG=>⟨.inl (xF.two hS Y),?_⟩)
 have bH:=ft.app (ft.symm aN) bG C
 replace H:=cH.snoc (enc:=fh) (x:=(AJ T o)) rfl rfl rfl rfl H
 replace hB:=ZG hB Y hmay
 replace d:=At.grownOw d hmay Y Dd
 replace C:=cH.grownAp C (ft.symm aN) Y
 refine To 17 rfl (db (v:=aM) rfl rfl eY (dp.one C.sl) d fD λcq av bI=>⟨.inr ka,?_⟩)
 replace hB:=Zg hB av aj
 replace C:=cH.grownAt C d av Dd
 replace H:=cH.grownAt H d av Dd
 replace d:=bI
 replace d:At _ _ #[_,_,_] _:=d
 refine iY (dd:=some 70) 18 ka rfl rfl rfl rfl (Yd.val (si rfl gi) ⟨.inr ka,?_⟩)
 refine To 19 rfl (db (v:=aO) rfl rfl eY (dp.one H.sl) d fD λcr aw bJ=>⟨.inr ka,?_⟩)
 replace hB:=Zg hB aw aj
 replace C:=cH.grownAt C d aw Dd
 replace H:=cH.grownAt H d aw Dd
 replace d:=bJ
 replace d:At _ _ #[_,_,_] _:=d
 refine Td<|ZT rfl rfl rfl ?_
 exact bg _ _ ((o+1,aM,aO)) Za ⟨rfl,trivial⟩ ⟨hB,(by exact d),(by rw[K0];exact C),(by rw[HM];exact H),(ft.symm bH),Om,(d6 hq hcf),trivial⟩ (by show T.no.toNat-(o+1)<T.no.toNat-o;omega)
 refine cT ?_
 replace e:=On hB e
 have hzs:=go (am _) (Below.size U)
 replace hon:=cH.mono hon hzs
 replace hmay:=cH.mono hmay hzs
 replace hB:=Below.trans U (Below.mono hB hzs)
 refine Zr<|Zv (cz rfl ee rfl d)<|Zy (cA rfl rfl ee rfl e rfl (by exact ua (dp.one (cH.sl hon)) (dp.one (cH.sl hmay))) λcs ax bK=> ?_)
 replace hB:=Zg hB ax Z
 replace hon:=cH.grownAt hon e ax Dd
 replace hmay:=cH.grownAt hmay e ax Dd
 replace e:=bK
 refine ZZ rfl<|Zt<|eh rfl ee e rfl (v1:= .int .i64 0) rfl ⟨hB,?_⟩
 (have bL:o=T.no.toNat:=(by omega);subst bL;exact .inl ⟨Mf hr hq,onv,mayv,rfl,hon,hmay⟩)
end
section
open Go Go.RowKit
section
variable {l:List Rw} {n out:Int} {k:Nat}
end
end
section
open Go Go.RowKit
section
variable {a b:List Nat} {S U:Sp} {k:Nat}
end
section
variable {T:Tb} {o k p:Nat} {m:Int}
variable (hr:fy T=true) (hp:p<2^T.ni.toNat)
end
end
section
open Go Go.RowKit
end
section
open Go Go.RowKit
section
variable {P:Program} {f:Nat→Value} {w w':World} {d:Option Nat} {ty:TypeId} {ps:String} {af:Array Edge} {g:Option (Nat×Bool)} {x y:Operand}
variable {t:TypeId} {v u:Value} {T e:TypeId} {K:Value→World→Prop} {sz by_ N:Nat}
variable {α:Type} {enc:α→List Value} {l:List α}
theorem KZ (he:∀a,(enc a).length=sz) {a dd:α} {k r:Nat} (hk:k<l.length) (hr:r<sz) (hu:enc a=(enc (l.getD k dd)).set r u):
  (l.set k a).flatMap enc=(l.flatMap enc).take (k*sz+r)++[u]++(l.flatMap enc).drop (k*sz+r+1):=by
 have hle:k*sz+sz≤l.length*sz:=by rw[←Nat.succ_mul];exact abn _ hk
 have hfl:=mE he l
 have e0:l.set k (l.getD k dd)=l:=by
  rw[me,we hk]
  simp
 have e1:=vr he (l.getD k dd) l k hk
 rw[e0]at e1
 rw[vr he a l k hk,hu]
 have hq:(l.flatMap enc).take (k*sz+r)++[u]++(l.flatMap enc).drop (k*sz+r+1)=(l.flatMap enc).set (k*sz+r) u:=by
  rw[List.set_eq_take_append_cons_drop,if_pos (by omega),abm];rfl
 rw[hq]
 have hA:((l.flatMap enc).take (k*sz)).length=k*sz:=by rw[aa4];omega
 have hB:(enc (l.getD k dd)).length=sz:=he _
 generalize hA':(l.flatMap enc).take (k*sz)=A at*
 generalize hC':(l.flatMap enc).drop (k*sz+sz)=C at*
 rw[e1,abm,abm,List.set_append,if_neg (by omega),hA,show k*sz+r-k*sz=r by omega,List.set_append,if_pos (by omega)]
theorem NM {a dd:α} {j:Int} {r:Nat} (hx:dk f x= .pointer (some ⟨AH v,FG v+j.toNat*sz+r,none⟩)) (hy:dk f y=u) (hT:eJ P t=true) (he:∀a,(enc a).length=sz)
  (h1:u.oneCell'=true) (hr:r<sz) (hu:enc a=(enc (l.getD j.toNat dd)).set r u) (ho:cH enc sz e w N v l) (h0:0≤j) (hj:j<l.length)
  (hK:∀w',w.grownBy w' v.ownBlock→cH enc sz e w' N v (l.set j.toNat a)→K undef w'):Yd P ⟨d, .store t x y,ty,ps,af,g⟩ f w K:=by
 obtain⟨hl,hor⟩:=ho
 rcases hor with ⟨_,h⟩|⟨q,cap,cur,rfl,hg,hh,hnc,hcm,hcs,ht⟩
 ·omega
 have hle:l.length*sz≤cap*sz:=abn _ hnc
 have hjs:j.toNat*sz+sz≤l.length*sz:=by rw[←Nat.succ_mul];exact abn _ (by omega)
 have hst:=run_storeCells_at P q (j.toNat*sz+r) e [u] 0 cur w hh iw (λv h=>by simp at h;subst h;exact h1)
 rw[ab7]at hst
 have hw:=Bs (N:=N) (e:=e) (o:=j.toNat*sz+r) (new:=[u]) hl hg hh hnc hcm hcs ht iw
 have hgr:∀r,w.grownBy (w.setRow q r) (some q):=λr=>⟨rfl,rfl,rfl,by simp,λk _ hk=>setRow_other w q k r (λe=>hk A3)⟩
 refine .skip (w':=w.setRow q (cur.toList.take (j.toNat*sz+r)++[u]++cur.toList.drop (j.toNat*sz+r+1)).toArray) ?_ (hK _ (hgr _) ?_)
 ·have h2:=congrFun (nb hT).2 w
  have hcs1:u.cells= #[u]:=by cases u<;>first|rfl|simp[Value.oneCell']at h1
  have hcs2:(storeVar t ⟨q,j.toNat*sz+r,none⟩ u).run P w= .ok () (w.setRow q (cur.toList.take (j.toNat*sz+r)++[u]++cur.toList.drop (j.toNat*sz+r+1)).toArray):=by
   simp only[abp]at hst
   simp[storeVar,h2,hcs1,hst]
  have hx':dk f x= .pointer (some ⟨q,j.toNat*sz+r,none⟩):=by rw[hx];simp[AH,FG]
  simp[execOp,hx',hy,Instr.storeAt,Instr.sureAddr,hcs2]
 ·unfold cH
  rw[List.length_set,KZ he (by omega) hr hu]
  simpa using hw
theorem Hh {w0:World} {n:Nat} {xs:List Value} {i:Int} {ki:IntKind} {xi:Operand} (hx:dk f x=v) (hs:Sl w0 sz v n xs) (hT:fl P t=some (e,sz,by_)) (hi:dk f xi= .int ki i) (h0:0≤i) (h1:i≤n):
  (execOp (dk f) ⟨d, .slice t x (some xi) none none,ty,ps,af,g⟩).run P w= .ok (.value (fV sz v i.toNat n (jn v))) w:=by
 obtain⟨hv,hn,_,_⟩:=hs.eqv
 unfold fl at hT
 cases hu:P.underlying t with
 |none=>simp[hu]at hT
 |some desc=>
  cases desc<;>simp[hu]at hT
  obtain⟨i',hi',rfl,rfl,rfl⟩:=hT
  unfold fV
  rw[hv]at hx
  generalize Eb v=A at*
  generalize jn v=C at*
  simp[execOp,hx,hi,Instr.sliceAt,Instr.slice,run_underlying hu,Instr.sliceBounds,Instr.sliceBound,asIntOf,sizeOf,typeInfo,hi',h0,h1]
theorem GS {w0:World} {n:Nat} {xs:List Value} {j:Int} {kj:IntKind} {xj:Operand} (hx:dk f x=v) (hs:Sl w0 sz v n xs) (hT:fl P t=some (e,sz,by_)) (hj:dk f xj= .int kj j) (h0:0≤j) (h1:j≤jn v):
  (execOp (dk f) ⟨d, .slice t x none (some xj) none,ty,ps,af,g⟩).run P w= .ok (.value (fV sz v 0 j.toNat (jn v))) w:=by
 obtain⟨hv,hn,_,_⟩:=hs.eqv
 unfold fl at hT
 cases hu:P.underlying t with
 |none=>simp[hu]at hT
 |some desc=>
  cases desc<;>simp[hu]at hT
  obtain⟨i',hi',rfl,rfl,rfl⟩:=hT
  unfold fV
  rw[hv]at hx
  generalize Eb v=A at*
  generalize jn v=C at*
  have hC:j≤(C:Int):=h1
  simp[execOp,hx,hj,Instr.sliceAt,Instr.slice,run_underlying hu,Instr.sliceBounds,Instr.sliceBound,asIntOf,sizeOf,typeInfo,hi',h0,hC]
theorem Hv {i j:Nat} (he:∀a,(enc a).length=sz) (hone:(l.flatMap enc).all Value.oneCell'=true) (hx:dk f x=fV sz v 0 i (jn v)) (hy:dk f y=fV sz v j l.length (jn v)) (hT:fl P t=some (e,sz,by_))
  (ho:cH enc sz e w N v l) (hij:i≤j) (hj:j≤l.length) (hi:i<l.length)
  (hK:∀v' w',w.grownBy w' v.ownBlock→cH enc sz e w' N v' (l.take i++l.drop j)→v'.ownBlock=v.ownBlock→K v' w'):Yd P ⟨d, .call ⟨.builtin .append,#[x,y],#[t,t]⟩,ty,ps,af,g⟩ f w K:=by
 unfold fl at hT
 cases hun:P.underlying t with
 |none=>simp[hun]at hT
 |some desc=>
  cases desc<;>simp[hun]at hT
  rename_i e'
  obtain⟨i',hi',rfl,h1,rfl⟩:=hT
  subst h1
  have ho0:=ho
  obtain⟨hl,hor⟩:=ho
  rcases hor with ⟨_,h⟩|⟨q,cap,cur,rfl,hg,hh,hnc,hcm,hcs,ht⟩
  ·omega
  have hle:l.length*i'.size≤cap*i'.size:=abn _ hnc
  have hfl:=mE he (l.drop j)
  have hft:=mE he (l.take i)
  have hll:=mE he l
  have hxe:dk f x= .slice (some ⟨q,0,none⟩) i cap:=by
   rw[hx]
   have hc0:¬cap=0:=by omega
   simp[fV,Eb,jn,hc0,Addr.add]
  obtain⟨a,hye,hac⟩:∃a:Addr,dk f y= .slice (some a) (l.length-j) (cap-j)∧(j<l.length→a=⟨q,j*i'.size,none⟩):=by
   rw[hy]
   by_cases e:cap=j
   ·exact⟨⟨q,0,none⟩,by simp[fV,Eb,jn,e],λh=>by omega⟩
   ·exact⟨⟨q,j*i'.size,none⟩,by
     show Value.slice (if cap=j then some ⟨q,0,none⟩else (some (⟨q,0,none⟩:Addr)).map (·.add (j*i'.size))) (l.length-j) (cap-j)=_
     rw[if_neg e,Option.map_some,iu,abP],λ_=>rfl⟩
  have hnews:∀k u,((l.drop j).flatMap enc)[k]? =some u→w.cell? (a.add k)=some u:=λk u hu=>by
   have hlt:k<((l.drop j).flatMap enc).length:=(abX.1 hu).1
   have hjl:j<l.length:=Classical.byContradiction λhn=>by
    rw[List.drop_eq_nil_of_le (by omega)]at hlt
    simp at hlt
   rw[hac hjl,iu]
   have hs:=ho0.sl
   have hc:=Sl.cell hs (j*i'.size+k) u (by rw[←acO,←sv he];exact hu)
   simpa [AH,FG] using hc
  have hone2:∀u∈(l.drop j).flatMap enc,u.oneCell'=true:=λu hu=>by
   rw[sv he]at hu
   exact aa2.1 hone u (List.mem_of_mem_drop hu)
  have hmul:(i+(l.length-j))*i'.size≤l.length*i'.size:=abn _ (by omega)
  rw[abJ]at hmul
  have hdl:((l.drop j).flatMap enc).length=(l.length-j)*i'.size:=by rw[hfl,abw]
  have hr:=run_append_room (P:=P) w t ty e' i' hun hi' q i cap cur hh a (l.length-j) (cap-j) ((l.drop j).flatMap enc) hdl hnews hone2 (by omega) (by rw[hdl,hcs];omega)
  refine .val (v:= .slice (some ⟨q,0,none⟩) (i+(l.length-j)) cap) (w':=w.setRow q (cur.toList.take (i*i'.size)++(l.drop j).flatMap enc++cur.toList.drop (i*i'.size+((l.drop j).flatMap enc).length)).toArray) ?_
   (hK _ _ ⟨rfl,rfl,rfl,by simp,λk _ hk=>setRow_other w q k _ (λe=>hk (by rw[e];rfl))⟩ ?_ rfl)
  ·simp[execOp,resolve,invoke,builtin,hxe,hye,hr]
  ·have hlen2:(l.take i++l.drop j).length=i+(l.length-j):=by rw[An,aa4,abw];omega
   unfold cH
   rw[hlen2]
   refine⟨by rw[mE he,hlen2], .inr ⟨q,cap,_,rfl,hg,setRow_heap w q cur _ e' (0,0) hh,by omega,hcm,by simp only[List.size_toArray,An,aa4,abw,acr,hdl];omega,?_⟩⟩
   rw[List.flatMap_append,sJ he,←ht,List.take_take]
   have e1:min (i*i'.size) (l.length*i'.size)=i*i'.size:=acF (by omega)
   have e2:(cur.toList.take (i*i'.size)).length=i*i'.size:=by rw[aa4,acr];omega
   rw[e1]
   have e3:(i+(l.length-j))*i'.size=(cur.toList.take (i*i'.size)++(l.drop j).flatMap enc).length:=by rw[An,e2,hdl,abJ]
   rw[e3]
   exact List.take_left
end
end
section
open Go Go.RowKit Go.ChangeShapes Go.WideShapes Go.ChangeAt Go.Joins Go.Deep
def encV (v:Value):List Value:=[v]
theorem fX (v:Value):(encV v).length=1:=rfl
structure LL (w:World) (vs:List Value) (L:List (List Int)):Prop where
 len:vs.length=L.length
 get:∀k,k<L.length→dp dT 1 w (vs.getD k undef) (L.getD k [])
section
variable {H:Type} {encH:TypeId×Value→H} {P:Program} {w:World} {base:Nat} {held:Bool} {r:Reach} {b0:Nat} {t e:TypeId}
end
end
section
open Go Go.RowKit
def pl (cols:Int) (l:List Int):Bool:=(List.range l.length).all λk=>decide (0≤l.getD k 0)&&(decide (l.getD k 0<cols)&&decide (0<k→l.getD (k-1) 0<l.getD k 0))
theorem jB {cols:Int} {l:List Int}:pl cols l=true↔∀k,k<l.length→0≤l.getD k 0∧l.getD k 0<cols∧(0<k→l.getD (k-1) 0<l.getD k 0):=by
 unfold pl
 rw[aa2]
 constructor
 ·intro h k hk
  have:=h k (aba.2 hk)
  simp only[th,decide_eq_true_eq]at this
  exact⟨this.1,this.2.1,this.2.2⟩
 ·intro h k hk
  obtain⟨h1,h2,h3⟩:=h k (aba.1 hk)
  simp only[th,decide_eq_true_eq]
  exact⟨h1,h2,h3⟩
def dQ (cols:Int) (L:List (List Int)):Bool:=decide (0≤cols)&&(decide (cols≤4000)&&L.all (pl cols))
theorem fv {cols:Int} {L:List (List Int)}:dQ cols L=true↔0≤cols∧cols≤4000∧∀i,i<L.length→pl cols (L.getD i [])=true:=by
 unfold dQ
 rw[th,th,decide_eq_true_eq,decide_eq_true_eq,aa2]
 constructor
 ·rintro⟨h1,h2,h3⟩;exact⟨h1,h2,λi hi=>h3 _ (dB hi)⟩
 ·rintro⟨h1,h2,h3⟩
  refine⟨h1,h2,λx hx=> ?_⟩
  obtain⟨k,hk,rfl⟩:=fi (d:=[]) hx
  exact h3 k hk
def Aw (l:List Int):Nat→Int
 |0=> -1
 |k+1=>l.getD k 0
theorem w6 (l:List Int):Aw l 0= -1:=rfl
theorem wP (l:List Int) (k:Nat):Aw l (k+1)=l.getD k 0:=rfl
theorem Uq {cols:Int} {L:List (List Int)} {i k:Nat} (hi:i<L.length) (hk:k<(L.getD i []).length) (hb:∀q,q<k→0≤(L.getD i []).getD q 0) (h:(L.getD i []).getD k 0≤Aw (L.getD i []) k∨cols≤(L.getD i []).getD k 0):Value.bool false= .bool (dQ cols L):=xn λhr=>by
 obtain⟨h1,h2,h3⟩:=jB.1 ((fv.1 hr).2.2 i hi) k hk
 rcases h with h|h
 ·cases k with
  |zero=>rw[w6]at h;omega
  |succ k=>
   have:=h3 (by omega)
   rw[wP]at h
   simp only[ab5]at this
   omega
 ·omega
theorem Rz {cols:Int} {l:List Int} {k:Nat} (h:∀q,q<k→0≤l.getD q 0∧l.getD q 0<cols∧(0<q→l.getD (q-1) 0<l.getD q 0)) (h1:¬l.getD k 0≤Aw l k) (h2:¬cols≤l.getD k 0):
  ∀q,q<k+1→0≤l.getD q 0∧l.getD q 0<cols∧(0<q→l.getD (q-1) 0<l.getD q 0):=d6 h (by
 cases k with
 |zero=>rw[w6]at h1;exact⟨by omega,by omega,λh=>by omega⟩
 |succ k=>
  have:=h k (by omega)
  rw[wP]at h1
  exact⟨by omega,by omega,λ_=>by simp only[ab5];omega⟩)
theorem aaB {cols:Int} {L:List (List Int)} (h0:0≤cols) (h:∀i,i<L.length→pl cols (L.getD i [])=true):Value.bool (decide (cols≤4000))= .bool (dQ cols L):=congrArg Value.bool (by
 rw[abA,fv,decide_eq_true_eq]
 exact⟨λhc=>⟨h0,hc,h⟩,λhc=>hc.2.1⟩)
theorem aam {cols:Int} {L:List (List Int)} (h0:¬0≤cols):Value.bool false= .bool (dQ cols L):=xn λh=>h0 (fv.1 h).1
def pR (L:List (List Int)) (cols:List Int):Bool:=L.all λl=>l.any λc=>decide (c∈cols)
theorem Gk {L:List (List Int)} {cols:List Int}:pR L cols=true↔∀i,i<L.length→∃c,c∈L.getD i []∧c∈cols:=by
 unfold pR
 rw[aa2]
 constructor
 ·intro h i hi
  have:=h _ (dB (d:=[]) hi)
  rw[abH]at this
  obtain⟨c,h1,h2⟩:=this
  exact⟨c,h1,of_decide_eq_true h2⟩
 ·intro h l hl
  obtain⟨k,hk,rfl⟩:=fi (d:=[]) hl
  obtain⟨c,h1,h2⟩:=h k hk
  rw[abH]
  exact⟨c,h1,decide_eq_true h2⟩
end
section
open Go Go.RowKit
section
variable {P:Program} {f:Nat→Value} {w:World} {d:Option Nat} {ty:TypeId} {ps:String} {af:Array Edge} {g:Option (Nat×Bool)} {x y:Operand} {t t2:TypeId} {a:Int}
theorem Vh (hx:dk f x= .int .i64 a) (hy:dk f y= .int .u64 8) (h0:0≤a):(execOp (dk f) ⟨d, .binOp .shr t x y t2,ty,ps,af,g⟩).run P w= .ok (.value (.int .i64 (a/256))) w:=by
 obtain⟨m,rfl⟩:=abj h0
 rw[qQ hx hy (by omega) (by decide)]
 simp
theorem MU {desc:TypeDesc} (h:dk f x= .int .i64 a) (hs:P.underlying t=some desc) (ht:P.underlying t2=some (.int .u8)):
  (execOp (dk f) ⟨d, .convert t t2 x,ty,ps,af,g⟩).run P w= .ok (.value (.int .u8 (a%256))) w:=by
 rw[NT h hs ht]
 rfl
end
theorem vD {α:Type} [DecidableEq α] {l:List α} {k:α} (h:(iH (fz l) k).getD false=true):k∈l:=by
 rw[mL,decide_eq_true_eq]at h;exact h
theorem rh {α:Type} [DecidableEq α] {l:List α} {k:α} (h:(iH (fz l) k).getD false=false):k∉l:=by
 rw[mL,decide_eq_false_iff_not]at h;exact h
structure LO (T:TypeId) (N:Nat) (w:World) (vs:List Value) (L:List (List Int)):Prop where
 len:vs.length=L.length
 get:∀k,k<L.length→cH dT 1 T w N (vs.getD k undef) (L.getD k [])
section
variable {T:TypeId} {N:Nat} {w w':World} {vs:List Value} {L:List (List Int)}
theorem LO.nil:LO T N w [] []:=⟨rfl,λk hk=>by cases hk⟩
theorem LO.ll (h:LO T N w vs L):LL w vs L:=⟨h.len,λk hk=>(h.get k hk).sl⟩
theorem LO.ext (h:dC w w') (k:LO T N w vs L):LO T N w' vs L:=⟨k.len,λi hi=>h.ow (k.get i hi)⟩
instance {w w':World}:Kp w w' (LO T N w vs L) (LO T N w' vs L):=⟨LO.ext⟩
theorem LO.mono {N':Nat} (k:LO T N w vs L) (h:N'≤N):LO T N' w vs L:=⟨k.len,λi hi=>(k.get i hi).mono h⟩
theorem LO.grownAt {b:Nat} {c:Array Value} {T':TypeId} (k:LO T N w vs L) (hm:At w b c T') (hG:w.grownBy w' (some b)) (hT:T'≠T):LO T N w' vs L:=⟨k.len,λi hi=>(k.get i hi).grownAt hm hG hT⟩
theorem LO.grownMap {α β:Type} {enc:α→Value} {encV:β→Value} {b:Nat} {l:List (α×β)} (k:LO T N w vs L) (hm:dy enc encV w b l) (hG:w.grownBy w' (some b)):LO T N w' vs L:=⟨k.len,λi hi=>(k.get i hi).grownMap hm hG⟩
theorem LO.grownOw {α:Type} {enc:α→List Value} {sz N':Nat} {T':TypeId} {v:Value} {l:List α} (k:LO T N w vs L) (h:cH enc sz T' w N' v l) (hG:w.grownBy w' v.ownBlock) (hT:T'≠T):LO T N w' vs L:=⟨k.len,λi hi=>(k.get i hi).grownOw h hG hT.symm⟩
theorem LO.one (k:LO T N w vs L):∀v,v∈vs→Value.oneCell' v=true:=λv hv=>by
 obtain⟨j,hj,e⟩:=fi (d:=undef) hv
 have h:=(k.get j (by rw[←k.len];exact hj)).sl
 rw[e]at h
 obtain⟨h1,_⟩:=Sl.eqv h
 rw[h1];rfl
theorem Er {vs:List Value} (h:∀v,v∈vs→Value.oneCell' v=true) {i j:Nat}:(((vs.drop i).take j).flatMap encV).all Value.oneCell'=true:=by
 rw[aa2]
 intro v hv
 obtain⟨u,hu,he⟩:=acN.1 hv
 obtain rfl:v=u:=by simpa [encV] using he
 exact h _ (List.mem_of_mem_drop (List.mem_of_mem_take hu))
theorem LO.below {W:World} (h:Below w.heap.size w W) (k:LO T N w vs L):LO T N W vs L:=⟨k.len,λi hi=>Below.ow h (k.get i hi)⟩
theorem JO {α:Type} (l:List α) (x d:α) {i:Nat} (j:Nat) (hi:i≤l.length):(l.take i++([x]++l.drop i)).getD j d=if j<i then l.getD j d else if j=i then x else l.getD (j-1) d:=by
 have hl:(l.take i).length=i:=by rw[aa4];omega
 simp only[me]
 by_cases h1:j<i
 ·rw[if_pos h1,abL (by omega),List.getElem?_take,if_pos h1]
 ·rw[if_neg h1,abz (by omega),hl]
  by_cases h2:j=i
  ·rw[if_pos h2,h2,Nat.sub_self];rfl
  ·rw[if_neg h2,abz iw,acO]
   congr 2
   simp
   omega
theorem LO.put {v:Value} {l:List Int} {i:Nat} (k:LO T N w vs L) (h:cH dT 1 T w N v l) (hi:i≤L.length):LO T N w (vs.take i++([v]++vs.drop i)) (L.take i++([l]++L.drop i)):=by
 have hl:=k.len
 refine⟨by simp[hl],λj hj=> ?_⟩
 rw[JO _ _ _ _ (by omega),JO _ _ _ _ hi]
 have hj2:j<L.length+1:=by
  rw[An,An,abw,aa4,abp]at hj
  omega
 by_cases h1:j<i
 ·rw[if_pos h1,if_pos h1];exact k.get j (by omega)
 ·rw[if_neg h1,if_neg h1]
  by_cases h2:j=i
  ·rw[if_pos h2,if_pos h2];exact h
  ·rw[if_neg h2,if_neg h2];exact k.get (j-1) (by omega)
theorem LO.snoc {v:Value} {l:List Int} (k:LO T N w vs L) (h:cH dT 1 T w N v l):LO T N w (vs++[v]) (L++[l]):=by
 have hp:=k.put (i:=L.length) h (am _)
 rw[←k.len,aa7,List.drop_length,abK,k.len,aa7,List.drop_length,abK]at hp
 exact hp
end
end
section
open Go Go.RowKit
def qp:List Int→List Int→Bool
 |a::aq,b::bs=>if a=b then qp aq bs else decide (a<b)
 |_,_=>false
theorem Jb:∀a:List Int,qp a a=false
 |[]=>rfl
 |a::aq=>by rw[qp,if_pos rfl];exact Jb aq
theorem BC:∀a b c:List Int,qp a b=true→qp b c=true→qp a c=true
 |[],b,c,h,_=>by cases b<;>simp[qp]at h
 |a::aq,[],c,h,_=>by simp[qp]at h
 |a::aq,b::bs,[],_,h=>by simp[qp]at h
 |a::aq,b::bs,c::cs,h1,h2=>by
  rw[qp]at h1 h2 ⊢
  by_cases e1:a=b
  ·subst e1
   rw[if_pos rfl]at h1
   by_cases e2:a=c
   ·subst e2
    rw[if_pos rfl]at h2 ⊢
    exact BC aq bs cs h1 h2
   ·rw[if_neg e2]at h2 ⊢;exact h2
  ·rw[if_neg e1,decide_eq_true_eq]at h1
   by_cases e2:b=c
   ·subst e2
    rw[if_neg e1,decide_eq_true_eq];exact h1
   ·rw[if_neg e2,decide_eq_true_eq]at h2
    rw[if_neg (by omega),decide_eq_true_eq];omega
theorem Cj:∀a b:List Int,a.length=b.length→a≠b→qp a b=true∨qp b a=true
 |[],[],_,h=>absurd rfl h
 |[],b::bs,h,_=>by simp at h
 |a::aq,[],h,_=>by simp at h
 |a::aq,b::bs,h,hne=>by
  rw[qp,qp]
  by_cases e:a=b
  ·subst e
   rw[if_pos rfl,if_pos rfl]
   exact Cj aq bs (by simpa using h) (λe=>hne A3)
  ·rw[if_neg e,if_neg (λh=>e h.symm),decide_eq_true_eq,decide_eq_true_eq];omega
theorem M7:∀(a b:List Int) (k:Nat),a.length=b.length→k<a.length→(∀q,q<k→a.getD q 0=b.getD q 0)→a.getD k 0≠b.getD k 0→qp a b=decide (a.getD k 0<b.getD k 0)
 |[],_,k,_,h,_,_=>by simp at h
 |a::aq,[],k,h,_,_,_=>by simp at h
 |a::aq,b::bs,0,h,h1,h2,h3=>by
  rw[qp,if_neg (by simpa using h3)];rfl
 |a::aq,b::bs,k+1,h,h1,h2,h3=>by
  have e:a=b:=by simpa using h2 0 (by omega)
  rw[qp,if_pos e,M7 aq bs k (by simpa using h) (by simpa using h1) (λq hq=>by simpa using h2 (q+1) (by omega)) (by simpa using h3)]
  simp
theorem BF:∀(a b:List Int),a.length=b.length→(∀q,q<a.length→a.getD q 0=b.getD q 0)→a=b
 |[],[],_,_=>rfl
 |[],b::bs,h,_=>by simp at h
 |a::aq,[],h,_=>by simp at h
 |a::aq,b::bs,h,h1=>by
  have e:a=b:=by simpa using h1 0 fD
  rw[e,BF aq bs (by simpa using h) (λq hq=>by simpa using h1 (q+1) (by simpa using hq))]
def fP (a b:List Int):Bool:=decide (a.length<b.length)||(decide (a.length=b.length)&&qp a b)
theorem Um {a b:List Int} (h:a.length<b.length):fP a b=true:=by grind [fP,decide_eq_true]
theorem Xq {a b:List Int} (h:b.length<a.length):fP a b=false:=by
 grind [fP,decide_eq_false]
theorem Iq {a b:List Int} (h:a.length=b.length):fP a b=qp a b:=by
 grind [fP,decide_eq_false,decide_eq_true]
theorem Xv {a b:List Int} (h:a.length≠b.length):fP a b=decide (a.length<b.length):=by
 unfold fP;rw[decide_eq_false h,abD,acJ]
theorem PP (a:List Int):fP a a=false:=by rw[Iq rfl,Jb]
theorem Ap {a b c:List Int} (h1:fP a b=true) (h2:fP b c=true):fP a c=true:=by
 grind [Nat.lt_trichotomy,Um,Xq,Iq,BC]
theorem EU {a b:List Int} (h:a≠b):fP a b=true∨fP b a=true:=by
 grind [Nat.lt_trichotomy,Um,Iq,Cj]
theorem MV {a b:List Int} (h:fP a b=true):fP b a=false:=aa0.2 λk=>by
 have:=Ap h k
 rw[PP]at this;cases this
def s7:List (List Int)→List Int→List (List Int)
 |[],r=>[r]
 |x::xs,r=>if fP x r then x::s7 xs r else r::x::xs
theorem Ok:∀(L:List (List Int)) (r:List Int) (i:Nat),i≤L.length→(∀q,q<i→fP (L.getD q []) r=true)→(i<L.length→fP (L.getD i []) r=false)→L.take i++([r]++L.drop i)=s7 L r
 |[],r,i,h,_,_=>by
  obtain rfl:i=0:=by simpa using h
  rfl
 |x::xs,r,0,_,_,h=>by
  have h0:fP x r=false:=by simpa using h fD
  rw[s7,h0];rfl
 |x::xs,r,i+1,hi,h1,h2=>by
  have h0:fP x r=true:=by simpa using h1 0 (by omega)
  rw[s7,if_pos h0,←Ok xs r i (by simpa using hi) (λq hq=>by simpa using h1 (q+1) (by omega)) (λh=>by simpa using h2 (by simpa using h))]
  rfl
theorem OW (L:List (List Int)) (r:List Int):(s7 L r).length=L.length+1:=by
 induction L with
 |nil=>rfl
 |cons x xs ih=>
  rw[s7]
  split
  ·rw[aa5,ih];rfl
  ·rfl
theorem zK {L:List (List Int)} {r x:List Int}:x∈s7 L r↔x∈L∨x=r:=by
 induction L with
 |nil=>simp[s7]
 |cons y ys ih=>
  rw[s7]
  split
  ·rw[abl,ih,abl,or_assoc]
  ·simp only[abl]
   constructor
   ·rintro(h|h|h)
    ·exact .inr h
    ·exact .inl (.inl h)
    ·exact .inl (.inr h)
   ·rintro((h|h)|h)
    ·exact .inr (.inl h)
    ·exact .inr (.inr h)
    ·exact .inl h
def Up (L:List (List Int)):Prop:=L.Pairwise λa b=>fP a b=true
theorem RW {L:List (List Int)} {r:List Int} (h:Up L) (hr:r∉L):Up (s7 L r):=by
 induction L with
 |nil=>exact List.pairwise_singleton _ _
 |cons y ys ih=>
  obtain⟨h1,h2⟩:=acA.1 h
  rw[s7]
  split
  ·rename_i hy
   refine acA.2 ⟨λz hz=> ?_,ih h2 (λk=>hr (abf _ k))⟩
   rcases zK.1 hz with hz|rfl
   ·exact h1 z hz
   ·exact hy
  ·rename_i hy
   have hry:fP r y=true:=by
    rcases EU (a:=r) (b:=y) (λe=>hr (e▸aa9 ..))with k|k
    ·exact k
    ·exact absurd k hy
   refine acA.2 ⟨λz hz=> ?_,h⟩
   rcases abl.1 hz with rfl|hz
   ·exact hry
   ·exact Ap hry (h1 z hz)
def iF (ks:List (List Int)):List (List Int):=ks.foldl s7 []
theorem KA (ks:List (List Int)) (r:List Int):iF (ji ks r)=if r∈ks then iF ks else s7 (iF ks) r:=by
 grind [ji,iF]
theorem EF {x:List Int}:∀(ks b:List (List Int)),x∈ks.foldl s7 b↔x∈b∨x∈ks
 |[],b=>by simp
 |k::ks,b=>by
  rw[acG,EF ks,zK,abl,or_assoc]
theorem nx {ks:List (List Int)} {x:List Int}:x∈iF ks↔x∈ks:=by
 grind [iF,EF]
theorem GB:∀(ks b:List (List Int)),(ks.foldl s7 b).length=b.length+ks.length
 |[],b=>rfl
 |k::ks,b=>by rw[acG,GB ks,OW,aa5];omega
theorem Cg (ks:List (List Int)):(iF ks).length=ks.length:=by grind [iF,GB]
theorem Ja:∀(ks b:List (List Int)),Up b→ks.Nodup→(∀x,x∈ks→x∉b)→Up (ks.foldl s7 b)
 |[],b,h,_,_=>h
 |k::ks,b,h,hn,hd=>by
  obtain⟨n1,n2⟩:=List.nodup_cons.1 hn
  refine Ja ks _ (RW h (hd k (aa9 ..))) n2 λx hx hm=> ?_
  rcases zK.1 hm with hm|rfl
  ·exact hd x (abf _ hx) hm
  ·exact n1 hx
theorem PY {ks:List (List Int)} (h:ks.Nodup):Up (iF ks):=Ja ks [] List.Pairwise.nil h (λx _ h=>by cases h)
theorem Vj {L:List (List Int)} (h:Up L) {i j:Nat} (hij:i<j) (hj:j<L.length):fP (L.getD i []) (L.getD j [])=true:=by
 have:=abY.1 h i j (by omega) hj hij
 grind
theorem N8 {ks:List (List Int)} {r:List Int} {i:Nat} (hn:ks.Nodup) (hr:r∉ks) (hi:i≤(iF ks).length) (h1:∀q,i≤q→q<(iF ks).length→fP r ((iF ks).getD q [])=true) (h2:0<i→fP r ((iF ks).getD (i-1) [])=false):
  (iF ks).take i++([r]++(iF ks).drop i)=iF (ji ks r):=by
 rw[KA,if_neg hr]
 refine Ok _ _ _ hi (λq hq=> ?_) (λh=>MV (h1 i (am _) h))
 grind [iF,nx,dB,fP,EU,Ap,Vj,PY]
theorem M0 {S:List (List Int)} {m:Nat} (h:m<S.length):S.take m++[S.getD m []]=S.take (m+1):=by
 simp_all
def LD (l:List Rw) (c o p:Nat):Bool:=(l.getD c ⟨⟨0,0⟩,0⟩).o.testBit o&&pa (l.getD c ⟨⟨0,0⟩,0⟩).c.m (l.getD c ⟨⟨0,0⟩,0⟩).c.v p
def jQ (l:List Rw) (o p k:Nat):List Int:=((List.range k).filter λc=>LD l c o p).map λc:Nat=>(c:Int)
def tk (l:List Rw) (o p:Nat):List Int:=jQ l o p l.length
theorem zt (l:List Rw) (o p k:Nat):jQ l o p (k+1)=if LD l k o p then jQ l o p k++[(k:Int)]else jQ l o p k:=by
 grind [jQ,List.range_succ,LD]
theorem Sh {l:List Rw} {o p k:Nat} (h:LD l k o p=true):jQ l o p k++[(k:Int)]=jQ l o p (k+1):=by rw[zt,if_pos h]
theorem IV {l:List Rw} {o p k:Nat} (h:LD l k o p=false):jQ l o p k=jQ l o p (k+1):=by rw[zt,if_neg (by rw[h];decide)]
theorem pC {l:List Rw} {o p k:Nat} {x:Int}:x∈jQ l o p k↔∃c:Nat,x=c∧c<k∧LD l c o p=true:=by
 grind [jQ]
theorem wi (l:List Rw) (o p k:Nat):(jQ l o p k).length≤k:=by
 grind [jQ,List.length_map,Nat.le_trans,List.length_filter_le]
theorem Me (l:List Rw) (o p k:Nat):(jQ l o p k).Pairwise λa b=>a<b:=by
 grind [jQ,List.pairwise_lt_range]
theorem FB {n:Int} {L:List Int} (h:L.Pairwise λa b=>a<b) (hb:∀x,x∈L→0≤x∧x<n):pl n L=true:=by grind [jB,dB,List.pairwise_iff_getElem,List.getElem?_eq_getElem]
theorem S0 (l:List Rw) (o p:Nat):pl (l.length:Int) (tk l o p)=true:=FB (Me l o p _) λx hx=>by
 obtain⟨c,rfl,h1,_⟩:=pC.1 hx
 omega
def uw (l:List Rw) (o:Nat) (pts:List Int) (base:List (List Int)):Nat→List (List Int)
 |0=>base
 |k+1=>ji (uw l o pts base k) (tk l o (pts.getD k 0).toNat)
def lh (S:Sp) (l:List Rw):Nat→List (List Int)
 |0=>[]
 |o+1=>uw l o (eb (S.on.getD o 0)) (lh S l o) (eb (S.on.getD o 0)).length
def aaI (S:Sp) (l:List Rw):List (List Int):=lh S l S.on.length
def mB (S:Sp) (l:List Rw):List (List Int):=iF (aaI S l)
theorem zg {l:List Rw} {o:Nat} {pts:List Int} {base:List (List Int)} {x:List Int}:∀k,x∈uw l o pts base k↔x∈base∨∃q,q<k∧x=tk l o (pts.getD q 0).toNat
 |0=>by simp[uw]
 |k+1=>by
  rw[uw,gy,zg k]
  constructor
  ·rintro((h|⟨q,h1,h2⟩)|h)
   ·exact .inl h
   ·exact .inr ⟨q,by omega,h2⟩
   ·exact .inr ⟨k,by omega,h⟩
  ·rintro(h|⟨q,h1,h2⟩)
   ·exact .inl (.inl h)
   ·by_cases e:q=k
    ·subst e;exact .inr h2
    ·exact .inl (.inr ⟨q,by omega,h2⟩)
theorem pt {S:Sp} {l:List Rw} {x:List Int}:∀o,x∈lh S l o↔∃q,q<o∧∃j,j<(eb (S.on.getD q 0)).length∧x=tk l q ((eb (S.on.getD q 0)).getD j 0).toNat
 |0=>by simp[lh]
 |o+1=>by
  rw[lh,zg,pt o]
  constructor
  ·rintro(⟨q,h1,h2⟩|⟨j,h1,h2⟩)
   ·exact⟨q,by omega,h2⟩
   ·exact⟨o,by omega,j,h1,h2⟩
  ·rintro⟨q,h1,h2⟩
   by_cases e:q=o
   ·subst e;exact .inr h2
   ·exact .inl ⟨q,by omega,h2⟩
theorem tT {l:List Rw} {o:Nat} {pts:List Int} {base:List (List Int)} (h:base.Nodup):∀k,(uw l o pts base k).Nodup
 |0=>h
 |k+1=>jT (tT h k) _
theorem w4 (S:Sp) (l:List Rw):∀o,(lh S l o).Nodup
 |0=>List.nodup_nil
 |o+1=>tT (w4 S l o) _
theorem Ag {l:List Rw} {o:Nat} {pts:List Int} {base:List (List Int)}:∀k,(uw l o pts base k).length≤base.length+k
 |0=>am _
 |k+1=>by
  have:=rD (uw l o pts base k) (tk l o (pts.getD k 0).toNat)
  have:=Ag (l:=l) (o:=o) (pts:=pts) (base:=base) k
  rw[uw];omega
theorem vZ (S:Sp) (l:List Rw):∀o,(lh S l o).length≤256*o
 |0=>am _
 |o+1=>by
  have h1:=Ag (l:=l) (o:=o) (pts:=eb (S.on.getD o 0)) (base:=lh S l o) (eb (S.on.getD o 0)).length
  have h2:=vZ S l o
  have h3:=mq (S.on.getD o 0)
  rw[lh];omega
def qE (l:List Rw) (x:List Int):Prop:=∃o p,x=tk l o p
theorem E1 {S:Sp} {l:List Rw} {o:Nat} {x:List Int} (h:x∈lh S l o):qE l x:=by
 obtain⟨q,_,j,_,e⟩:=(pt o).1 h
 exact⟨_,_,e⟩
theorem kT {S:Sp} {l:List Rw} (h:l.length≤4000):dQ (l.length:Int) (mB S l)=true:=fv.2 ⟨by omega,by omega,λi hi=>by
 obtain⟨o,p,e⟩:=E1 (nx.1 (dB (d:=[]) hi))
 rw[show (mB S l).getD i []=tk l o p from e]
 exact S0 l o p⟩
def rT (row:List Int):List Int:=row.flatMap λc=>[c/256%256,c%256]
def lk (row:List Int):List UInt8:=kU (rT row)
theorem HZ (row:List Int) (k:Nat) (hk:k<row.length):rT (row.take k)++[row.getD k 0/256%256,row.getD k 0%256]=rT (row.take (k+1)):=by
 grind [rT,List.take_add_one,List.getElem?_eq_getElem]
theorem K6 (row:List Int):(rT row).length=2*row.length:=by
 unfold rT
 induction row with
 |nil=>rfl
 |cons a l ih=>rw[abv,An,ih];simp;omega
theorem Fb {x y:Int} (hx:0≤x∧x<256) (hy:0≤y∧y<256) (h:UInt8.ofNat x.toNat=UInt8.ofNat y.toNat):x=y:=by
 grind [UInt8.toNat,UInt8.toNat_ofNat',Nat.mod_eq_of_lt]
theorem BT:∀(a b:List Int),(∀x,x∈a→0≤x∧x<65536)→(∀x,x∈b→0≤x∧x<65536)→lk a=lk b→a=b
 |[],[],_,_,_=>rfl
 |[],b::bs,_,_,h=>by simp[lk,rT,kU]at h
 |a::aq,[],_,_,h=>by simp[lk,rT,kU]at h
 |a::aq,b::bs,ha,hb,h=>by
  have h0:=ha a (aa9 ..)
  have h1:=hb b (aa9 ..)
  have hh:UInt8.ofNat (a/256%256).toNat=UInt8.ofNat (b/256%256).toNat∧UInt8.ofNat (a%256).toNat=UInt8.ofNat (b%256).toNat∧lk aq=lk bs:=by
   simpa [lk,rT,kU,abv] using h
  have e1:=Fb ⟨by omega,by omega⟩ ⟨by omega,by omega⟩ hh.1
  have e2:=Fb ⟨by omega,by omega⟩ ⟨by omega,by omega⟩ hh.2.1
  rw[BT aq bs (λx hx=>ha x (abf _ hx)) (λx hx=>hb x (abf _ hx)) hh.2.2,show a=b by omega]
theorem qE.small {l:List Rw} {x:List Int} (h:qE l x) (hl:l.length≤4000):∀c,c∈x→0≤c∧c<65536:=λc hc=>by
 obtain⟨o,p,rfl⟩:=h
 obtain⟨c,rfl,h1,_⟩:=pC.1 hc
 omega
theorem vt {l:List Rw} {ks:List (List Int)} {r:List Int} (hl:l.length≤4000) (hk:∀x,x∈ks→qE l x) (hr:qE l r):lk r∈ks.map lk↔r∈ks:=by
 rw[aa6]
 constructor
 ·rintro⟨x,hx,e⟩
  rw[←BT x r ((hk x hx).small hl) (hr.small hl) e];exact hx
 all_goals grind
theorem Ot {l:List Rw} {ks:List (List Int)} {r:List Int} (hl:l.length≤4000) (hk:∀x,x∈ks→qE l x) (hr:qE l r):ji (ks.map lk) (lk r)=(ji ks r).map lk:=by
 unfold ji
 by_cases h:r∈ks
 ·rw[if_pos h,if_pos ((vt hl hk hr).2 h)]
 ·rw[if_neg h,if_neg (λk=>h ((vt hl hk hr).1 k)),ace];rfl
end
section
open Go Go.RowKit
def CE (S:Sp) (l:List Rw):Int:=if dt S=true∧∀k,k<l.length→dP (l.getD k ⟨⟨0,0⟩,0⟩).c.m (l.getD k ⟨⟨0,0⟩,0⟩).c.v S.n=true then (if 4000<l.length then 3 else 0)else 1
theorem Yt {a b:List Int} (h:¬(a.length:Int)=(b.length:Int)):Value.bool (decide ((a.length:Int)<(b.length:Int)))= .bool (fP a b):=by grind [Xv,decide_eq_true,decide_eq_false]
theorem Y8 {a b:List Int} {k:Nat} (hl:a.length=b.length) (hk:k<a.length) (h:∀q,q<k→a.getD q 0=b.getD q 0) (hn:¬a.getD k 0=b.getD k 0):Value.bool (decide (a.getD k 0<b.getD k 0))= .bool (fP a b):=by grind [Iq,M7]
theorem XL {a b:List Int} {k:Nat} (hl:a.length=b.length) (hk:k=a.length) (h:∀q,q<k→a.getD q 0=b.getD q 0):Value.bool false= .bool (fP a b):=by grind [BF,PP]
def wD (l:List Rw) (n:Int) (k:Nat):List Nat:=(l.take k).map λx=>qU x.c.m x.c.v n.toNat
theorem Eo {l:List Rw} {n:Int} {k:Nat} (h:k≤l.length):(wD l n k).length=k:=by
 grind [wD,List.length_map,List.length_take]
theorem LG {l:List Rw} {n:Int} {k:Nat} (h:k<l.length):wD l n k++[qU (l.getD k ⟨⟨0,0⟩,0⟩).c.m (l.getD k ⟨⟨0,0⟩,0⟩).c.v n.toNat]=wD l n (k+1):=by
 grind [wD,List.take_add_one,List.getElem?_eq_getElem]
theorem Nz {l:List Rw} {n:Int} {k:Nat} (h:k<l.length):(wD l n l.length).getD k 0=qU (l.getD k ⟨⟨0,0⟩,0⟩).c.m (l.getD k ⟨⟨0,0⟩,0⟩).c.v n.toNat:=by
 grind [wD,List.take_length,List.getElem?_eq_getElem]
theorem Kn {l:List Rw} {n p:Int} {k o:Nat} (h:k<l.length) (hr:dP (l.getD k ⟨⟨0,0⟩,0⟩).c.m (l.getD k ⟨⟨0,0⟩,0⟩).c.v n=true) (hp:0≤p∧p.toNat<2^n.toNat) (hb:(l.getD k ⟨⟨0,0⟩,0⟩).o.testBit o=true):Cq ((wD l n l.length).getD k 0) p=LD l k o p.toNat:=by
 obtain⟨h0,h8,hm,hv⟩:=du.1 hr
 have h256:=fw h8
 rw[Nz h]
 unfold LD pa
 rw[hb,abu]
 obtain⟨q,rfl⟩:=abj hp.1
 rw[so]at hp ⊢
 have hq:q<256:=by omega
 rw[yN hq,jr (by omega),decide_eq_true hp.2,abu,hv]
theorem U1 {l:List Rw} {p:Nat} {k o:Nat} (hb:¬(l.getD k ⟨⟨0,0⟩,0⟩).o.testBit o=true):LD l k o p=false:=by
 unfold LD
 grind
theorem Xr {l:List Rw} {n p:Int} {k o:Nat} (h:k<l.length) (hr:dP (l.getD k ⟨⟨0,0⟩,0⟩).c.m (l.getD k ⟨⟨0,0⟩,0⟩).c.v n=true) (hp:0≤p∧p.toNat<2^n.toNat) (hs:(((l.getD k ⟨⟨0,0⟩,0⟩).o/2^o &&& 1:Nat):Int)=1) (hb:Cq ((wD l n l.length).getD k 0) p=true):jQ l o p.toNat k++[(k:Int)]=jQ l o p.toNat (k+1):=by grind [Sh,Kn,oy]
theorem Wi {l:List Rw} {n p:Int} {k o:Nat} (h:k<l.length) (hr:dP (l.getD k ⟨⟨0,0⟩,0⟩).c.m (l.getD k ⟨⟨0,0⟩,0⟩).c.v n=true) (hp:0≤p∧p.toNat<2^n.toNat) (hs:(((l.getD k ⟨⟨0,0⟩,0⟩).o/2^o &&& 1:Nat):Int)=1) (hb:Cq ((wD l n l.length).getD k 0) p=false):jQ l o p.toNat k=jQ l o p.toNat (k+1):=by grind [IV,Kn,oy]
theorem Uz {l:List Rw} {p:Nat} {k o:Nat} (hs:¬(((l.getD k ⟨⟨0,0⟩,0⟩).o/2^o &&& 1:Nat):Int)=1):jQ l o p k=jQ l o p (k+1):=by grind [IV,U1,oy]
theorem P9 {l:List Rw} {x:List Int} (h:qE l x):x.length≤l.length:=by
 obtain⟨o,p,rfl⟩:=h
 exact wi _ _ _ _
theorem L4 {l:List Rw} {ks:List (List Int)} (h:∀x,x∈ks→qE l x) (j:Nat):((iF ks).getD j []).length≤l.length:=by
 by_cases hj:j<(iF ks).length
 ·exact P9 (h _ (nx.1 (dB hj)))
 all_goals grind
theorem KN {ks:List (List Int)} {r:List Int} (h:r∈ks):ji ks r=ks:=if_pos h
theorem Rg {S:Sp} {l:List Rw} {o k:Nat} {pts:List Int} {x:List Int} (h:x∈uw l o pts (lh S l o) k):qE l x:=by
 rcases(zg k).1 h with h|⟨q,_,e⟩
 ·exact E1 h
 ·exact⟨_,_,e⟩
theorem Ep {α:Type} (L:List α) (i:Nat):(L.drop i).take (L.length-i)=L.drop i:=by grind [List.take_of_length_le]
theorem T3 {S:Sp} {o p:Nat} (hr:dt S=true) (ho:o<S.on.length) (hb:(S.on.getD o 0).testBit p=true) (hp:p<256):p<2^S.n.toNat:=by
 obtain⟨w1,w2⟩:=(dz.1 hr).2.2.2.2.2 o ho
 have:=dL.1 w2 p hp (dL.1 w1 p hp hb)
 grind [fk]
theorem Mq {S:Sp} {l:List Rw} {o k:Nat} (ho:o<4) (hk:k≤(eb (S.on.getD o 0)).length):(uw l o (eb (S.on.getD o 0)) (lh S l o) k).length≤2000:=by
 grind [Ag,eb,lh,vZ,mq]
theorem ZE {S:Sp} {l:List Rw} (h:¬dt S=true):CE S l=1:=if_neg λk=>h k.1
theorem X3 {S:Sp} {l:List Rw} {k:Nat} (hk:k<l.length) (h:¬dP (l.getD k ⟨⟨0,0⟩,0⟩).c.m (l.getD k ⟨⟨0,0⟩,0⟩).c.v S.n=true):CE S l=1:=if_neg λq=>h (q.2 k hk)
theorem XS {S:Sp} {l:List Rw} (h:dt S=true) (h2:∀k,k<l.length→dP (l.getD k ⟨⟨0,0⟩,0⟩).c.m (l.getD k ⟨⟨0,0⟩,0⟩).c.v S.n=true) (h3:4000<l.length):CE S l=3:=by
 unfold CE;rw[if_pos ⟨h,h2⟩,if_pos h3]
theorem Ud {S:Sp} {l:List Rw} (h:dt S=true) (h2:∀k,k<l.length→dP (l.getD k ⟨⟨0,0⟩,0⟩).c.m (l.getD k ⟨⟨0,0⟩,0⟩).c.v S.n=true) (h3:¬4000<l.length):CE S l=0:=by
 unfold CE;rw[if_pos ⟨h,h2⟩,if_neg h3]
def P5 (l:List Rw) (bs:List Bool):Nat→List Rw
 |0=>[]
 |k+1=>if bs.getD k false=true then P5 l bs k++[l.getD k ⟨⟨0,0⟩,0⟩]else P5 l bs k
def Qx (bs:List Bool):Nat→List Int
 |0=>[]
 |k+1=>if bs.getD k false=true then Qx bs k++[(k:Int)]else Qx bs k
theorem vI {l:List Rw} {bs:List Bool} {x:Rw}:∀k,x∈P5 l bs k↔∃c,c<k∧bs.getD c false=true∧x=l.getD c ⟨⟨0,0⟩,0⟩
 |0=>by simp[P5]
 |k+1=>by
  rw[P5]
  by_cases h:bs.getD k false=true
  ·rw[if_pos h,aah,vI k,aaL]
   constructor
   ·rintro(⟨c,h1,h2⟩|rfl)
    ·exact⟨c,by omega,h2⟩
    ·exact⟨k,by omega,h,rfl⟩
   ·rintro⟨c,h1,h2,h3⟩
    by_cases e:c=k
    ·subst e;exact .inr h3
    ·exact .inl ⟨c,by omega,h2,h3⟩
  ·rw[if_neg h,vI k]
   constructor
   ·rintro⟨c,h1,h2⟩;exact⟨c,by omega,h2⟩
   ·rintro⟨c,h1,h2,h3⟩
    have e:c≠k:=λe=>h (e▸h2)
    exact⟨c,by omega,h2,h3⟩
theorem x8 {bs:List Bool} {x:Int}:∀k,x∈Qx bs k↔∃c:Nat,c<k∧bs.getD c false=true∧x=(c:Int)
 |0=>by simp[Qx]
 |k+1=>by
  rw[Qx]
  by_cases h:bs.getD k false=true
  ·rw[if_pos h,aah,x8 k,aaL]
   constructor
   ·rintro(⟨c,h1,h2⟩|rfl)
    ·exact⟨c,by omega,h2⟩
    ·exact⟨k,by omega,h,rfl⟩
   ·rintro⟨c,h1,h2,h3⟩
    by_cases e:c=k
    ·subst e;exact .inr h3
    ·exact .inl ⟨c,by omega,h2,h3⟩
  ·rw[if_neg h,x8 k]
   constructor
   ·rintro⟨c,h1,h2⟩;exact⟨c,by omega,h2⟩
   ·rintro⟨c,h1,h2,h3⟩
    have e:c≠k:=λe=>h (e▸h2)
    exact⟨c,by omega,h2,h3⟩
theorem y7 {L:List (List Int)} {cols:List Int}:pR L cols=true↔∀r,r∈L→∃c,c∈r∧c∈cols:=by
 rw[Gk]
 constructor
 ·intro h r hr
  obtain⟨k,hk,rfl⟩:=fi (d:=[]) hr
  exact h k hk
 all_goals simp_all
theorem HE {l:List Rw} {bs:List Bool} {k p o:Nat}:DR (P5 l bs k) p o=true↔∃c,c<k∧bs.getD c false=true∧LD l c o p=true:=by
 unfold DR
 rw[abH]
 constructor
 ·rintro⟨x,hx,h⟩
  obtain⟨c,h1,h2,rfl⟩:=(vI k).1 hx
  exact⟨c,h1,h2,h⟩
 ·rintro⟨c,h1,h2,h3⟩
  exact⟨_,(vI k).2 ⟨c,h1,h2,rfl⟩,h3⟩
theorem Ue {S:Sp} {l:List Rw} {bs:List Bool} {k:Nat} (hr:dt S=true) (hw:∀q,q<l.length→rC S (l.getD q ⟨⟨0,0⟩,0⟩)=true) (hl:l.length≤4000) (hk:k≤l.length):
  (dQ (l.length:Int) (mB S l)&&pR (mB S l) (Qx bs k))=gz S (P5 l bs k):=by
 rw[kT hl,abu]
 obtain⟨h0,h8,h1,h4,h5,hin⟩:=dz.1 hr
 have hp:=fw h8
 have hm:km S (P5 l bs k)=true:=by
  unfold km
  rw[aa2]
  intro x hx
  obtain⟨c,h1,_,rfl⟩:=(vI k).1 hx
  have hi:=hw c (by omega)
  exact fY.2 ⟨gI hi,(im.1 hi).2.1,by rw[h5];exact(rM hi).1⟩
 have hon:∀o,o<S.on.length→∀p,(AC S o).testBit p=true→p<256→p<2^S.n.toNat:=λo ho p hb hp2=>by
  obtain⟨w1,w2⟩:=hin o ho
  have:=dL.1 w2 p hp2 (dL.1 w1 p hp2 hb)
  rw[fk]at this
  simpa using this
 rw[abA,y7,eU]
 constructor
 ·intro h
  refine⟨hr,hm,λo ho=>(ig hr hm ho).2 λp hpn=>⟨λhb=> ?_,λhc=> ?_⟩⟩
  ·have hmem:tk l o p∈mB S l:=nx.2 ((pt _).2 (by
    obtain⟨j,hj,hjp⟩:=fi (d:=(0:Int)) (jD.2 ⟨p,by omega,hb,rfl⟩:(p:Int)∈eb (AC S o))
    refine⟨o,ho,j,hj,?_⟩
    unfold AC at hjp
    rw[hjp,so]))
   obtain⟨c,hc1,hc2⟩:=h _ hmem
   obtain⟨c,rfl,g1,g2⟩:=pC.1 hc1
   obtain⟨c',g3,g4,g5⟩:=(x8 k).1 hc2
   obtain rfl:c=c':=by omega
   exact HE.2 ⟨c,g3,g4,g2⟩
  ·obtain⟨c,g1,g2,g3⟩:=HE.1 hc
   have hi:=hw c (by omega)
   unfold LD at g3
   rw[th]at g3
   obtain⟨k1,k2⟩:=(im.1 hi).2.2 o g3.1
   have hv:=(du.1 (gI hi)).2.2.2
   refine(gp.1 k2).2 p hpn ?_
   have:=of_decide_eq_true g3.2
   rw[hv]at this
   exact this
 ·rintro⟨_,_,h⟩ r hr2
  obtain⟨o,ho,j,hj,rfl⟩:=(pt _).1 (nx.1 hr2)
  obtain⟨p,hp2,hb,e⟩:=l9 hj
  rw[e,so]
  have hpn:=hon o ho p hb hp2
  obtain⟨c,g1,g2,g3⟩:=HE.1 (((ig hr hm ho).1 (h o ho) p hpn).1 hb)
  exact⟨(c:Int),pC.2 ⟨c,rfl,by omega,g3⟩,(x8 k).2 ⟨c,g1,g2,rfl⟩⟩
def Vu (n:Nat):List Int:=(List.range n).map λk:Nat=>(k:Int)
theorem P7 {k:Nat} {x:Int}:x∈Vu k↔0≤x∧x<k:=by
 unfold Vu
 rw[aa6]
 constructor
 ·rintro⟨c,h,rfl⟩
  have:=aba.1 h
  omega
 ·intro h
  exact⟨x.toNat,aba.2 (by omega),by omega⟩
def jG (L:List (List Int)) (k:Nat):Bool:=(List.range k).all λi=>decide (0<(L.getD i []).length)
theorem Pu {L:List (List Int)} {k:Nat}:jG L k=true↔∀i,i<k→0<(L.getD i []).length:=by
 grind [jG,List.all_eq_true]
end
section
open Go Go.RowKit
abbrev ML:=List (List Int)
def nL (L:ML) (X:List Int):Prop:=∀r,r∈L→∃c,c∈r∧c∈X
def sM (L:ML) (c:Int):Prop:=∃r,r∈L∧c∈r
def tD (L:ML) (c:Int):ML:=L.filter λr=> !decide (c∈r)
def Br (r:List Int) (c:Int):List Int:=r.filter λx=> !decide (x=c)
def qD (L:ML) (c:Int):ML:=L.map λr=>Br r c
theorem oz {L:ML} {c:Int} {r:List Int}:r∈tD L c↔r∈L∧c∉r:=by
 grind [tD]
theorem oP {L:ML} {c:Int} {r:List Int}:r∈qD L c↔∃q,q∈L∧r=Br q c:=by
 grind [qD]
theorem np {q:List Int} {c x:Int}:x∈Br q c↔x∈q∧x≠c:=by
 grind [Br]
theorem Jq (X:List Int):nL [] X:=λr h=>by cases h
theorem H4 {L:ML} {c:Int} {X:List Int} (h:nL (tD L c) X):nL L (c::X):=λr hr=>by
 by_cases hc:c∈r
 ·exact⟨c,hc,aa9 ..⟩
 ·obtain⟨d,h1,h2⟩:=h r (oz.2 ⟨hr,hc⟩)
  exact⟨d,h1,abf _ h2⟩
theorem EH {L:ML} {c:Int} {X:List Int} (hn:X.Nodup) (h:nL L X):nL (tD L c) (X.erase c):=λr hr=>by
 obtain⟨h1,h2⟩:=oz.1 hr
 obtain⟨d,h3,h4⟩:=h r h1
 exact⟨d,h3,(List.Nodup.mem_erase_iff hn).2 ⟨λe=>h2 (e▸h3),h4⟩⟩
theorem NC {L:ML} {c:Int} {X:List Int} (h:nL L X) (hc:c∉X):nL (qD L c) X:=λr hr=>by
 obtain⟨q,hq,rfl⟩:=oP.1 hr
 obtain⟨d,h3,h4⟩:=h q hq
 exact⟨d,np.2 ⟨h3,λe=>hc (e▸h4)⟩,h4⟩
theorem MW {L:ML} {c:Int} {X:List Int} (h:nL (qD L c) X):nL L X:=λr hr=>by
 obtain⟨d,h3,h4⟩:=h _ (oP.2 ⟨r,hr,rfl⟩)
 exact⟨d,(np.1 h3).1,h4⟩
theorem zA {L:ML} {X Y:List Int} (h:nL L X) (k:∀c,c∈X→c∈Y):nL L Y:=λr hr=>(h r hr).imp λc q=>⟨q.1,k c q.2⟩
theorem Kl {L:ML} {X:List Int}:pR L X=true↔nL L X:=y7
structure mW (L0 L:ML) (ks:List Int):Prop where
 nd:ks.Nodup
 dis:∀c,c∈ks→¬sM L c
 sub:∀c,sM L c→sM L0 c
 ksub:∀c,c∈ks→sM L0 c
 up:∀X,nL L X→nL L0 (ks++X)
 dn:∀Y,Y.Nodup→nL L0 Y→∃X,X.Nodup∧nL L X∧ks.length+X.length≤Y.length
section
variable {L0 L L':ML} {ks ks':List Int} {r:List Int} {c d:Int}
theorem adA (L:ML):mW L L []:=⟨List.nodup_nil,λc h=>(by cases h),λc h=>h,λc h=>(by cases h),λX h=>h,λY h1 h2=>⟨Y,h1,h2,by simp⟩⟩
theorem mW.take (h:mW L0 L ks) (hr:r∈L) (e:r=[c]):mW L0 (tD L c) (ji ks c):=by
 have hin:sM L c:=⟨r,hr,by rw[e];exact aaL.2 rfl⟩
 have hc:c∉ks:=λq=>h.dis c q hin
 have ei:ji ks c=ks++[c]:=if_neg hc
 refine⟨jT h.nd c,?_,?_,?_,?_,?_⟩
 ·rintro d hd ⟨q,hq,hdq⟩
  obtain⟨hq1,hq2⟩:=oz.1 hq
  rcases gy.1 hd with k|k
  ·exact h.dis d k ⟨q,hq1,hdq⟩
  ·rw[k]at hdq;exact hq2 hdq
 ·rintro d ⟨q,hq,hdq⟩
  exact h.sub d ⟨q,(oz.1 hq).1,hdq⟩
 ·intro d hd
  rcases gy.1 hd with k|k
  ·exact h.ksub d k
  ·rw[k];exact h.sub c hin
 ·intro X hX
  have:=h.up (c::X) (H4 hX)
  rw[ei,abm]
  exact this
 ·intro Y hn hY
  obtain⟨X,h1,h2,h3⟩:=h.dn Y hn hY
  have hcX:c∈X:=by
   obtain⟨d,hd,hd2⟩:=h2 r hr
   rw[e]at hd
   rwa [aaL.1 hd]at hd2
  refine⟨X.erase c,h1.erase c,EH h1 h2,?_⟩
  grind
theorem mW.rows (h:mW L0 L ks) (hs:∀r,r∈L'→r∈L) (hu:∀X,nL L' X→nL L X):mW L0 L' ks:=
 ⟨h.nd,λc hc ⟨r,hr,q⟩=>h.dis c hc ⟨r,hs r hr,q⟩,λc ⟨r,hr,q⟩=>h.sub c ⟨r,hs r hr,q⟩,h.ksub,λX hX=>h.up X (hu X hX),λY hn hY=>(h.dn Y hn hY).imp λX ⟨h1,h2,h3⟩=>⟨h1,λr hr=>h2 r (hs r hr),h3⟩⟩
theorem mW.cols (h:mW L0 L ks) (hne:¬d=c) (hd:∀r,r∈L→c∈r→d∈r):mW L0 (qD L c) ks:=by
 refine⟨h.nd,?_,?_,h.ksub,λX hX=>h.up X (MW hX),?_⟩
 ·rintro x hx ⟨r,hr,q⟩
  obtain⟨r0,h0,rfl⟩:=oP.1 hr
  exact h.dis x hx ⟨r0,h0,(np.1 q).1⟩
 ·rintro x ⟨r,hr,q⟩
  obtain⟨r0,h0,rfl⟩:=oP.1 hr
  exact h.sub x ⟨r0,h0,(np.1 q).1⟩
 ·intro Y hn hY
  obtain⟨X,h1,h2,h3⟩:=h.dn Y hn hY
  by_cases hc:c∈X
  ·refine⟨ji (X.erase c) d,jT (h1.erase c) d,?_,?_⟩
   ·intro r hr
    obtain⟨r0,h0,rfl⟩:=oP.1 hr
    obtain⟨x,hx1,hx2⟩:=h2 r0 h0
    by_cases e:x=c
    ·subst e
     exact⟨d,np.2 ⟨hd r0 h0 hx1,hne⟩,gy.2 (.inr rfl)⟩
    ·exact⟨x,np.2 ⟨hx1,e⟩,gy.2 (.inl ((List.Nodup.mem_erase_iff h1).2 ⟨e,hx2⟩))⟩
   ·have h4:=rD (X.erase c) d
    rw[acI hc]at h4
    have:=abC hc
    omega
  all_goals grind [NC]
theorem mW.perm (h:mW L0 L ks) (hn:ks'.Nodup) (hm:∀c,c∈ks'↔c∈ks) (hl:ks'.length=ks.length):mW L0 L ks':=
 ⟨hn,λc hc=>h.dis c ((hm c).1 hc),h.sub,λc hc=>h.ksub c ((hm c).1 hc),λX hX=>zA (h.up X hX) λc hc=>by
  rcases aah.1 hc with k|k
  ·exact aah.2 (.inl ((hm c).2 k))
  ·exact aah.2 (.inr k),λY h1 h2=>by rw[hl];exact h.dn Y h1 h2⟩
end
def tu:ML→Nat
 |[]=>0
 |r::L=>r.length+1+tu L
theorem Hl (c:Int):∀L:ML,tu (tD L c)≤tu L
 |[]=>am _
 |r::L=>by
  have h0:=Hl c L
  unfold tD at*
  rw[acu]
  split
  ·simp only[tu];omega
  ·simp only[tu];omega
theorem Cm {c:Int}:∀{L:ML},sM L c→tu (tD L c)<tu L
 |[],⟨r,h,_⟩=>by cases h
 |r::L,⟨q,hq,hc⟩=>by
  have h0:=Hl c L
  by_cases hr:c∈r
  ·unfold tD at*
   rw[acu,if_neg (by simp[hr])]
   simp only[tu];omega
  ·have hq2:q∈L:=by
    rcases abl.1 hq with e|e
    ·rw[e]at hc;exact absurd hc hr
    ·exact e
   have h1:=Cm (L:=L) ⟨q,hq2,hc⟩
   unfold tD at*
   rw[acu,if_pos (by simp[hr])]
   simp only[tu];omega
theorem Cz (r:List Int) (c:Int):(Br r c).length≤r.length:=acB _ _
theorem HK (c:Int):∀L:ML,tu (qD L c)≤tu L
 |[]=>am _
 |r::L=>by
  have h0:=HK c L
  have h1:=Cz r c
  unfold qD at*
  rw[ab8]
  simp only[tu];omega
theorem BH {c:Int}:∀{L:ML},sM L c→tu (qD L c)<tu L
 |[],⟨r,h,_⟩=>by cases h
 |r::L,⟨q,hq,hc⟩=>by
  have h0:=HK c L
  have h1:=Cz r c
  rcases abl.1 hq with e|e
  ·rw[e]at hc
   have h2:(Br r c).length<r.length:=by
    unfold Br
    exact List.length_filter_lt_length_iff_exists.2 ⟨c,hc,by simp⟩
   unfold qD at*
   rw[ab8]
   simp only[tu];omega
  ·have h2:=BH (L:=L) ⟨q,e,hc⟩
   unfold qD at*
   rw[ab8]
   simp only[tu];omega
theorem Ox (L:ML) (c:Int):(tD L c).length≤L.length:=acB _ _
theorem BR {L:ML} {c:Int} (h:sM L c):(tD L c).length<L.length:=by
 obtain⟨r,hr,hc⟩:=h
 unfold tD
 exact List.length_filter_lt_length_iff_exists.2 ⟨r,hr,by simp[hc]⟩
theorem len_le (L:ML) (c:Int):(qD L c).length=L.length:=by grind [qD,List.length_map]
def Lu (L:ML) (i:Nat):ML:=L.take i++L.drop (i+1)
theorem CK:∀a b:ML,tu (a++b)=tu a+tu b
 |[],b=>by simp[tu]
 |r::a,b=>by rw[abR];simp only[tu];rw[CK a b];omega
theorem Ni {L:ML} {i:Nat} (h:i<L.length):tu (Lu L i)<tu L:=by
 have e:L=L.take i++(L.getD i []::L.drop (i+1)):=by
  rw[me,we h]
  simp
 have h1:=congrArg tu e
 rw[CK]at h1
 unfold Lu
 rw[CK]
 simp only[tu]at h1
 omega
theorem PC {L:ML} {i:Nat} {r:List Int} (h:r∈Lu L i):r∈L:=by
 rcases aah.1 h with k|k
 all_goals grind
theorem PL {L:ML} {i k:Nat} (hk:k<L.length) (hne:¬k=i):L.getD k []∈Lu L i:=by
 unfold Lu
 rw[me,we hk]
 rcases abO k i with q|q
 ·refine aah.2 (.inl (List.mem_take_iff_getElem.2 ⟨k,by omega,rfl⟩))
 ·refine aah.2 (.inr (List.mem_drop_iff_getElem.2 ⟨k-(i+1),by omega,?_⟩))
  grind
theorem Wl {L:ML} {i k:Nat} {X:List Int} (hi:i<L.length) (hk:k<L.length) (hne:¬k=i) (hw:∀x,x∈L.getD k []→x∈L.getD i []) (h:nL (Lu L i) X):nL L X:=λr hr=>by
 obtain⟨j,hj,rfl⟩:=fi (d:=[]) hr
 by_cases e:j=i
 ·subst e
  obtain⟨c,h1,h2⟩:=h _ (PL hk hne)
  exact⟨c,hw c h1,h2⟩
 ·exact h _ (PL hj e)
theorem Wj {n:Int} {r:List Int} (h:pl n r=true) (c:Int):pl n (Br r c)=true:=by
 have hp:r.Pairwise λa b=>a<b:=abY.2 λi j hi hj hij=> ?_
 ·exact FB (hp.filter _) λx hx=>by
   obtain⟨k,hk,rfl⟩:=fi (d:=0) (np.1 hx).1
   obtain⟨h1,h2,_⟩:=jB.1 h k hk
   exact⟨h1,h2⟩
 ·have key:∀m,i+1+m<r.length→r.getD i 0<r.getD (i+1+m) 0:=by
   intro m
   induction m with
   |zero=>intro hm;exact(jB.1 h (i+1) hm).2.2 (by omega)
   |succ m ih=>
    intro hm
    have h1:=ih (by omega)
    have h2:=(jB.1 h (i+1+(m+1)) hm).2.2 (by omega)
    rw[show i+1+(m+1)-1=i+1+m by omega]at h2
    omega
  have h3:=key (j-(i+1)) (by omega)
  grind
theorem zU {n:Int} {L L':ML} (h:dQ n L=true) (k:∀r,r∈L'→pl n r=true):dQ n L'=true:=by
 grind [fv,dB]
theorem sS {n:Int} {L:ML} {r:List Int} (h:dQ n L=true) (hr:r∈L):pl n r=true:=by
 obtain⟨k,hk,rfl⟩:=fi (d:=[]) hr
 grind [fv]
theorem sf {n:Int} {L:ML} {c:Int} (h:dQ n L=true) (hc:sM L c):0≤c∧c<n:=by
 obtain⟨r,hr,hc⟩:=hc
 obtain⟨k,hk,rfl⟩:=fi (d:=0) hc
 have:=jB.1 (sS h hr) k hk
 omega
theorem yO {n:Int} {L:ML} (h:dQ n L=true) (c:Int):dQ n (tD L c)=true:=by grind [zU,sS,oz]
theorem Fh {n:Int} {L:ML} (h:dQ n L=true) (c:Int):dQ n (qD L c)=true:=by grind [zU,oP,Wj,sS]
theorem M6 {n:Int} {L:ML} (h:dQ n L=true) (i:Nat):dQ n (Lu L i)=true:=by grind [zU,sS,PC]
theorem GR {n:Int} {r:List Int} (h:pl n r=true):(r.length:Int)≤n∨r=[]:=by
 rcases Nat.eq_zero_or_pos r.length with e|e
 ·exact .inr (abk e)
 ·left
  have key:∀m,m<r.length→(m:Int)≤r.getD m 0:=by
   intro m
   induction m with
   |zero=>intro hm;exact(jB.1 h 0 hm).1
   |succ m ih=>
    intro hm
    have h1:=ih (by omega)
    have h2:=(jB.1 h (m+1) hm).2.2 (by omega)
    simp only[ab5]at h2
    omega
  have h3:=key (r.length-1) (by omega)
  grind [jB]
theorem fL {n:Int} {L:ML} (h:dQ n L=true) (i:Nat):(L.getD i []).length≤4000:=by
 obtain⟨h1,h2,h3⟩:=fv.1 h
 by_cases hi:i<L.length
 ·rcases GR (h3 i hi)with k|k
  ·omega
  ·rw[k];exact my _
 all_goals grind
def inB (L:ML) (k:Nat):Bool:=L.any λr=>decide ((k:Int)∈r)
theorem qA {L:ML} {k:Nat}:inB L k=true↔sM L (k:Int):=by
 unfold inB sM
 grind
def cnt (L:ML):Nat:=(List.range 4000).countP (inB L)
theorem nh {α:Type} {p q:α→Bool}:∀{l:List α},(∀x,x∈l→p x=true→q x=true)→l.countP p≤l.countP q
 |[],_=>am _
 |a::l,h=>by
  have ih:=nh (l:=l) λx hx=>h x (abf _ hx)
  have h0:=h a (aa9 ..)
  rw[List.countP_cons,List.countP_cons]
  by_cases e:p a=true
  ·rw[if_pos e,if_pos (h0 e)];omega
  ·rw[if_neg e];omega
theorem uf {α:Type} {p q:α→Bool}:∀{l:List α},(∀x,x∈l→p x=true→q x=true)→(∃x,x∈l∧q x=true∧p x=false)→l.countP p<l.countP q
 |[],_,⟨x,h,_⟩=>by cases h
 |a::l,h,⟨x,hx,hq,hp⟩=>by
  have ih0:=nh (l:=l) λx hx=>h x (abf _ hx)
  have h0:=h a (aa9 ..)
  rw[List.countP_cons,List.countP_cons]
  rcases abl.1 hx with e|e
  ·rw[←e,if_pos hq,if_neg (by rw[hp];decide)];omega
  ·have ih:=uf (l:=l) (λx hx=>h x (abf _ hx)) ⟨x,e,hq,hp⟩
   by_cases e:p a=true
   ·rw[if_pos e,if_pos (h0 e)];omega
   ·rw[if_neg e];omega
theorem vz {L L':ML} (h:∀c,sM L c→sM L' c):cnt L≤cnt L':=nh λx _ hx=>qA.2 (h _ (qA.1 hx))
theorem MY {n:Int} {L L':ML} {c:Int} (hr:dQ n L'=true) (h:∀c,sM L c→sM L' c) (h1:sM L' c) (h2:¬sM L c):cnt L<cnt L':=by
 obtain⟨h3,h4⟩:=sf hr h1
 obtain⟨_,h5,_⟩:=fv.1 hr
 have e:((c.toNat:Nat):Int)=c:=by omega
 refine uf (λx _ hx=>qA.2 (h _ (qA.1 hx))) ⟨c.toNat,aba.2 (by omega),qA.2 (by rw[e];exact h1),?_⟩
 refine aa0.2 λk=>h2 ?_
 grind [qA]
theorem Ha {n:Int} {L:ML} {c:Int} (hr:dQ n L=true) (h:sM L c):cnt (tD L c)<cnt L:=
 MY hr (λd ⟨r,h1,h2⟩=>⟨r,(oz.1 h1).1,h2⟩) h λ⟨r,h1,h2⟩=>(oz.1 h1).2 h2
theorem HQ {n:Int} {L:ML} {c:Int} (hr:dQ n L=true) (h:sM L c):cnt (qD L c)<cnt L:=
 MY hr (λd ⟨r,h1,h2⟩=>by obtain⟨q,hq,rfl⟩:=oP.1 h1;exact⟨q,hq,(np.1 h2).1⟩) h λ⟨r,h1,h2⟩=>by obtain⟨q,hq,rfl⟩:=oP.1 h1;exact(np.1 h2).2 rfl
theorem XK {n:Nat} {L:ML} (h:dQ (n:Int) L=true):cnt L≤n:=by
 have h1:cnt L≤(List.range 4000).countP λk=>decide (k<n):=nh λx _ hx=>decide_eq_true (by
  have:=sf h (qA.1 hx)
  omega)
 have h2:∀m,(List.range m).countP (λk=>decide (k<n))≤n:=by
  intro m
  induction m with
  |zero=>exact my _
  |succ m ih=>
   rw[List.range_succ,List.countP_append,List.countP_cons,List.countP_nil]
   by_cases e:m<n
   ·have:(List.range m).countP (λk=>decide (k<n))≤m:=go List.countP_le_length fD
    rw[if_pos (decide_eq_true e)];omega
   ·rw[if_neg (by rw[decide_eq_false e];decide)];omega
 grind
def Gb (U r:List Int):Bool:=r.any λc=>decide (c∈U)
def qS (U r:List Int):Nat→List Int
 |0=>U
 |k+1=>ji (qS U r k) (r.getD k 0)
def AE (L:ML):Nat→List Int
 |0=>[]
 |k+1=>if Gb (AE L k) (L.getD k [])then AE L k else qS (AE L k) (L.getD k []) (L.getD k []).length
def Gn (L:ML):Nat→Nat
 |0=>0
 |k+1=>if Gb (AE L k) (L.getD k [])then Gn L k else Gn L k+1
theorem rB {U r:List Int} {c:Int}:∀k,k≤r.length→(c∈qS U r k↔c∈U∨c∈r.take k)
 |0,_=>by simp[qS]
 |k+1,hk=>by
  rw[qS,gy,rB k (by omega),abt,aah,me,we (show k<r.length by omega),or_assoc]
  simp[eq_comm]
theorem TY {L:ML} {X:List Int} (h:nL L X):∀k,k≤L.length→Gn L k≤X.countP λc=>decide (c∈AE L k)
 |0,_=>my _
 |k+1,hk=>by
  have ih:=TY h k (by omega)
  rw[Gn,AE]
  split
  ·exact ih
  ·rename_i hno
   obtain⟨c,h1,h2⟩:=h _ (dB (d:=[]) (show k<L.length by omega))
   have hc:¬c∈AE L k:=λq=>hno (abH.2 ⟨c,h1,decide_eq_true q⟩)
   refine abr ih (uf (λx _ hx=>decide_eq_true ?_) ⟨c,h2,decide_eq_true ?_,decide_eq_false hc⟩)
   ·exact(rB _ (am _)).2 (.inl (of_decide_eq_true hx))
   ·exact(rB _ (am _)).2 (.inr (by rw[aa7];exact h1))
theorem P1 {L:ML} {X:List Int} (h:nL L X):Gn L L.length≤X.length:=go (TY h _ (am _)) List.countP_le_length
def Hop (x:ML×List Int) (Y:List Int):Prop:=∃X,X.Nodup∧nL x.1 X∧x.2.length+X.length≤Y.length
structure sZ (L0:ML) (st:List (ML×List Int)) (best:List Int):Prop where
 bs:nL L0 best
 up:∀x,x∈st→∀X,nL x.1 X→nL L0 (x.2++X)
 dn:∀Y,Y.Nodup→nL L0 Y→best.length≤Y.length∨∃x,x∈st∧Hop x Y
section
variable {L0:ML} {st:List (ML×List Int)} {x:ML×List Int} {best best' T:List Int} {rest:ML} {c:Int}
theorem adw (hb:nL L0 best):sZ L0 [(L0,[])] best:=⟨hb,λx hx X h=>(by obtain rfl:=aaL.1 hx;exact h),λY h1 h2=> .inr ⟨_,aaL.2 rfl,Y,h1,h2,by simp⟩⟩
theorem sZ.drop (h:sZ L0 (st++[x]) best) (hb:nL L0 best') (hle:best'.length≤best.length) (hx:∀Y,Hop x Y→best'.length≤Y.length):sZ L0 st best':=by
 refine⟨hb,λy hy=>h.up y (aah.2 (.inl hy)),λY h1 h2=> ?_⟩
 rcases h.dn Y h1 h2 with k|⟨y,hy,k⟩
 ·exact .inl (go hle k)
 ·rcases aah.1 hy with q|q
  ·exact .inr ⟨y,q,k⟩
  ·rw[aaL.1 q]at k
   exact .inl (hx Y k)
theorem sZ.none (h:sZ L0 (st++[x]) best) {r:List Int} (hr:r∈x.1) (hn:r=[]):sZ L0 st best:=h.drop h.bs (am _) λY ⟨X,_,h2,_⟩=>by
 obtain⟨c,h3,_⟩:=h2 r hr
 rw[hn]at h3;cases h3
theorem sZ.sol (h:sZ L0 (st++[x]) best) (hr:mW x.1 rest T) (he:rest=[]):nL L0 (x.2++T):=by
 have:=h.up x (aah.2 (.inr (aaL.2 rfl))) (T++[]) (hr.up [] (by rw[he];exact Jq _))
 grind
theorem adk (hr:mW x.1 rest T) {Y:List Int} (k:Hop x Y):∃X,X.Nodup∧nL rest X∧(x.2++T).length+X.length≤Y.length:=by
 obtain⟨X,h1,h2,h3⟩:=k
 obtain⟨X',h4,h5,h6⟩:=hr.dn X h1 h2
 grind
theorem sZ.leaf (h:sZ L0 (st++[x]) best) (hr:mW x.1 rest T) (he:rest=[]) (hl:(x.2++T).length<best.length):sZ L0 st (x.2++T):=h.drop (h.sol hr he) (Nat.le_of_lt hl) λY k=>by
 obtain⟨X,_,_,h3⟩:=adk hr k
 omega
theorem sZ.leaf0 (h:sZ L0 (st++[x]) best) (hr:mW x.1 rest T) (hl:¬(x.2++T).length<best.length):sZ L0 st best:=h.drop h.bs (am _) λY k=>by
 obtain⟨X,_,_,h3⟩:=adk hr k
 omega
theorem sZ.prune (h:sZ L0 (st++[x]) best) (hr:mW x.1 rest T) (hl:best.length≤(x.2++T).length+Gn rest rest.length):sZ L0 st best:=h.drop h.bs (am _) λY k=>by
 obtain⟨X,_,h2,h3⟩:=adk hr k
 have:=P1 h2
 omega
theorem sZ.branch (h:sZ L0 (st++[x]) best) (hr:mW x.1 rest T) (c:Int):sZ L0 (st++[(qD rest c,x.2++T),(tD rest c,x.2++T++[c])]) best:=by
 have hx:=h.up x (aah.2 (.inr (aaL.2 rfl)))
 refine⟨h.bs,λy hy X hX=> ?_,λY h1 h2=> ?_⟩
 ·rcases aah.1 hy with q|q
  ·exact h.up y (aah.2 (.inl q)) X hX
  ·rcases abl.1 q with rfl|q
   ·have:=hx _ (hr.up X (MW hX))
    rwa [abm]
   ·rw[aaL.1 q]at hX ⊢
    have:=hx _ (hr.up _ (H4 hX))
    simp only[abm]
    exact this
 ·rcases h.dn Y h1 h2 with k|⟨y,hy,k⟩
  ·exact .inl k
  ·rcases aah.1 hy with q|q
   ·exact .inr ⟨y,aah.2 (.inl q),k⟩
   ·rw[aaL.1 q]at k
    obtain⟨X,h4,h5,h6⟩:=adk hr k
    right
    by_cases hc:c∈X
    ·refine⟨_,aah.2 (.inr (abf _ (aaL.2 rfl))),X.erase c,h4.erase c,EH h4 h5,?_⟩
     rw[acI hc]
     have:=abC hc
     simp only[An,abp]at h6 ⊢
     omega
    ·exact⟨_,aah.2 (.inr (aa9 ..)),X,h4,NC h5 hc,h6⟩
end
def D9:List (ML×List Int)→Nat
 |[]=>0
 |x::st=>(2^(cnt x.1+1)-1)+D9 st
def Iu:List (ML×List Int)→Nat
 |[]=>0
 |x::st=>(2^cnt x.1-1)+Iu st
theorem xR:∀a b,D9 (a++b)=D9 a+D9 b
 |[],b=>by simp[D9]
 |x::a,b=>by rw[abR,D9,D9,xR a b];omega
theorem xY:∀a b,Iu (a++b)=Iu a+Iu b
 |[],b=>by simp[Iu]
 |x::a,b=>by rw[abR,Iu,Iu,xY a b];omega
theorem N6 (st:List (ML×List Int)) (x:ML×List Int):D9 st<D9 (st++[x]):=by
 have:=abo (cnt x.1)
 rw[xR]
 simp only[D9,ab3]
 omega
theorem Pg (st:List (ML×List Int)) (x:ML×List Int):Iu st≤Iu (st++[x]):=by rw[xY];omega
section
variable {n:Int} {st:List (ML×List Int)} {x:ML×List Int} {T a b:List Int} {rest:ML} {c:Int}
theorem vA {a k:Nat} (h:a<k):2*2^a≤2^k:=by
 have:=aa8 (show 0<2 by decide) (show a+1≤k by omega)
 omega
theorem Ii (hr:dQ n rest=true) (h:mW x.1 rest T) (hc:sM rest c):D9 (st++[(qD rest c,a),(tD rest c,b)])<D9 (st++[x]):=by
 have h1:=vA (HQ hr hc)
 have h2:=vA (Ha hr hc)
 have h3:=aa8 (show 0<2 by decide) (vz h.sub)
 have h4:=abo (cnt (qD rest c))
 rw[xR,xR]
 simp only[D9,ab3]
 omega
theorem z6 (hr:dQ n rest=true) (h:mW x.1 rest T) (hc:sM rest c):Iu (st++[(qD rest c,a),(tD rest c,b)])+1≤Iu (st++[x]):=by
 have h1:=vA (HQ hr hc)
 have h2:=vA (Ha hr hc)
 have h3:=aa8 (show 0<2 by decide) (vz h.sub)
 have h4:=abo (cnt (qD rest c))
 have h5:=abo (cnt (tD rest c))
 rw[xY,xY]
 simp only[Iu]
 omega
end
def lY (l:List Int) (k:Nat):List Int:=((List.range k).filter λc:Nat=>decide ((c:Int)∈l)).map λc:Nat=>(c:Int)
theorem nr (l:List Int) (k:Nat):lY l (k+1)=if (k:Int)∈l then lY l k++[(k:Int)]else lY l k:=by
 grind [lY,List.range_succ]
theorem rJ {l:List Int} {k:Nat} {c:Int}:c∈lY l k↔c∈l∧0≤c∧c<k:=by
 unfold lY
 simp only[aa6,abQ,aba,decide_eq_true_eq]
 constructor
 ·rintro⟨a,⟨h1,h2⟩,rfl⟩;exact⟨h2,by omega,by omega⟩
 ·rintro⟨h1,h2,h3⟩
  exact⟨c.toNat,⟨by omega,by rwa [show ((c.toNat:Nat):Int)=c by omega]⟩,by omega⟩
theorem RR (l:List Int) (k:Nat):(lY l k).Pairwise λa b=>a<b:=by
 grind [lY,List.pairwise_lt_range]
theorem l8 (l:List Int) (k:Nat):(lY l k).Nodup:=(RR l k).imp λh e=>by omega
theorem tO {α:Type} [DecidableEq α]:∀{a b:List α},a.Nodup→(∀x,x∈a→x∈b)→a.length≤b.length
 |[],b,_,_=>my _
 |x::a,b,hn,h=>by
  obtain⟨h1,h2⟩:=List.nodup_cons.1 hn
  have hx:x∈b:=h x (aa9 ..)
  have ih:=tO (a:=a) (b:=b.erase x) h2 λy hy=>(List.mem_erase_of_ne (λe=>h1 (by rw[e]at hy;exact hy))).2 (h y (abf _ hy))
  rw[acI hx]at ih
  have:=abC hx
  rw[aa5]
  omega
theorem EG (l:List Int) (k:Nat):(lY l k).length≤l.length:=tO (l8 l k) λx hx=>(rJ.1 hx).1
theorem mH (l:List Int) (k:Nat):(lY l k).length≤k:=by
 grind [lY,List.length_map,Nat.le_trans,List.length_filter_le]
theorem rK {n:Int} {L:ML} {l:List Int} (hr:dQ n L=true) (h:nL L l):nL L (lY l n.toNat):=λr hr2=>by
 obtain⟨c,h1,h2⟩:=h r hr2
 have:=sf hr ⟨r,hr2,h1⟩
 exact⟨c,h1,rJ.2 ⟨h2,by omega,by omega⟩⟩
theorem mW.ris {n:Int} {L0 L:ML} {ks:List Int} (hr:dQ n L0=true) (h:mW L0 L ks):mW L0 L (lY ks n.toNat):=by
 have hm:∀c,c∈lY ks n.toNat↔c∈ks:=λc=>rJ.trans ⟨λq=>q.1,λq=>by
  have:=sf hr (h.ksub c q)
  exact⟨q,by omega,by omega⟩⟩
 exact h.perm (l8 _ _) hm (Nat.le_antisymm (tO (l8 _ _) λx hx=>(hm x).1 hx) (tO h.nd λx hx=>(hm x).2 hx))
structure SP (L:ML) (n:Int) (X:List Int):Prop where
 nd:X.Nodup
 lim:∀c,c∈X→0≤c∧c<n
 slv:nL L X
 min:∀Y,Y.Nodup→nL L Y→X.length≤Y.length
theorem sZ.fin {n:Int} {L0:ML} {best:List Int} (hr:dQ n L0=true) (h:sZ L0 [] best):SP L0 n (lY best n.toNat):=by
 obtain⟨h1,_,_⟩:=fv.1 hr
 refine⟨l8 _ _,λc hc=> ?_,rK hr h.bs,λY hn hY=> ?_⟩
 ·have:=(rJ.1 hc).2
  omega
 ·rcases h.dn Y hn hY with k|⟨x,hx,_⟩
  ·exact go (EG _ _) k
  ·cases hx
theorem SP.both {n:Int} {L0 L:ML} {T X:List Int} (h:mW L0 L T) (k:SP L n X):nL L0 (T++X)∧∀Y,Y.Nodup→nL L0 Y→(T++X).length≤Y.length:=by
 refine⟨h.up X k.slv,λY hn hY=> ?_⟩
 obtain⟨X',h1,h2,h3⟩:=h.dn Y hn hY
 have:=k.min X' h1 h2
 grind
end
section
open Go Go.RowKit
theorem K3 (S:Sp) (l:List Rw):(mB S l).length=(lh S l S.on.length).length:=Cg _
theorem MI {S:Sp} {l:List Rw} (hr:dt S=true):(lh S l S.on.length).length≤1024:=by
 grind [vZ,dz]
end
end Go.Proofs.YtedeonkjellcpaaGreatDoor
