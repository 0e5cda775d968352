/- Words and walks of the row. No condition. -/
import Derived.Test.YtedeonkjellcpaaGreatDoorPar
namespace Go.Proofs.YtedeonkjellcpaaGreatDoor
open Go Go.RowKit
set_option autoImplicit true
set_option relaxedAutoImplicit true
set_option linter.unusedVariables false
set_option linter.unusedSimpArgs false
section
theorem JV:d4 Tryz.prog 133=some (.agg #[.nilFunc, .bool false, .nilFunc, .bool false, .nilFunc, .bool false, .nilFunc, .bool false]):=by kernel_rfl
theorem Dn:d4 Tryz.prog 132=some (.agg #[.nilFunc, .bool false]):=by kernel_rfl
theorem NH:(Tryz.prog.info? 4).map (·.size)=some 1:=by kernel_rfl
theorem HG:(Tryz.prog.info? 130).map (·.size)=some 1:=by kernel_rfl
theorem kI (h0:dm f x0=c0_0) (k0:c0_0.cells= #[c0_0]) (h1:dm f x1=c1_0) (k1:c1_0.cells= #[c1_0]):
    (execOp (dm f) ⟨d, .build 132 #[(0,x0),(1,x1)],ty,ps,af,g⟩).run Tryz.prog w= .ok (.value (.agg #[c0_0,c1_0])) w:=by
  obtain⟨i0,hi0,hz0⟩:=we.1 (show (Tryz.prog.info? 132).bind (·.zero)=_ from Dn)
  obtain⟨j4,hj4,hs4⟩:=an.1 NH
  obtain⟨j130,hj130,hs130⟩:=an.1 HG
  simp[execOp,h0,k0,h1,k1,Instr.build,zeroValue,typeInfo,sizeOf,hi0,hz0,run_underlying Tryz.underlying132,Instr.fill,d7,hj4,hs4,hj130,hs130]
theorem Hn:(Tryz.prog.info? 132).map (·.size)=some 2:=by kernel_rfl
theorem tO (h0:dm f x0= .agg #[c0_0,c0_1]) (h1:dm f x1= .agg #[c1_0,c1_1]) (h2:dm f x2= .agg #[c2_0,c2_1]) (h3:dm f x3= .agg #[c3_0,c3_1]):
    (execOp (dm f) ⟨d, .build 133 #[(0,x0),(1,x1),(2,x2),(3,x3)],ty,ps,af,g⟩).run Tryz.prog w= .ok (.value (.agg #[c0_0,c0_1,c1_0,c1_1,c2_0,c2_1,c3_0,c3_1])) w:=by
  obtain⟨i0,hi0,hz0⟩:=we.1 (show (Tryz.prog.info? 133).bind (·.zero)=_ from JV)
  obtain⟨j132,hj132,hs132⟩:=an.1 Hn
  simp[execOp,h0,h1,h2,h3,Instr.build,zeroValue,typeInfo,sizeOf,hi0,hz0,run_underlying Tryz.underlying133,Instr.fill,d7,hj132,hs132]
theorem Fh:kn Tryz.prog 133=some 8:=by kernel_rfl
theorem ww:d4 Tryz.prog 59=some (.agg #[.int .i64 0, .slice none 0 0, .slice none 0 0]):=by kernel_rfl
theorem B9:(Tryz.prog.info? 57).map (·.size)=some 1:=by kernel_rfl
theorem xo:
    (execOp (dm f) ⟨d, .build 59 #[],ty,ps,af,g⟩).run Tryz.prog w= .ok (.value (.agg #[.int .i64 0, .slice none 0 0, .slice none 0 0])) w:=by
  obtain⟨i0,hi0,hz0⟩:=we.1 (show (Tryz.prog.info? 59).bind (·.zero)=_ from ww)
  obtain⟨j3,hj3,hs3⟩:=an.1 fL
  obtain⟨j57,hj57,hs57⟩:=an.1 B9
  simp[execOp,Instr.build,zeroValue,typeInfo,sizeOf,hi0,hz0,run_underlying Tryz.underlying59,Instr.fill,d7,hj3,hs3,hj57,hs57]
theorem Ni:cY Tryz.prog 81=true:=by kernel_rfl
theorem G4:kn Tryz.prog 132=some 2:=by kernel_rfl
theorem DE (h0:dm f x0=c0_0) (k0:c0_0.cells= #[c0_0]):
    (execOp (dm f) ⟨d, .build 59 #[(0,x0)],ty,ps,af,g⟩).run Tryz.prog w= .ok (.value (.agg #[c0_0, .slice none 0 0, .slice none 0 0])) w:=by
  obtain⟨i0,hi0,hz0⟩:=we.1 (show (Tryz.prog.info? 59).bind (·.zero)=_ from ww)
  obtain⟨j3,hj3,hs3⟩:=an.1 fL
  obtain⟨j57,hj57,hs57⟩:=an.1 B9
  simp[execOp,h0,k0,Instr.build,zeroValue,typeInfo,sizeOf,hi0,hz0,run_underlying Tryz.underlying59,Instr.fill,d7,hj3,hs3,hj57,hs57]
theorem IM:cY Tryz.prog 82=true:=by kernel_rfl
theorem Hu:eb Tryz.prog 132 1=some 1:=by kernel_rfl
theorem OZ (hx:dm f x= .agg #[.int .u64 a0, .int .u64 a1, .int .u64 a2, .int .u64 a3]) (hy:dm f y= .agg #[.int .u64 b0, .int .u64 b1, .int .u64 b2, .int .u64 b3]):
    (execOp (dm f) ⟨d, .binOp .neq 40 x y t2,ty,ps,af,g⟩).run Tryz.prog w= .ok (.value (.bool (decide (¬(a0=b0∧a1=b1∧a2=b2∧a3=b3))))) w:=by
  have hg:Tryz.prog.eqGuardType Tryz.prog.depth 40=false:=by kernel_rfl
  have ha:=m6 (P:=Tryz.prog) w 9999 4 40 38 #[.int .u64 a0, .int .u64 a1, .int .u64 a2, .int .u64 a3] #[.int .u64 b0, .int .u64 b1, .int .u64 b2, .int .u64 b3]
    (λi=> .int .u64 ([a0,a1,a2,a3].getD i 0)) (λi=> .int .u64 ([b0,b1,b2,b3].getD i 0)) (λi=>[a0,a1,a2,a3].getD i 0==[b0,b1,b2,b3].getD i 0) Tryz.underlying40 jW (by simp[isAgg,run_underlying Tryz.underlying38])
    (λi hi=>by
      have:i=0∨i=1∨i=2∨i=3:=by omega
      rcases this with rfl|rfl|rfl|rfl<;>rfl)
    (λi hi=>by
      have:i=0∨i=1∨i=2∨i=3:=by omega
      rcases this with rfl|rfl|rfl|rfl<;>rfl)
    (λi hi=>run_equalIn_int w 9998 38 .u64 .u64 _ _ Tryz.underlying38)
  simp only[execOp,hx,hy,Sem.run_bind,run_eqGuard_agg _ _ _ _ _ _ _ hg,Result.andThen_ok,run_neq_struct,ha]
  simp[List.range,List.range.loop]
  by_cases q0:a0=b0<;>by_cases q1:a1=b1<;>by_cases q2:a2=b2<;>by_cases q3:a3=b3<;>simp[q0,q1,q2,q3]
theorem HQ:eb Tryz.prog 132 0=some 0:=by kernel_rfl
theorem N7:eN Tryz.prog 130=true:=by kernel_rfl
theorem qe:(d4 Tryz.prog 40).map (λz=>z.cells.size)=some 4:=by kernel_rfl
theorem vH (a b c e:Nat) (w:World):
    Fn Tryz.prog 128 #[el a,el b,el c,el e] w λv w'=>v=el (andNot a c):=by
 refine cK (n:=12) Tryz.func128 rfl rfl rfl λhB=> ?_
 refine Zr<|Zy (du (c:= #[_,_,_,_]) rfl rfl λx W3 y h d=> ?_)
 replace hB:=Ze hB h
 refine Zy (du (c:= #[_,_,_,_]) rfl rfl λz W6 A i B=> ?_)
 obtain⟨hB,d⟩:=i.k2 hB d
 refine Zy (du (c:= #[_,_,_,_]) rfl rfl λC W9 D j g=> ?_)
 obtain⟨hB,d⟩:=j.k2 hB d
 refine Zy (du (c:= #[_,_,_,_]) rfl rfl λE F G k H=> ?_)
 obtain⟨hB,d,g⟩:=k.k3 hB d g
 refine Zy (cM ep rfl λl m o p f=> ?_)
 have q:=ZO o hB
 obtain⟨hB,d,g⟩:=p.k3 hB d g
 replace f:At m l #[wv 0 0,wv 0 1,wv 0 2,wv 0 3] 40:=f
 refine ct<|Zr<|Zv (cz rfl cC rfl d)<|Zv (cz rfl cC rfl g)<|ZC (vs:=[.agg #[_,_,_,_], .agg #[_,_,_,_]]) tz (mr _ _ _) rfl λI J r s=> ?_
 obtain⟨hB,f⟩:=r.k2 hB f
 obtain rfl:=s
 refine Zy (cA rfl rfl cC rfl f rfl rfl λK t u=> ?_)
 replace hB:=Zg hB t q
 replace f:=u
 refine ct<|Zt<|jp rfl cC f rfl ⟨hB,?_⟩
 rfl
theorem vt (a b c e:Nat) (w:World):
    Fn Tryz.prog 129 #[el a,el b,el c,el e] w λv w'=>v=el b:=by
 refine cK (n:=10) Tryz.func129 rfl rfl rfl λhB=> ?_
 refine Zr<|Zy (du (c:= #[_,_,_,_]) rfl rfl λs W3 t g u=> ?_)
 replace hB:=Ze hB g
 refine Zy (du (c:= #[_,_,_,_]) rfl rfl λx W6 y h d=> ?_)
 replace hB:=Ze hB h
 refine Zy (du (c:= #[_,_,_,_]) rfl rfl λz W9 A i B=> ?_)
 obtain⟨hB,d⟩:=i.k2 hB d
 refine Zy (du (c:= #[_,_,_,_]) rfl rfl λC D E j F=> ?_)
 obtain⟨hB,d⟩:=j.k2 hB d
 refine Zy (cM ep rfl λk l m o f=> ?_)
 have p:=ZO m hB
 obtain⟨hB,d⟩:=o.k2 hB d
 replace f:At l k #[wv 0 0,wv 0 1,wv 0 2,wv 0 3] 40:=f
 refine ct<|Zr<|Zv (cz rfl cC rfl d)<|Zy (cA rfl rfl cC rfl f rfl rfl λG q r=> ?_)
 replace hB:=Zg hB q p
 replace f:=r
 refine ct<|Zt<|jp rfl cC f rfl ⟨hB,?_⟩
 rfl
theorem vZ (a b c e:Nat) (w:World):
    Fn Tryz.prog 130 #[el a,el b,el c,el e] w λv w'=>v=el (b ||| e):=by
 refine cK (n:=12) Tryz.func130 rfl rfl rfl λhB=> ?_
 refine Zr<|Zy (du (c:= #[_,_,_,_]) rfl rfl λx W3 y h z=> ?_)
 replace hB:=Ze hB h
 refine Zy (du (c:= #[_,_,_,_]) rfl rfl λA W6 B i d=> ?_)
 replace hB:=Ze hB i
 refine Zy (du (c:= #[_,_,_,_]) rfl rfl λC W9 D j E=> ?_)
 obtain⟨hB,d⟩:=j.k2 hB d
 refine Zy (du (c:= #[_,_,_,_]) rfl rfl λF G H k g=> ?_)
 obtain⟨hB,d⟩:=k.k2 hB d
 refine Zy (cM ep rfl λl m o p f=> ?_)
 have q:=ZO o hB
 obtain⟨hB,d,g⟩:=p.k3 hB d g
 replace f:At m l #[wv 0 0,wv 0 1,wv 0 2,wv 0 3] 40:=f
 refine ct<|Zr<|Zv (cz rfl cC rfl d)<|Zv (cz rfl cC rfl g)<|ZC (vs:=[.agg #[_,_,_,_], .agg #[_,_,_,_]]) qG (pC _ _ _) rfl λI J r s=> ?_
 obtain⟨hB,f⟩:=r.k2 hB f
 obtain rfl:=s
 refine Zy (cA rfl rfl cC rfl f rfl rfl λK t u=> ?_)
 replace hB:=Zg hB t q
 replace f:=u
 refine ct<|Zt<|jp rfl cC f rfl ⟨hB,?_⟩
 rfl
theorem abE (k:Int) (all ones nz fr:Nat) (w:World):Fn Tryz.prog (Q1 129 130 128 k) #[el all,el ones,el nz,el fr] w λv w'=>v=el (Pj k all ones nz fr):=by
  unfold Q1 Pj
  by_cases h0:k=0
  · rw[if_pos h0,if_pos h0];exact vt all ones nz fr w
  · rw[if_neg h0,if_neg h0]
    by_cases h1:k=1
    · rw[if_pos h1,if_pos h1];exact vZ all ones nz fr w
    · rw[if_neg h1,if_neg h1];exact vH all ones nz fr w
theorem QH (k:Int):cY Tryz.prog (Q1 129 130 128 k)=true:=by
  unfold Q1
  by_cases h0:k=0
  · rw[if_pos h0];kernel_rfl
  · rw[if_neg h0]
    by_cases h1:k=1
    · rw[if_pos h1];kernel_rfl
    · rw[if_neg h1];kernel_rfl
theorem qR (w:World):
    Fn Tryz.prog 81 #[] w λv w'=>v= .agg #[.func (.func 129) #[] #[], .bool false, .func (.func 130) #[] #[], .bool false, .func (.func 128) #[] #[], .bool true, .func (.func 128) #[] #[], .bool true]:=by
 refine cK (n:=9) Tryz.func81 rfl rfl rfl λhB=> ?_
 refine Zr<|Zy (cM JV rfl λg W3 b c a=> ?_)
 have d:=ZO b hB
 replace hB:=Ze hB c
 refine ct<|Zr<|Zw (.func (.func 128) #[] #[]) rfl<|ct<|Zr<|Zv (kI (h0:=rfl) (k0:=rfl) (h1:=rfl) (k1:=rfl) (c0_0:= .func (.func 129) #[] #[]) (c1_0:= .bool false))<|Zv (kI (h0:=rfl) (k0:=rfl) (h1:=rfl) (k1:=rfl) (c0_0:= .func (.func 130) #[] #[]) (c1_0:= .bool false))<|Zw (.func (.func 128) #[] #[]) rfl<|Zv (kI (h0:=rfl) (k0:=rfl) (h1:=rfl) (k1:=rfl) (c0_0:= .func (.func 128) #[] #[]) (c1_0:= .bool true))<|Zw (.func (.func 128) #[] #[]) rfl<|Zv (kI (h0:=rfl) (k0:=rfl) (h1:=rfl) (k1:=rfl) (c0_0:= .func (.func 128) #[] #[]) (c1_0:= .bool true))<|Zv (tO (h0:=rfl) (h1:=rfl) (h2:=rfl) (h3:=rfl))<|Zy (cA rfl rfl Fh rfl a rfl rfl λh e f=> ?_)
 replace hB:=Zg hB e d
 replace a:=f
 refine ct<|Zt<|jp rfl Fh a rfl ⟨hB,?_⟩
 rfl
theorem pp (T:Tb) (lv:Value) (vs:List CV) (o:Nat) (m:Int) (w:World) (hlv:dr il 3 w lv vs) (hls:qo w vs T.ls) (hmb:∀i,i<T.ls.length→(T.ls.getD i jH).c.m<256∧(T.ls.getD i jH).c.v<256) (hr:fy T=true) (ho:(o:Int)<T.no):
    Fn Tryz.prog 82 #[.agg #[.int .i64 T.kind, .int .i64 T.ni, .int .i64 T.no,lv], .int .i64 (o:Int), .int .i64 m] w λv w'=>v=el (oz T o m):=by
 refine cK (n:=39) Tryz.func82 rfl rfl rfl λhB=> ?_
 have hle:=hls.len
 obtain⟨hk0,hk3,hi0,hi8,hno1,hno4,hl64⟩:=iV hr
 refine Zr<|Zy (du (c:= #[_,_,_,_]) rfl rfl λB W3 ac C d=> ?_)
 replace hB:=Ze hB C
 refine Zy (cM ep rfl λr W6 D E a=> ?_)
 have F:=ZO D hB
 obtain⟨hB,d⟩:=E.k2 hB d
 replace a:At W6 r #[wv 0 0,wv 0 1,wv 0 2,wv 0 3] 40:=a
 refine ct<|Zr<|Zy (cM ep rfl λs G t H b=> ?_)
 have I:=ZO t hB
 have u:=Zn t a.lt
 obtain⟨hB,d,a⟩:=H.k3 hB d a
 replace b:At G s #[wv 0 0,wv 0 1,wv 0 2,wv 0 3] 40:=b
 refine ct<|Zq<|Zr<|Zf rfl fW<|ZL lv rfl iU d rfl<|Zv (db (v:=lv) rfl (Below.slT hB hlv) gZ)<|ZZ rfl<|cy ?_
 refine cW (σ:=(Nat)) [9,11,15,37] (λk=>[(15, .int .i64 (k:Int))]) (λk W=>(Below w.heap.size w W)∧(At W B _ 24)∧(At W r _ 40)∧(At W s #[wv (tG T o m k) 0,wv (tG T o m k) 1,wv (tG T o m k) 2,wv (tG T o m k) 3] 40)∧(k≤T.ls.length)∧(True)) (λk=>T.ls.length-k) (0) ⟨rfl,trivial⟩ ⟨hB,d,a,b,(me _),trivial⟩ ?_
 rintro k ad ae ⟨hB,d,a,b,hk,_⟩ af x
 refine Zr<|Zv (dq rfl rfl)<|ct<|Zq<|ZQ rfl (λJ=> ?_) λJ=> ?_
 refine cx<|Zq<|cy ?_
 have hck:=hls.c k (by omega)
 have hln:=pu hr (show k<T.ls.length by omega)
 obtain⟨hr1,hr2,hr3⟩:=nZ.1 hln
 have hbk:=hmb k (by omega)
 have y:(vs.getD k n6).c.m<256∧(vs.getD k n6).c.v<256:=by rw[hck];exact hbk
 have hrb:dS (vs.getD k n6).c.m (vs.getD k n6).c.v T.ni=true:=by rw[hck];exact hr1
 refine Zr<|Zv (dp (v:=lv) rfl (Below.slT hB hlv) rfl gZ Om (by omega))<|Zv (jb rfl gk (dr.cell (Below.slT hB hlv) kd n6 Om (by omega) 0 rfl) (dr.cell (Below.slT hB hlv) kd n6 Om (by omega) 1 rfl) (dr.cell (Below.slT hB hlv) kd n6 Om (by omega) 2 rfl)) ?_
 have j:dr dX 1 w ((vs.getD k n6).o) ((T.ls.getD k jH).os):=hls.o k (by omega)
 refine Zy (cM pq rfl λag ah K L e=> ?_)
 have M:=ZO K hB
 obtain⟨hB,d,a,b⟩:=L.k4 hB d a b
 refine Zy (cA rfl rfl gk rfl e rfl (by exact pm (dr.one j)) λai g N=> ?_)
 replace hB:=Zg hB g M
 replace d:=At.grownAt d e g Dd
 replace a:=At.grownAt a e g Dd
 replace b:=At.grownAt b e g Dd
 replace e:=N
 refine ct<|Zr<|Zf rfl g7<|ZL ((vs.getD k n6).o) rfl fv e rfl<|Zi rfl<|Zv (dp (v:=(vs.getD k n6).o) rfl (Below.slT hB j) rfl cV Om (by omega))<|Zv (cD (v:= .int .i64 _) rfl cR (dr.cell (Below.slT hB j) eD 0 Om (by omega) 0 rfl))<|Zi rfl<|Zv (dO rfl rfl)<|ct<|ZQ rfl (λl=> ?_) λl=> ?_
 refine Zr<|Zf rfl wY<|Zv (io rfl dh (At.cell e rfl) (At.cell e rfl))<|Zf rfl f6<|Zl rfl cR d rfl<|ZC (vs:=[.agg #[_,_], .int .i64 _]) zH (kx (vs.getD k n6).c.m (vs.getD k n6).c.v _ _ y.1 y.2) rfl λaj ak O z=> ?_
 obtain⟨hB,d,a,b⟩:=O.k4 hB d a b
 rw[if_pos hrb]at z
 obtain rfl:=z
 refine Zw (.tuple #[.agg #[_,_,_,_], .int .i64 0]) rfl<|Zv (c7 rfl)<|Zv (da rfl)<|Zy (cM ep rfl λP Q p R f=> ?_)
 have S:=ZO p hB
 have U:=Zn p a.lt
 have V:=Zn p b.lt
 obtain⟨hB,d,a,b⟩:=R.k4 hB d a b
 replace f:At Q P #[wv 0 0,wv 0 1,wv 0 2,wv 0 3] 40:=f
 refine Zy (cA rfl rfl cC rfl f rfl rfl λal h X=> ?_)
 replace hB:=Zg hB h S
 replace d:=At.grownAt d f h Dd
 replace a:=At.grownNe a U h
 replace b:=At.grownNe b V h
 replace f:=X
 refine ZZ rfl<|cI<|Zv (cz rfl cC rfl b)<|Zv (cz rfl cC rfl f)<|ZC (vs:=[.agg #[_,_,_,_], .agg #[_,_,_,_]]) qG (pC _ _ _) rfl λao ap Y Z=> ?_
 obtain⟨hB,d,a,b⟩:=Y.k4 hB d a b
 obtain rfl:=Z
 refine Zy (cA rfl rfl cC rfl b rfl rfl λaq q aa=> ?_)
 replace hB:=Zg hB q I
 replace d:=At.grownAt d b q Dd
 replace a:=At.grownNe a u q
 replace b:=aa
 refine ct<|ZT rfl rfl rfl ?_
 exact x _ _ (k+1) Za ⟨rfl,trivial⟩ ⟨hB,d,a,(by (rw[←Vt (o:=o) (k:=k) l,←hck];exact b)),Om,trivial⟩ Zo
 refine cx<|ZT rfl rfl rfl ?_
 exact x _ _ (k+1) Za ⟨rfl,trivial⟩ ⟨hB,d,a,(by (rw[←O5 (o:=o) (k:=k) l];exact b)),Om,trivial⟩ Zo
 refine cT<|Zr<|Zv (cz rfl cC rfl b)<|Zy (cA rfl rfl cC rfl a rfl rfl λar A ab=> ?_)
 replace hB:=Zg hB A F
 replace b:=At.grownNe b (Ne.symm u) A
 replace a:=ab
 refine ct<|Zt<|jp rfl cC a rfl ⟨hB,?_⟩
 obtain rfl:k=T.ls.length:=by omega
 rfl
set_option maxHeartbeats 4000000 in
theorem sP (T:Tb) (lv:Value) (vs:List CV) (w:World) (hlv:dr il 3 w lv vs) (hls:qo w vs T.ls) (hmb:∀i,i<T.ls.length→(T.ls.getD i jH).c.m<256∧(T.ls.getD i jH).c.v<256):
    Fn Tryz.prog 25 #[.agg #[.int .i64 T.kind, .int .i64 T.ni, .int .i64 T.no,lv]] w λv w'=>(oD T=0∧∃onV mayV,v= .tuple #[.agg #[.int .i64 T.ni,onV,mayV], .int .i64 0]∧cH eX 4 40 w' w.heap.size onV (pR T T.no.toNat)∧cH eX 4 40 w' w.heap.size mayV (ly T T.no.toNat))∨(oD T≠0∧v= .tuple #[.agg #[.int .i64 0, .slice none 0 0, .slice none 0 0], .int .i64 (oD T)]):=by
 refine cK (n:=73) Tryz.func25 rfl rfl rfl λhB=> ?_
 have hle:=hls.len
 refine Zr<|Zy (du (c:= #[_,_,_,_]) rfl rfl λaP W3 bM aQ f=> ?_)
 replace hB:=Ze hB aQ
 refine Zy (cM ww rfl λaR W6 aS aT e=> ?_)
 have Z:=ZO aS hB
 obtain⟨hB,f⟩:=aT.k2 hB f
 refine ZZ rfl<|Zq<|Zr<|Zv (cz rfl dV rfl f)<|ZC (vs:=[.agg #[_,_,_,_]]) Ov (xx _ _ _ _ (Below.slT hB hlv) (qo.below hB hls) pr) rfl λbN bO aU aV=> ?_
 obtain⟨hB,f,e⟩:=aU.k3 hB f e
 obtain rfl:=aV
 refine Zv (eK rfl)<|ct<|ZQ rfl (λaa=> ?_) λaa=> ?_
 refine Zr<|Zv (xo)<|Zy (cA rfl rfl d9 rfl e rfl rfl λbP aW aX=> ?_)
 replace hB:=Zg hB aW Z
 replace e:=aX
 refine ZZ rfl<|Zt<|ex rfl d9 e rfl (v1:= .int .i64 1) rfl ⟨hB,?_⟩
 (rw[Yy (by simpa using aa)];exact .inr ⟨by decide,rfl⟩)
 refine cx ?_
 have hr:fy T=true:=by simpa using aa
 obtain⟨hk0,hk3,hi0,hi8,hno1,hno4,hl64⟩:=iV hr
 have hn8:=JY hr
 obtain⟨no,hno⟩:=ab2 (show 0≤T.no by omega)
 refine Zr<|Zf rfl f6<|Zl rfl cR f rfl<|ZC wO (nQ _ _) rfl λbQ bR aY ay=> ?_
 obtain⟨hB,f,e⟩:=aY.k3 hB f e
 rw[if_pos ⟨hi0,hi8⟩]at ay
 obtain rfl:=ay
 refine Zw (.tuple #[.agg #[_,_,_,_], .int .i64 0]) rfl<|Zv (c7 rfl)<|Zv (da rfl)<|Zy (cM ep rfl λaz aZ a0 a1 j=> ?_)
 have a2:=ZO a0 hB
 obtain⟨hB,f,e⟩:=a1.k3 hB f e
 replace j:At aZ az #[wv 0 0,wv 0 1,wv 0 2,wv 0 3] 40:=j
 refine Zy (cA rfl rfl cC rfl j rfl rfl λbS ab a3=> ?_)
 replace hB:=Zg hB ab a2
 replace f:=At.grownAt f j ab Dd
 replace e:=At.grownAt e j ab Dd
 replace j:=a3
 refine ZZ rfl ?_
 refine qD (σ:=(Nat)) [6,6,22,25] (λD=>[(6, .pointer (some ⟨D,0,none⟩))]) (λW=>(Below w.heap.size w W)∧(At W aP _ 24)∧(At W aR _ 59)∧(At W az _ 40)∧(True)) ⟨hB,f,e,j,trivial⟩ (λD W=>(At W D #[.func (.func (Q1 129 130 128 T.kind)) #[] #[], .bool (decide (2≤T.kind))] 132)∧(w.heap.size≤D)∧(True)) (λbT aA=> ?_) ?_
 refine eR dA fx (λa4 a5=> ?_)
 obtain⟨hB,f,e,j⟩:=a5.k4 hB f e j
 have hS:=dA.refl a4
 refine Tf 1 rfl rfl mz hS<|Tk 2 rfl (λ_ hq=>cD (v:= .int .i64 _) rfl cR (At.cell (hq.at f) rfl)) hS ?_
 refine wx 0 4 jW rfl rfl rfl rfl rfl rfl rfl rfl (Yd.call (RA Ni) (qR _) (λa6 bU ac ad=>⟨.inl (hS.trans ac),?_⟩)) (cM Dn rfl (λD bV a7 ae l=>⟨.inl (hS.trans ae),?_⟩))
 obtain⟨hB,f,e,j⟩:=ac.k4 hB f e j
 replace hS:=hS.trans ac
 obtain rfl:=ad
 refine Tk 3 rfl (λ_ _=>Cm rfl rfl Tryz.underlying133 Tryz.underlying132 jW hk0 hk3) hS<|To 4 rfl (cM Dn rfl λD bW a8 aB l=>⟨.inl (hS.trans aB),?_⟩)
 have M:=ZO a8 hB
 obtain⟨hB,f,e,j⟩:=aB.k4 hB f e j
 refine To 5 rfl (cA rfl rfl G4 rfl l rfl rfl λbX R a9=>⟨.inr jW,?_⟩)
 replace hB:=Zg hB R M
 replace f:=At.grownAt f l R Dd
 replace e:=At.grownAt e l R Dd
 replace j:=At.grownAt j l R Dd
 replace l:=a9
 refine Td ?_
 exact aA _ _ (D) Za ⟨rfl,trivial⟩ ⟨hB,f,e,j,trivial⟩ (by exact⟨(by exact l),M,trivial⟩)
 have M:=ZO a7 hB
 obtain⟨hB,f,e,j⟩:=ae.k4 hB f e j
 replace hS:=hS.trans ae
 refine To 0 rfl (TC Ni (qR _) rfl λa6 bY af ad=>⟨.inl (hS.trans af),?_⟩)
 obtain⟨hB,f,e,j,l⟩:=af.k5 hB f e j l
 replace hS:=hS.trans af
 obtain rfl:=ad
 refine Tk 3 rfl (λ_ _=>Cm rfl rfl Tryz.underlying133 Tryz.underlying132 jW hk0 hk3) hS<|To 5 rfl (cA rfl rfl G4 rfl l rfl rfl λbZ S ba=>⟨.inr jW,?_⟩)
 replace hB:=Zg hB S M
 replace f:=At.grownAt f l S Dd
 replace e:=At.grownAt e l S Dd
 replace j:=At.grownAt j l S Dd
 replace l:=ba
 refine Td ?_
 exact aA _ _ (D) Za ⟨rfl,trivial⟩ ⟨hB,f,e,j,trivial⟩ (by exact⟨(by exact l),M,trivial⟩)
 rintro D b0 r ⟨hB,f,e,j,_⟩ ⟨l,M,_⟩
 have ag:=Below.slT hB hlv
 have ah:=qo.below hB hls
 have U:=hB
 replace hB:=Below.refl r.heap.size r
 refine Zr<|Zf rfl f6<|Zl rfl cR (On hB f) rfl<|Zv (DE (h0:=rfl) (k0:=rfl) (c0_0:= .int .i64 _))<|Zy (cM ww rfl λai b1 bb bc d=> ?_)
 have aj:=ZO bb hB
 replace hB:=Ze hB bc
 refine Zy (cA rfl rfl d9 rfl d rfl rfl λb2 bd bf=> ?_)
 replace hB:=Zg hB bd aj
 replace d:=bf
 refine ct<|Zq<|Zr<|Zf rfl gN<|Zl rfl cR (On hB f) rfl<|ZZ rfl<|cy ?_
 refine cW (σ:=(Nat)×(Value)×(Value)) [3,3,8,11,31,71] (λ(o,onv,mayv)=>[(31, .int .i64 (o:Int))]) (λsg W=>match sg with|(o,onv,mayv)=>(Below r.heap.size r W)∧(At W ai #[.int .i64 T.ni,onv,mayv] 59)∧(cH eX 4 40 W r.heap.size onv (pR T o))∧(cH eX 4 40 W r.heap.size mayv (ly T o))∧(fp onv mayv)∧((o:Int)≤T.no)∧(∀q,q<o→od T q=false)∧(True)) (λ(o,onv,mayv)=>T.no.toNat-o) ((0, .slice none 0 0, .slice none 0 0)) ⟨rfl,trivial⟩ ⟨hB,d,cH.nil,cH.nil,ad0,Om,eO,trivial⟩ ?_
 rintro⟨o,onv,mayv⟩ b3 b4 ⟨hB,d,hon,hmay,hap,ho,hq,_⟩ b5 bg
 refine Zr<|Zv (dq rfl rfl)<|ct<|Zq<|ZQ rfl (λbh=> ?_) λbh=> ?_
 refine cx<|Zq<|cy<|Zr<|Zi rfl<|ZZ rfl<|Zd dA λaC bi=> ?_
 obtain⟨hB,d,hon,hmay⟩:=bi.k4 hB d hon hmay
 have hS:=dA.refl aC
 refine Tk 0 rfl (λ_ hq=>cz rfl dV rfl (hq.at (On hB f))) hS<|Ti 1 rfl rfl hS<|Tk 3 rfl (λ_ hq=>cz rfl dV rfl (hq.at (On hB f))) hS<|Ti 4 rfl rfl hS<|Tk 6 rfl (λ_ hq=>cz rfl dV rfl (hq.at (On hB f))) hS<|Ti 7 rfl rfl hS ?_
 refine Xy (m:=6) (A:=[2,5,8,9,10,11]) (L1:= #[true,true,true,true,true,true,true,true,true,true,true,true,false,false,false]) (T:=[9,11,36,36,39,39,42,42]) (λL g W=>∃t y z:Nat,(dA aC W)∧(Below r.heap.size r W)∧(At W ai _ 59)∧(cH eX 4 40 W r.heap.size onv _)∧(cH eX 4 40 W r.heap.size mayv _)∧((L.getD 2 false=true→g 36=el (oz T o 1)))∧((L.getD 5 false=true→g 39=el (oz T o 0)))∧((L.getD 8 false=true→g 42=el (oz T o 2)))∧((L.getD 9 false=true→g 9= .pointer (some ⟨t,0,none⟩)∧At W t #[wv 0 0,wv 0 1,wv 0 2,wv 0 3] 40∧r.heap.size≤t∧Value.ownBlock onv≠some t∧Value.ownBlock mayv≠some t))∧((L.getD 10 false=true→g 10= .pointer (some ⟨y,0,none⟩)∧At W y #[wv 0 0,wv 0 1,wv 0 2,wv 0 3] 40∧r.heap.size≤y∧Value.ownBlock onv≠some y∧Value.ownBlock mayv≠some y))∧((L.getD 11 false=true→g 11= .pointer (some ⟨z,0,none⟩)∧At W z #[wv 0 0,wv 0 1,wv 0 2,wv 0 3] 40∧r.heap.size≤z∧Value.ownBlock onv≠some z∧Value.ownBlock mayv≠some z))∧((L.getD 9 false=true→L.getD 10 false=true→t≠y))∧((L.getD 9 false=true→L.getD 11 false=true→t≠z))∧((L.getD 10 false=true→L.getD 11 false=true→y≠z))∧(True)) jW ⟨0,0,0,hS,hB,d,hon,hmay,(λh=>Bool.noConfusion (show false=true from h)),(λh=>Bool.noConfusion (show false=true from h)),(λh=>Bool.noConfusion (show false=true from h)),(λh=>Bool.noConfusion (show false=true from h)),(λh=>Bool.noConfusion (show false=true from h)),(λh=>Bool.noConfusion (show false=true from h)),(λh=>Bool.noConfusion (show false=true from h)),(λh=>Bool.noConfusion (show false=true from h)),(λh=>Bool.noConfusion (show false=true from h)),trivial⟩ ?_ ?_
 rintro i hi L g b6 hlt ⟨t,y,z,hS,hB,d,hon,hmay,I,J,K,E,F,G,hn9_10,hn9_11,hn10_11,_⟩
 have hi2:i=2∨i=5∨i=8∨i=9∨i=10∨i=11:=by simpa using hi
 rcases hi2 with rfl|rfl|rfl|rfl|rfl|rfl
 refine⟨_,36,rfl,rfl,rfl,rfl,rfl,?_⟩
 refine Yd.call (DS IM (v0:= .agg #[_,_,_,_]) rfl (v1:= .int .i64 _) rfl (v2:= .int .i64 1) rfl) (pp T _ vs o 1 _ (Below.slT hB ag) (qo.below hB ah) hmb hr Om) (λv W' hE hP=>⟨.inl (hS.trans hE),?_⟩)
 obtain rfl:=hP
 exact⟨t,y,z,hS.trans hE,cX hB hE (am _),hE.at d,hE.ow hon,hE.ow hmay,(λ_=>rfl),(λh=>J (d8 Dd h)),(λh=>K (d8 Dd h)),(λh=>let q:=E (d8 Dd h);⟨q.1,hE.at q.2.1,q.2.2⟩),(λh=>let q:=F (d8 Dd h);⟨q.1,hE.at q.2.1,q.2.2⟩),(λh=>let q:=G (d8 Dd h);⟨q.1,hE.at q.2.1,q.2.2⟩),(λh k=>hn9_10 (d8 Dd h) (d8 Dd k)),(λh k=>hn9_11 (d8 Dd h) (d8 Dd k)),(λh k=>hn10_11 (d8 Dd h) (d8 Dd k)),trivial⟩
 refine⟨_,39,rfl,rfl,rfl,rfl,rfl,?_⟩
 refine Yd.call (DS IM (v0:= .agg #[_,_,_,_]) rfl (v1:= .int .i64 _) rfl (v2:= .int .i64 0) rfl) (pp T _ vs o 0 _ (Below.slT hB ag) (qo.below hB ah) hmb hr Om) (λv W' hE hP=>⟨.inl (hS.trans hE),?_⟩)
 obtain rfl:=hP
 exact⟨t,y,z,hS.trans hE,cX hB hE (am _),hE.at d,hE.ow hon,hE.ow hmay,(λh=>I (d8 Dd h)),(λ_=>rfl),(λh=>K (d8 Dd h)),(λh=>let q:=E (d8 Dd h);⟨q.1,hE.at q.2.1,q.2.2⟩),(λh=>let q:=F (d8 Dd h);⟨q.1,hE.at q.2.1,q.2.2⟩),(λh=>let q:=G (d8 Dd h);⟨q.1,hE.at q.2.1,q.2.2⟩),(λh k=>hn9_10 (d8 Dd h) (d8 Dd k)),(λh k=>hn9_11 (d8 Dd h) (d8 Dd k)),(λh k=>hn10_11 (d8 Dd h) (d8 Dd k)),trivial⟩
 refine⟨_,42,rfl,rfl,rfl,rfl,rfl,?_⟩
 refine Yd.call (DS IM (v0:= .agg #[_,_,_,_]) rfl (v1:= .int .i64 _) rfl (v2:= .int .i64 2) rfl) (pp T _ vs o 2 _ (Below.slT hB ag) (qo.below hB ah) hmb hr Om) (λv W' hE hP=>⟨.inl (hS.trans hE),?_⟩)
 obtain rfl:=hP
 exact⟨t,y,z,hS.trans hE,cX hB hE (am _),hE.at d,hE.ow hon,hE.ow hmay,(λh=>I (d8 Dd h)),(λh=>J (d8 Dd h)),(λ_=>rfl),(λh=>let q:=E (d8 Dd h);⟨q.1,hE.at q.2.1,q.2.2⟩),(λh=>let q:=F (d8 Dd h);⟨q.1,hE.at q.2.1,q.2.2⟩),(λh=>let q:=G (d8 Dd h);⟨q.1,hE.at q.2.1,q.2.2⟩),(λh k=>hn9_10 (d8 Dd h) (d8 Dd k)),(λh k=>hn9_11 (d8 Dd h) (d8 Dd k)),(λh k=>hn10_11 (d8 Dd h) (d8 Dd k)),trivial⟩
 refine⟨_,9,rfl,rfl,rfl,rfl,rfl,?_⟩
 refine cM ep rfl (λb W' hb hE hm=>⟨.inl (hS.trans hE),?_⟩)
 exact⟨b,y,z,hS.trans hE,cX hB hE (am _),hE.at d,hE.ow hon,hE.ow hmay,(λh=>I (d8 Dd h)),(λh=>J (d8 Dd h)),(λh=>K (d8 Dd h)),(λ_=>⟨rfl,hm,hb▸(Below.size hB),acm hon (aaR hb.symm),acm hmay (aaR hb.symm)⟩),(λh=>let q:=F (d8 Dd h);⟨q.1,hE.at q.2.1,q.2.2⟩),(λh=>let q:=G (d8 Dd h);⟨q.1,hE.at q.2.1,q.2.2⟩),(λ_ k=>Nat.ne_of_gt (hb▸(F (d8 Dd k)).2.1.lt)),(λ_ k=>Nat.ne_of_gt (hb▸(G (d8 Dd k)).2.1.lt)),(λh k=>hn10_11 (d8 Dd h) (d8 Dd k)),trivial⟩
 refine⟨_,10,rfl,rfl,rfl,rfl,rfl,?_⟩
 refine cM ep rfl (λb W' hb hE hm=>⟨.inl (hS.trans hE),?_⟩)
 exact⟨t,b,z,hS.trans hE,cX hB hE (am _),hE.at d,hE.ow hon,hE.ow hmay,(λh=>I (d8 Dd h)),(λh=>J (d8 Dd h)),(λh=>K (d8 Dd h)),(λh=>let q:=E (d8 Dd h);⟨q.1,hE.at q.2.1,q.2.2⟩),(λ_=>⟨rfl,hm,hb▸(Below.size hB),acm hon (aaR hb.symm),acm hmay (aaR hb.symm)⟩),(λh=>let q:=G (d8 Dd h);⟨q.1,hE.at q.2.1,q.2.2⟩),(λh _=>Nat.ne_of_lt (hb▸(E (d8 Dd h)).2.1.lt)),(λh k=>hn9_11 (d8 Dd h) (d8 Dd k)),(λ_ k=>Nat.ne_of_gt (hb▸(G (d8 Dd k)).2.1.lt)),trivial⟩
 refine⟨_,11,rfl,rfl,rfl,rfl,rfl,?_⟩
 refine cM ep rfl (λb W' hb hE hm=>⟨.inl (hS.trans hE),?_⟩)
 exact⟨t,y,b,hS.trans hE,cX hB hE (am _),hE.at d,hE.ow hon,hE.ow hmay,(λh=>I (d8 Dd h)),(λh=>J (d8 Dd h)),(λh=>K (d8 Dd h)),(λh=>let q:=E (d8 Dd h);⟨q.1,hE.at q.2.1,q.2.2⟩),(λh=>let q:=F (d8 Dd h);⟨q.1,hE.at q.2.1,q.2.2⟩),(λ_=>⟨rfl,hm,hb▸(Below.size hB),acm hon (aaR hb.symm),acm hmay (aaR hb.symm)⟩),(λh k=>hn9_10 (d8 Dd h) (d8 Dd k)),(λh _=>Nat.ne_of_lt (hb▸(E (d8 Dd h)).2.1.lt)),(λh _=>Nat.ne_of_lt (hb▸(F (d8 Dd h)).2.1.lt)),trivial⟩
 rintro b7 b8 ⟨t,y,z,hS,hB,d,hon,hmay,I,J,K,E,F,G,hn9_10,hn9_11,hn10_11,_⟩
 have bj:=I rfl
 have bk:=J rfl
 have bl:=K rfl
 obtain⟨q9,p,bm,ak,al⟩:=E rfl
 obtain⟨bn,s,bo,aD,aE⟩:=F rfl
 obtain⟨bp,B,bq,aF,aG⟩:=G rfl
 have aH:=hn9_10 rfl rfl
 have aI:=hn9_11 rfl rfl
 have aJ:=hn10_11 rfl rfl
 refine FK (B3 [(36,el (oz T o 1)),(39,el (oz T o 0)),(42,el (oz T o 2)),(9, .pointer (some ⟨t,0,none⟩)),(10, .pointer (some ⟨y,0,none⟩)),(11, .pointer (some ⟨z,0,none⟩))] ⟨bj,bk,bl,q9,bn,bp,trivial⟩) ?_
 refine To 12 rfl (cA rfl rfl cC rfl p rfl rfl λb9 N br=>⟨.inr jW,?_⟩)
 replace hB:=Zg hB N bm
 replace d:=At.grownAt d p N Dd
 replace hon:=ab3 hon ak N
 replace hmay:=ab3 hmay al N
 replace s:=At.grownNe s (Ne.symm aH) N
 replace B:=At.grownNe B (Ne.symm aI) N
 replace p:=br
 refine To 13 rfl (cA rfl rfl cC rfl s rfl rfl λca O bs=>⟨.inr jW,?_⟩)
 replace hB:=Zg hB O bo
 replace d:=At.grownAt d s O Dd
 replace hon:=ab3 hon aD O
 replace hmay:=ab3 hmay aE O
 replace p:=At.grownNe p aH O
 replace B:=At.grownNe B (Ne.symm aJ) O
 replace s:=bs
 refine To 14 rfl (cA rfl rfl cC rfl B rfl rfl λcb P bt=>⟨.inr jW,?_⟩)
 replace hB:=Zg hB P bq
 replace d:=At.grownAt d B P Dd
 replace hon:=ab3 hon aF P
 replace hmay:=ab3 hmay aG P
 replace p:=At.grownNe p aI P
 replace s:=At.grownNe s aJ P
 replace B:=bt
 refine Td ?_
 refine qD (σ:=(Unit)) [3,3,43,52] (λu_=>[]) (λW=>(Below r.heap.size r W)∧(At W ai _ 59)∧(cH eX 4 40 W r.heap.size onv _)∧(cH eX 4 40 W r.heap.size mayv _)∧(fp onv mayv)∧(At W t _ 40)∧(At W y _ 40)∧(At W z _ 40)∧(True)) ⟨hB,d,hon,hmay,hap,p,s,B,trivial⟩ (λu_ W=>(od T o=false)∧(True)) (λcc aK=> ?_) ?_
 refine Zr<|Zf rfl Hu<|ZL (.bool _) rfl Aq (On hB l) rfl<|ZX rfl (λao=> ?_) λao=> ?_
 refine Zv (cz rfl cC rfl p)<|Zv (cz rfl cC rfl s)<|ZC (vs:=[.agg #[_,_,_,_], .agg #[_,_,_,_]]) ud (pH _ _ _) rfl λcd ce bu bv=> ?_
 obtain⟨hB,d,hon,hmay,p,s,B⟩:=bu.k7 hB d hon hmay p s B
 obtain rfl:=bv
 refine Zv (v:=el 0) (gq)<|Zv (OZ rfl rfl)<|Zb rfl<|ct<|ZQ rfl (λap=> ?_) λap=> ?_
 replace e:=On hB e
 have hzs:=go (am _) (Below.size U)
 replace hB:=Below.trans U (Below.mono hB hzs)
 refine Zr<|Zv (xo)<|Zy (cA rfl rfl d9 rfl e rfl rfl λcf bw bx=> ?_)
 replace hB:=Zg hB bw Z
 replace e:=bx
 refine ZZ rfl<|Zt<|ex rfl d9 e rfl (v1:= .int .i64 4) rfl ⟨hB,?_⟩
 (rw[aao (o:=o) hr (by omega) (Uc ao hn8 ap)];exact .inr ⟨by decide,rfl⟩)
 refine cx ?_
 refine aK _ _ (()) ?_ ?_ ?_ ?_
 · repeat (first|exact dC.mask _ _ _|exact dC.refl _ _|refine adc ?_ rfl _|refine ac5 ?_ _ rfl|refine acU rfl ?_)
 · exact trivial
 · exact⟨hB,d,hon,hmay,hap,p,s,B,trivial⟩
 · exact⟨(Sg hn8 ap),trivial⟩
 refine Zs<|Zs<|Zs<|Zs<|Zs<|Zb rfl<|ct<|dE rfl<|cx ?_
 refine aK _ _ (()) ?_ ?_ ?_ ?_
 · repeat (first|exact dC.mask _ _ _|exact dC.refl _ _|refine adc ?_ rfl _|refine ac5 ?_ _ rfl|refine acU rfl ?_)
 · exact trivial
 · exact⟨hB,d,hon,hmay,hap,p,s,B,trivial⟩
 · exact⟨(JJ ao),trivial⟩
 rintro u_ cg ch ⟨hB,d,hon,hmay,hap,p,s,B,_⟩ ⟨hcf,_⟩
 refine eR (λa b=>x7 onv.ownBlock mayv.ownBlock a b) fx (λaL bz=> ?_)
 obtain⟨hB,d,hon,hmay,p,s,B⟩:=bz.k7 hB d hon hmay p s B
 have V:=hon
 have X:=hmay
 have hS:x7 onv.ownBlock mayv.ownBlock aL aL:=x7.refl
 refine Tf 0 rfl rfl fw hS<|Tk 1 rfl (λ_ hq=>cD (v:=onv) rfl eh (At.cell (adU d hq (qg V d Dd) (qg X d Dd)) rfl)) hS<|Tk 2 rfl (λ_ hq=>cz rfl cC rfl (adU p hq (Ne.symm ak) (Ne.symm al))) hS<|Tf 5 rfl rfl fE hS<|Tk 6 rfl (λ_ hq=>cD (v:=mayv) rfl eh (At.cell (adU d hq (qg V d Dd) (qg X d Dd)) rfl)) hS<|Tf 7 rfl rfl HQ hS<|Tk 8 rfl (λ_ hq=>cD (v:= .func (.func (Q1 129 130 128 T.kind)) #[] #[]) rfl N7 (At.cell (On (Ci hB hq (am _) (cH.lt V) (cH.lt X)) l) rfl)) hS<|Tk 9 rfl (λ_ hq=>cz rfl cC rfl (On (Ci hB hq (am _) (cH.lt V) (cH.lt X)) j)) hS<|Tk 10 rfl (λ_ hq=>cz rfl cC rfl (adU p hq (Ne.symm ak) (Ne.symm al))) hS<|Tk 11 rfl (λ_ hq=>cz rfl cC rfl (adU s hq (Ne.symm aD) (Ne.symm aE))) hS<|Tk 12 rfl (λ_ hq=>cz rfl cC rfl (adU B hq (Ne.symm aF) (Ne.symm aG))) hS<|To 3 rfl (ez (u:= .agg #[_,_,_,_]) rfl dQ qe rfl Dd Dd λbA ci cj aq bB=>⟨.inl (x7.ext hS aq),?_⟩)
 obtain⟨hB,d,hon,hmay⟩:=aq.k4 hB d hon hmay
 replace hS:=x7.ext hS aq
 refine To 4 rfl (jh (v:=onv) (v2:= .slice (some ⟨bA,0,none⟩) 1 1) rfl rfl dQ qe Dd hon (eJ bB rfl) rfl (m3 hB) R7 R7 λaM ck Q C bC=>⟨.inl (x7.one hS Q),?_⟩)
 replace hS:=x7.one hS Q
 have aN:=fp.app hap bC hmay
 replace C:=cH.snoc (enc:=eX) (x:=(oz T o 1)) rfl rfl rfl rfl C
 replace hB:=ZG hB Q hon
 replace d:=At.grownOw d hon Q Dd
 replace hmay:=cH.grownAp hmay hap Q
 refine Tf 16 rfl rfl fw hS<|To 13 rfl (Yd.call (iu (q:=(Q1 129 130 128 T.kind)) (first:= #[]) (cap:= #[]) (vs:= #[.agg #[_,_,_,_], .agg #[_,_,_,_], .agg #[_,_,_,_], .agg #[_,_,_,_]]) rfl (QH T.kind) Hh) (abE T.kind _ _ _ _ _) λcl cm ar bD=>⟨.inl (x7.ext hS ar),?_⟩)
 obtain⟨hB,d,hmay,C⟩:=ar.k4 hB d hmay C
 replace hS:=x7.ext hS ar
 obtain rfl:=bD
 refine To 14 rfl (ez (u:= .agg #[_,_,_,_]) rfl dQ qe rfl Dd Dd λbE cn co au bF=>⟨.inl (x7.ext hS au),?_⟩)
 obtain⟨hB,d,hmay,C⟩:=au.k4 hB d hmay C
 replace hS:=x7.ext hS au
 refine To 15 rfl (jh (v:=mayv) (v2:= .slice (some ⟨bE,0,none⟩) 1 1) rfl rfl dQ qe Dd hmay (eJ bF rfl) rfl (m3 hB) R7 R7 λaO cp Y H bG=>⟨.inl (x7.two hS Y),?_⟩)
 have bH:=fp.app (fp.symm aN) bG C
 replace H:=cH.snoc (enc:=eX) (x:=(BH T o)) rfl rfl rfl rfl H
 replace hB:=ZG hB Y hmay
 replace d:=At.grownOw d hmay Y Dd
 replace C:=cH.grownAp C (fp.symm aN) Y
 refine To 17 rfl (de (v:=aM) rfl rfl eh (dr.one C.sl) d fF λcq av bI=>⟨.inr jW,?_⟩)
 replace hB:=Zg hB av aj
 replace C:=cH.grownAt C d av Dd
 replace H:=cH.grownAt H d av Dd
 replace d:=bI
 replace d:At _ _ #[_,_,_] _:=d
 refine iZ (dd:=some 70) 18 jW rfl rfl rfl rfl (Yd.val (rR rfl fE) ⟨.inr jW,?_⟩)
 refine To 19 rfl (de (v:=aO) rfl rfl eh (dr.one H.sl) d fF λcr aw bJ=>⟨.inr jW,?_⟩)
 replace hB:=Zg hB aw aj
 replace C:=cH.grownAt C d aw Dd
 replace H:=cH.grownAt H d aw Dd
 replace d:=bJ
 replace d:At _ _ #[_,_,_] _:=d
 refine Td<|ZT rfl rfl rfl ?_
 exact bg _ _ ((o+1,aM,aO)) Za ⟨rfl,trivial⟩ ⟨hB,(by exact d),(by rw[Lu];exact C),(by rw[HH];exact H),(fp.symm bH),Om,(dT hq hcf),trivial⟩ (by show T.no.toNat-(o+1)<T.no.toNat-o;omega)
 refine cT ?_
 replace e:=On hB e
 have hzs:=go (am _) (Below.size U)
 replace hon:=cH.mono hon hzs
 replace hmay:=cH.mono hmay hzs
 replace hB:=Below.trans U (Below.mono hB hzs)
 refine Zr<|Zv (cz rfl d9 rfl d)<|Zy (cA rfl rfl d9 rfl e rfl (by exact rB (dr.one (cH.sl hon)) (dr.one (cH.sl hmay))) λcs ax bK=> ?_)
 replace hB:=Zg hB ax Z
 replace hon:=cH.grownAt hon e ax Dd
 replace hmay:=cH.grownAt hmay e ax Dd
 replace e:=bK
 refine ZZ rfl<|Zt<|ex rfl d9 e rfl (v1:= .int .i64 0) rfl ⟨hB,?_⟩
 (have bL:o=T.no.toNat:=(by omega);subst bL;exact .inl ⟨Qu hr hq,onv,mayv,rfl,hon,hmay⟩)
end
section
section
variable {P:Program} {f:Nat→Value} {w w':World} {d:Option Nat} {ty:TypeId} {ps:String} {af:Array Edge} {g:Option (Nat×Bool)} {x y:Operand}
variable {t:TypeId} {v u:Value} {T e:TypeId} {K:Value→World→Prop} {sz by_ N:Nat}
variable {α:Type} {enc:α→List Value} {l:List α}
theorem LW (he:∀a,(enc a).length=sz) {a dd:α} (hk:k<l.length) (hr:r<sz) (hu:enc a=(enc (l.getD k dd)).set r u):
  (l.set k a).flatMap enc=(l.flatMap enc).take (k*sz+r)++[u]++(l.flatMap enc).drop (k*sz+r+1):=by
 have hle:k*sz+sz≤l.length*sz:=by rw[←Nat.succ_mul];exact ab6 _ hk
 have hfl:=mI he l
 have e0:l.set k (l.getD k dd)=l:=by
  rw[Do,th hk]
  simp
 have e1:=vV he (l.getD k dd) l k hk
 rw[e0]at e1
 rw[vV he a l k hk,hu]
 have hq:(l.flatMap enc).take (k*sz+r)++[u]++(l.flatMap enc).drop (k*sz+r+1)=(l.flatMap enc).set (k*sz+r) u:=by
  rw[List.set_eq_take_append_cons_drop,if_pos (by omega),ab7];rfl
 rw[hq]
 have hA:((l.flatMap enc).take (k*sz)).length=k*sz:=by rw[aaX];omega
 grind
theorem PU {a dd:α} {j:Int} {r:Nat} (hx:dm f x= .pointer (some ⟨Bx v,Gk v+j.toNat*sz+r,none⟩)) (hy:dm f y=u) (hT:eN P t=true) (he:∀a,(enc a).length=sz)
  (h1:u.oneCell'=true) (hr:r<sz) (hu:enc a=(enc (l.getD j.toNat dd)).set r u) (ho:cH enc sz e w N v l) (h0:0≤j) (hj:j<l.length)
  (hK:∀w',w.grownBy w' v.ownBlock→cH enc sz e w' N v (l.set j.toNat a)→K undef w'):Yd P ⟨d, .store t x y,ty,ps,af,g⟩ f w K:=by
 obtain⟨hl,hor⟩:=ho
 rcases hor with ⟨_,h⟩|⟨q,cap,cur,rfl,hg,hh,hnc,hcm,hcs,ht⟩
 ·omega
 have hle:l.length*sz≤cap*sz:=ab6 _ hnc
 have hjs:j.toNat*sz+sz≤l.length*sz:=by rw[←Nat.succ_mul];exact ab6 _ (by omega)
 have hst:=run_storeCells_at P q (j.toNat*sz+r) e [u] 0 cur w hh ix (λv h=>by simp at h;subst h;exact h1)
 rw[ac7]at hst
 have hw:=CL (N:=N) (e:=e) (o:=j.toNat*sz+r) (new:=[u]) hl hg hh hnc hcm hcs ht ix
 have hgr:∀r,w.grownBy (w.setRow q r) (some q):=λr=>⟨rfl,rfl,rfl,by simp,λk _ hk=>setRow_other w q k r (λe=>hk DG)⟩
 refine .skip (w':=w.setRow q (cur.toList.take (j.toNat*sz+r)++[u]++cur.toList.drop (j.toNat*sz+r+1)).toArray) ?_ (hK _ (hgr _) ?_)
 ·have h2:=congrFun (nx hT).2 w
  have hcs1:u.cells= #[u]:=by cases u<;>first|rfl|simp[Value.oneCell']at h1
  have hcs2:(storeVar t ⟨q,j.toNat*sz+r,none⟩ u).run P w= .ok () (w.setRow q (cur.toList.take (j.toNat*sz+r)++[u]++cur.toList.drop (j.toNat*sz+r+1)).toArray):=by
   simp only[acf]at hst
   simp[storeVar,h2,hcs1,hst]
  have hx':dm f x= .pointer (some ⟨q,j.toNat*sz+r,none⟩):=by rw[hx];simp[Bx,Gk]
  simp[execOp,hx',hy,Instr.storeAt,Instr.sureAddr,hcs2]
 all_goals grind [cH,List.length_set,LW]
theorem H0 {xs:List Value} (hx:dm f x=v) (hs:Sl w0 sz v n xs) (hT:fj P t=some (e,sz,by_)) (hi:dm f xi= .int ki i) (h0:0≤i) (h1:i≤n):
  (execOp (dm f) ⟨d, .slice t x (some xi) none none,ty,ps,af,g⟩).run P w= .ok (.value (fY sz v i.toNat n (jn v))) w:=by
 obtain⟨hv,hn,_,_⟩:=hs.eqv
 unfold fj at hT
 cases hu:P.underlying t with
 |none=>simp[hu]at hT
 |some desc=>
  cases desc<;>simp[hu]at hT
  obtain⟨i',hi',rfl,rfl,rfl⟩:=hT
  unfold fY
  rw[hv]at hx
  generalize EM v=A at*
  generalize jn v=C at*
  simp[execOp,hx,hi,Instr.sliceAt,Instr.slice,run_underlying hu,Instr.sliceBounds,Instr.sliceBound,asIntOf,sizeOf,typeInfo,hi',h0,h1]
theorem Hl {xs:List Value} (hx:dm f x=v) (hs:Sl w0 sz v n xs) (hT:fj P t=some (e,sz,by_)) (hj:dm f xj= .int kj j) (h0:0≤j) (h1:j≤jn v):
  (execOp (dm f) ⟨d, .slice t x none (some xj) none,ty,ps,af,g⟩).run P w= .ok (.value (fY sz v 0 j.toNat (jn v))) w:=by
 obtain⟨hv,hn,_,_⟩:=hs.eqv
 unfold fj at hT
 cases hu:P.underlying t with
 |none=>simp[hu]at hT
 |some desc=>
  cases desc<;>simp[hu]at hT
  obtain⟨i',hi',rfl,rfl,rfl⟩:=hT
  unfold fY
  rw[hv]at hx
  generalize EM v=A at*
  generalize jn v=C at*
  have hC:j≤(C:Int):=h1
  simp[execOp,hx,hj,Instr.sliceAt,Instr.slice,run_underlying hu,Instr.sliceBounds,Instr.sliceBound,asIntOf,sizeOf,typeInfo,hi',h0,hC]
theorem IV (he:∀a,(enc a).length=sz) (hone:(l.flatMap enc).all Value.oneCell'=true) (hx:dm f x=fY sz v 0 i (jn v)) (hy:dm f y=fY sz v j l.length (jn v)) (hT:fj P t=some (e,sz,by_))
  (ho:cH enc sz e w N v l) (hij:i≤j) (hj:j≤l.length) (hi:i<l.length)
  (hK:∀v' w',w.grownBy w' v.ownBlock→cH enc sz e w' N v' (l.take i++l.drop j)→v'.ownBlock=v.ownBlock→K v' w'):Yd P ⟨d, .call ⟨.builtin .append,#[x,y],#[t,t]⟩,ty,ps,af,g⟩ f w K:=by
 unfold fj at hT
 cases hun:P.underlying t with
 |none=>simp[hun]at hT
 |some desc=>
  cases desc<;>simp[hun]at hT
  rename_i e'
  obtain⟨i',hi',rfl,h1,rfl⟩:=hT
  subst h1
  have ho0:=ho
  obtain⟨hl,hor⟩:=ho
  rcases hor with ⟨_,h⟩|⟨q,cap,cur,rfl,hg,hh,hnc,hcm,hcs,ht⟩
  ·omega
  have hle:l.length*i'.size≤cap*i'.size:=ab6 _ hnc
  have hfl:=mI he (l.drop j)
  have hft:=mI he (l.take i)
  have hll:=mI he l
  have hxe:dm f x= .slice (some ⟨q,0,none⟩) i cap:=by
   rw[hx]
   have hc0:¬cap=0:=by omega
   simp[fY,EM,jn,hc0,Addr.add]
  obtain⟨a,hye,hac⟩:∃a:Addr,dm f y= .slice (some a) (l.length-j) (cap-j)∧(j<l.length→a=⟨q,j*i'.size,none⟩):=by
   rw[hy]
   by_cases e:cap=j
   ·exact⟨⟨q,0,none⟩,by simp[fY,EM,jn,e],λh=>by omega⟩
   ·exact⟨⟨q,j*i'.size,none⟩,by
     show Value.slice (if cap=j then some ⟨q,0,none⟩else (some (⟨q,0,none⟩:Addr)).map (·.add (j*i'.size))) (l.length-j) (cap-j)=_
     rw[if_neg e,Option.map_some,iw,acA],λ_=>rfl⟩
  have hnews:∀k u,((l.drop j).flatMap enc)[k]? =some u→w.cell? (a.add k)=some u:=λk u hu=>by
   have hlt:k<((l.drop j).flatMap enc).length:=(acS.1 hu).1
   have hjl:j<l.length:=Classical.byContradiction λhn=>by
    rw[List.drop_eq_nil_of_le (by omega)]at hlt
    simp at hlt
   rw[hac hjl,iw]
   have hs:=ho0.sl
   have hc:=Sl.cell hs (j*i'.size+k) u (by rw[←List.getElem?_drop,←s8 he];exact hu)
   simpa [Bx,Gk] using hc
  have hone2:∀u∈(l.drop j).flatMap enc,u.oneCell'=true:=λu hu=>by
   rw[s8 he]at hu
   exact aa1.1 hone u (List.mem_of_mem_drop hu)
  have hmul:(i+(l.length-j))*i'.size≤l.length*i'.size:=ab6 _ (by omega)
  rw[act]at hmul
  have hdl:((l.drop j).flatMap enc).length=(l.length-j)*i'.size:=by rw[hfl,aci]
  have hr:=run_append_room (P:=P) w t ty e' i' hun hi' q i cap cur hh a (l.length-j) (cap-j) ((l.drop j).flatMap enc) hdl hnews hone2 (by omega) (by rw[hdl,hcs];omega)
  refine .val (v:= .slice (some ⟨q,0,none⟩) (i+(l.length-j)) cap) (w':=w.setRow q (cur.toList.take (i*i'.size)++(l.drop j).flatMap enc++cur.toList.drop (i*i'.size+((l.drop j).flatMap enc).length)).toArray) ?_
   (hK _ _ ⟨rfl,rfl,rfl,by simp,λk _ hk=>setRow_other w q k _ (λe=>hk (by rw[e];rfl))⟩ ?_ rfl)
  ·simp[execOp,resolve,invoke,builtin,hxe,hye,hr]
  ·have hlen2:(l.take i++l.drop j).length=i+(l.length-j):=by rw[An,aaX,aci];omega
   unfold cH
   rw[hlen2]
   refine⟨by rw[mI he,hlen2], .inr ⟨q,cap,_,rfl,hg,setRow_heap w q cur _ e' (0,0) hh,by omega,hcm,by simp only[List.size_toArray,An,aaX,aci,adt,hdl];omega,?_⟩⟩
   rw[List.flatMap_append,tm he,←ht,List.take_take]
   have e1:min (i*i'.size) (l.length*i'.size)=i*i'.size:=adm (by omega)
   have e2:(cur.toList.take (i*i'.size)).length=i*i'.size:=by rw[aaX,adt];omega
   rw[e1]
   have e3:(i+(l.length-j))*i'.size=(cur.toList.take (i*i'.size)++(l.drop j).flatMap enc).length:=by rw[An,e2,hdl,act]
   rw[e3]
   exact List.take_left
end
end
section
open Go Go.RowKit Go.ChangeShapes Go.WideShapes Go.ChangeAt Go.Joins Go.Deep
def encV (v:Value):List Value:=[v]
theorem fZ (v:Value):(encV v).length=1:=rfl
structure LL (w:World) (vs:List Value) (L:List (List Int)):Prop where
 len:vs.length=L.length
 get:∀k,k<L.length→dr dX 1 w (vs.getD k undef) (L.getD k [])
end
section
def pZ (cols:Int) (l:List Int):Bool:=(List.range l.length).all λk=>decide (0≤l.getD k 0)&&(decide (l.getD k 0<cols)&&decide (0<k→l.getD (k-1) 0<l.getD k 0))
theorem jD {cols:Int}:pZ cols l=true↔∀k,k<l.length→0≤l.getD k 0∧l.getD k 0<cols∧(0<k→l.getD (k-1) 0<l.getD k 0):=by
 unfold pZ
 grind
def dR (cols:Int) (L:List (List Int)):Bool:=decide (0≤cols)&&(decide (cols≤4000)&&L.all (pZ cols))
theorem fz {cols:Int}:dR cols L=true↔0≤cols∧cols≤4000∧∀i,i<L.length→pZ cols (L.getD i [])=true:=by
 unfold dR
 rw[so,so,decide_eq_true_eq,decide_eq_true_eq,aa1]
 constructor
 ·rintro⟨h1,h2,h3⟩;exact⟨h1,h2,λi hi=>h3 _ (dF hi)⟩
 ·rintro⟨h1,h2,h3⟩
  refine⟨h1,h2,λx hx=> ?_⟩
  obtain⟨k,hk,rfl⟩:=fh (d:=[]) hx
  exact h3 k hk
def As (l:List Int):Nat→Int
 |0=> -1
 |k+1=>l.getD k 0
theorem xm (l:List Int):As l 0= -1:=rfl
theorem xI (l:List Int) (k:Nat):As l (k+1)=l.getD k 0:=rfl
theorem UO {cols:Int} (hi:i<L.length) (hk:k<(L.getD i []).length) (hb:∀q,q<k→0≤(L.getD i []).getD q 0) (h:(L.getD i []).getD k 0≤As (L.getD i []) k∨cols≤(L.getD i []).getD k 0):Value.bool false= .bool (dR cols L):=x8 λhr=>by
 obtain⟨h1,h2,h3⟩:=jD.1 ((fz.1 hr).2.2 i hi) k hk
 rcases h with h|h
 ·cases k with
  |zero=>rw[xm]at h;omega
  |succ k=>
   have:=h3 (by omega)
   rw[xI]at h
   simp only[acN]at this
   omega
 ·omega
theorem St {cols:Int} (h:∀q,q<k→0≤l.getD q 0∧l.getD q 0<cols∧(0<q→l.getD (q-1) 0<l.getD q 0)) (h1:¬l.getD k 0≤As l k) (h2:¬cols≤l.getD k 0):
  ∀q,q<k+1→0≤l.getD q 0∧l.getD q 0<cols∧(0<q→l.getD (q-1) 0<l.getD q 0):=dT h (by
 cases k with
 |zero=>rw[xm]at h1;exact⟨by omega,by omega,λh=>by omega⟩
 |succ k=>
  have:=h k (by omega)
  rw[xI]at h1
  exact⟨by omega,by omega,λ_=>by simp only[acN];omega⟩)
theorem abK {cols:Int} (h0:0≤cols) (h:∀i,i<L.length→pZ cols (L.getD i [])=true):Value.bool (decide (cols≤4000))= .bool (dR cols L):=congrArg Value.bool (by
 rw[acb,fz,decide_eq_true_eq]
 exact⟨λhc=>⟨h0,hc,h⟩,λhc=>hc.2.1⟩)
theorem abA {cols:Int} (h0:¬0≤cols):Value.bool false= .bool (dR cols L):=by grind [x8,fz]
def qy (L:List (List Int)) (cols:List Int):Bool:=L.all λl=>l.any λc=>decide (c∈cols)
theorem F9 {cols:List Int}:qy L cols=true↔∀i,i<L.length→∃c,c∈L.getD i []∧c∈cols:=by
 unfold qy
 rw[aa1]
 constructor
 ·intro h i hi
  have:=h _ (dF (d:=[]) hi)
  rw[acC]at this
  obtain⟨c,h1,h2⟩:=this
  exact⟨c,h1,of_decide_eq_true h2⟩
 ·intro h l hl
  obtain⟨k,hk,rfl⟩:=fh (d:=[]) hl
  grind
end
section
section
variable {P:Program} {f:Nat→Value} {w:World} {d:Option Nat} {ty:TypeId} {ps:String} {af:Array Edge} {g:Option (Nat×Bool)} {x y:Operand} {t t2:TypeId} {a:Int}
theorem Wv (hx:dm f x= .int .i64 a) (hy:dm f y= .int .u64 8) (h0:0≤a):(execOp (dm f) ⟨d, .binOp .shr t x y t2,ty,ps,af,g⟩).run P w= .ok (.value (.int .i64 (a/256))) w:=by
 obtain⟨m,rfl⟩:=ab2 h0
 rw[ra hx hy (by omega) (by decide)]
 simp
theorem Qq (h:dm f x= .int .i64 a) (hs:P.underlying t=some desc) (ht:P.underlying t2=some (.int .u8)):
  (execOp (dm f) ⟨d, .convert t t2 x,ty,ps,af,g⟩).run P w= .ok (.value (.int .u8 (a%256))) w:=by
 rw[NK h hs ht]
 rfl
end
theorem uS {α:Type} [DecidableEq α] {l:List α} {k:α} (h:(iN (fC l) k).getD false=true):k∈l:=by
 rw[mU,decide_eq_true_eq]at h;exact h
theorem rE {α:Type} [DecidableEq α] {l:List α} {k:α} (h:(iN (fC l) k).getD false=false):k∉l:=by
 grind [mU,decide_eq_false_iff_not]
structure LO (T:TypeId) (N:Nat) (w:World) (vs:List Value) (L:List (List Int)):Prop where
 len:vs.length=L.length
 get:∀k,k<L.length→cH dX 1 T w N (vs.getD k undef) (L.getD k [])
section
variable {T:TypeId} {N:Nat} {w w':World} {vs:List Value} {L:List (List Int)}
theorem LO.nil:LO T N w [] []:=⟨rfl,λk hk=>by cases hk⟩
theorem LO.ll (h:LO T N w vs L):LL w vs L:=⟨h.len,λk hk=>(h.get k hk).sl⟩
theorem LO.ext (h:dA w w') (k:LO T N w vs L):LO T N w' vs L:=⟨k.len,λi hi=>h.ow (k.get i hi)⟩
instance {w w':World}:Kp w w' (LO T N w vs L) (LO T N w' vs L):=⟨LO.ext⟩
theorem LO.mono (k:LO T N w vs L) (h:N'≤N):LO T N' w vs L:=⟨k.len,λi hi=>(k.get i hi).mono h⟩
theorem LO.grownAt (k:LO T N w vs L) (hm:At w b c T') (hG:w.grownBy w' (some b)) (hT:T'≠T):LO T N w' vs L:=⟨k.len,λi hi=>(k.get i hi).grownAt hm hG hT⟩
theorem LO.grownMap {α β:Type} {enc:α→Value} {encV:β→Value} {b:Nat} {l:List (α×β)} (k:LO T N w vs L) (hm:dy enc encV w b l) (hG:w.grownBy w' (some b)):LO T N w' vs L:=⟨k.len,λi hi=>(k.get i hi).grownMap hm hG⟩
theorem LO.grownOw {α:Type} {enc:α→List Value} {sz N':Nat} {T':TypeId} {v:Value} {l:List α} (k:LO T N w vs L) (h:cH enc sz T' w N' v l) (hG:w.grownBy w' v.ownBlock) (hT:T'≠T):LO T N w' vs L:=⟨k.len,λi hi=>(k.get i hi).grownOw h hG hT.symm⟩
theorem LO.one (k:LO T N w vs L):∀v,v∈vs→Value.oneCell' v=true:=λv hv=>by
 obtain⟨j,hj,e⟩:=fh (d:=undef) hv
 have h:=(k.get j (by rw[←k.len];exact hj)).sl
 rw[e]at h
 obtain⟨h1,_⟩:=Sl.eqv h
 rw[h1];rfl
theorem F7 (h:∀v,v∈vs→Value.oneCell' v=true):(((vs.drop i).take j).flatMap encV).all Value.oneCell'=true:=by
 grind [List.all_eq_true,encV,List.mem_of_mem_drop,List.mem_of_mem_take]
theorem LO.below (h:Below w.heap.size w W) (k:LO T N w vs L):LO T N W vs L:=⟨k.len,λi hi=>Below.ow h (k.get i hi)⟩
theorem Ko {α:Type} (l:List α) (x d:α) {i:Nat} (j:Nat) (hi:i≤l.length):(l.take i++([x]++l.drop i)).getD j d=if j<i then l.getD j d else if j=i then x else l.getD (j-1) d:=by
 grind
theorem LO.put (k:LO T N w vs L) (h:cH dX 1 T w N v l) (hi:i≤L.length):LO T N w (vs.take i++([v]++vs.drop i)) (L.take i++([l]++L.drop i)):=by
 have hl:=k.len
 refine⟨by simp[hl],λj hj=> ?_⟩
 rw[Ko _ _ _ _ (by omega),Ko _ _ _ _ hi]
 have hj2:j<L.length+1:=by
  rw[An,An,aci,aaX,acf]at hj
  omega
 by_cases h1:j<i
 ·rw[if_pos h1,if_pos h1];exact k.get j (by omega)
 ·rw[if_neg h1,if_neg h1]
  by_cases h2:j=i
  ·rw[if_pos h2,if_pos h2];exact h
  ·rw[if_neg h2,if_neg h2];exact k.get (j-1) (by omega)
theorem LO.snoc (k:LO T N w vs L) (h:cH dX 1 T w N v l):LO T N w (vs++[v]) (L++[l]):=by
 have hp:=k.put (i:=L.length) h (am _)
 rw[←k.len,aaY,List.drop_length,acw,k.len,aaY,List.drop_length,acw]at hp
 exact hp
end
end
section
def qL:List Int→List Int→Bool
 |a::aq,b::bs=>if a=b then qL aq bs else decide (a<b)
 |_,_=>false
theorem J6:∀a:List Int,qL a a=false
 |[]=>rfl
 |a::aq=>by rw[qL,if_pos rfl];exact J6 aq
theorem B8:∀a b c:List Int,qL a b=true→qL b c=true→qL a c=true
 |[],b,c,h,_=>by cases b<;>simp[qL]at h
 |a::aq,[],c,h,_=>by simp[qL]at h
 |a::aq,b::bs,[],_,h=>by simp[qL]at h
 |a::aq,b::bs,c::cs,h1,h2=>by
  rw[qL]at h1 h2 ⊢
  by_cases e1:a=b
  ·subst e1
   rw[if_pos rfl]at h1
   by_cases e2:a=c
   ·subst e2
    rw[if_pos rfl]at h2 ⊢
    exact B8 aq bs cs h1 h2
   ·rw[if_neg e2]at h2 ⊢;exact h2
  ·rw[if_neg e1,decide_eq_true_eq]at h1
   by_cases e2:b=c
   ·subst e2
    rw[if_neg e1,decide_eq_true_eq];exact h1
   ·rw[if_neg e2,decide_eq_true_eq]at h2
    rw[if_neg (by omega),decide_eq_true_eq];omega
theorem CN:∀a b:List Int,a.length=b.length→a≠b→qL a b=true∨qL b a=true
 |[],[],_,h=>absurd rfl h
 |[],b::bs,h,_=>by simp at h
 |a::aq,[],h,_=>by simp at h
 |a::aq,b::bs,h,hne=>by
  rw[qL,qL]
  by_cases e:a=b
  ·subst e
   rw[if_pos rfl,if_pos rfl]
   exact CN aq bs (by simpa using h) (λe=>hne DG)
  ·rw[if_neg e,if_neg (λh=>e h.symm),decide_eq_true_eq,decide_eq_true_eq];omega
theorem NQ:∀(a b:List Int) (k:Nat),a.length=b.length→k<a.length→(∀q,q<k→a.getD q 0=b.getD q 0)→a.getD k 0≠b.getD k 0→qL a b=decide (a.getD k 0<b.getD k 0)
 |[],_,k,_,h,_,_=>by simp at h
 |a::aq,[],k,h,_,_,_=>by simp at h
 |a::aq,b::bs,0,h,h1,h2,h3=>by
  rw[qL,if_neg (by simpa using h3)];rfl
 |a::aq,b::bs,k+1,h,h1,h2,h3=>by
  have e:a=b:=by simpa using h2 0 (by omega)
  rw[qL,if_pos e,NQ aq bs k (by simpa using h) (by simpa using h1) (λq hq=>by simpa using h2 (q+1) (by omega)) (by simpa using h3)]
  simp
theorem Cu:∀(a b:List Int),a.length=b.length→(∀q,q<a.length→a.getD q 0=b.getD q 0)→a=b
 |[],[],_,_=>rfl
 |[],b::bs,h,_=>by simp at h
 |a::aq,[],h,_=>by simp at h
 |a::aq,b::bs,h,h1=>by
  have e:a=b:=by simpa using h1 0 fF
  rw[e,Cu aq bs (by simpa using h) (λq hq=>by simpa using h1 (q+1) (by simpa using hq))]
def fR (a b:List Int):Bool:=decide (a.length<b.length)||(decide (a.length=b.length)&&qL a b)
theorem UJ (h:a.length<b.length):fR a b=true:=by grind [fR,decide_eq_true]
theorem YM (h:b.length<a.length):fR a b=false:=by
 grind [fR,decide_eq_false]
theorem JH (h:a.length=b.length):fR a b=qL a b:=by
 grind [fR,decide_eq_false,decide_eq_true]
theorem X9 (h:a.length≠b.length):fR a b=decide (a.length<b.length):=by
 unfold fR;rw[decide_eq_false h,acs,adq]
theorem Pb (a:List Int):fR a a=false:=by rw[JH rfl,J6]
theorem y9 (h1:fR a b=true) (h2:fR b c=true):fR a c=true:=by
 grind [Nat.lt_trichotomy,UJ,YM,JH,B8]
theorem GP (h:a≠b):fR a b=true∨fR b a=true:=by
 grind [Nat.lt_trichotomy,UJ,JH,CN]
theorem PJ (h:fR a b=true):fR b a=false:=aaT.2 λk=>by
 have:=y9 h k
 rw[Pb]at this;cases this
def tM:List (List Int)→List Int→List (List Int)
 |[],r=>[r]
 |x::xs,r=>if fR x r then x::tM xs r else r::x::xs
theorem Nm:∀(L:List (List Int)) (r:List Int) (i:Nat),i≤L.length→(∀q,q<i→fR (L.getD q []) r=true)→(i<L.length→fR (L.getD i []) r=false)→L.take i++([r]++L.drop i)=tM L r
 |[],r,i,h,_,_=>by
  obtain rfl:i=0:=by simpa using h
  rfl
 |x::xs,r,0,_,_,h=>by
  have h0:fR x r=false:=by simpa using h fF
  rw[tM,h0];rfl
 |x::xs,r,i+1,hi,h1,h2=>by
  have h0:fR x r=true:=by simpa using h1 0 (by omega)
  rw[tM,if_pos h0,←Nm xs r i (by simpa using hi) (λq hq=>by simpa using h1 (q+1) (by omega)) (λh=>by simpa using h2 (by simpa using h))]
  rfl
theorem PR (L:List (List Int)) (r:List Int):(tM L r).length=L.length+1:=by
 induction L with
 |nil=>rfl
 |cons x xs ih=>
  rw[tM]
  split
  ·rw[aaW,ih];rfl
  ·rfl
theorem zD:x∈tM L r↔x∈L∨x=r:=by
 induction L with
 |nil=>simp[tM]
 |cons y ys ih=>
  rw[tM]
  split
  ·rw[ab9,ih,ab9,or_assoc]
  ·simp only[ab9]
   constructor
   ·rintro(h|h|h)
    ·exact .inr h
    ·exact .inl (.inl h)
    ·exact .inl (.inr h)
   ·rintro((h|h)|h)
    ·exact .inr (.inl h)
    ·exact .inr (.inr h)
    ·exact .inl h
def Up (L:List (List Int)):Prop:=L.Pairwise λa b=>fR a b=true
theorem SM (h:Up L) (hr:r∉L):Up (tM L r):=by
 induction L with
 |nil=>exact List.pairwise_singleton _ _
 |cons y ys ih=>
  obtain⟨h1,h2⟩:=adg.1 h
  rw[tM]
  split
  ·rename_i hy
   refine adg.2 ⟨λz hz=> ?_,ih h2 (λk=>hr (abe _ k))⟩
   rcases zD.1 hz with hz|rfl
   ·exact h1 z hz
   ·exact hy
  ·rename_i hy
   have hry:fR r y=true:=by
    rcases GP (a:=r) (b:=y) (λe=>hr (e▸aaZ ..))with k|k
    ·exact k
    ·exact absurd k hy
   refine adg.2 ⟨λz hz=> ?_,h⟩
   rcases ab9.1 hz with rfl|hz
   ·exact hry
   ·exact y9 hry (h1 z hz)
def iK (ks:List (List Int)):List (List Int):=ks.foldl tM []
theorem Lq (ks:List (List Int)) (r:List Int):iK (jm ks r)=if r∈ks then iK ks else tM (iK ks) r:=by
 grind [jm,iK]
theorem Gf:∀(ks b:List (List Int)),x∈ks.foldl tM b↔x∈b∨x∈ks
 |[],b=>by simp
 |k::ks,b=>by
  rw[adn,Gf ks,zD,ab9,or_assoc]
theorem nG:x∈iK ks↔x∈ks:=by
 grind [iK,Gf]
theorem FX:∀(ks b:List (List Int)),(ks.foldl tM b).length=b.length+ks.length
 |[],b=>rfl
 |k::ks,b=>by rw[adn,FX ks,PR,aaW];omega
theorem B4 (ks:List (List Int)):(iK ks).length=ks.length:=by grind [iK,FX]
theorem Jw:∀(ks b:List (List Int)),Up b→ks.Nodup→(∀x,x∈ks→x∉b)→Up (ks.foldl tM b)
 |[],b,h,_,_=>h
 |k::ks,b,h,hn,hd=>by
  obtain⟨n1,n2⟩:=List.nodup_cons.1 hn
  refine Jw ks _ (SM h (hd k (aaZ ..))) n2 λx hx hm=> ?_
  rcases zD.1 hm with hm|rfl
  ·exact hd x (abe _ hx) hm
  ·exact n1 hx
theorem N2 (h:ks.Nodup):Up (iK ks):=Jw ks [] List.Pairwise.nil h (λx _ h=>by cases h)
theorem VM (h:Up L) (hij:i<j) (hj:j<L.length):fR (L.getD i []) (L.getD j [])=true:=by
 have:=acJ.1 h i j (by omega) hj hij
 grind
theorem N4 (hn:ks.Nodup) (hr:r∉ks) (hi:i≤(iK ks).length) (h1:∀q,i≤q→q<(iK ks).length→fR r ((iK ks).getD q [])=true) (h2:0<i→fR r ((iK ks).getD (i-1) [])=false):
  (iK ks).take i++([r]++(iK ks).drop i)=iK (jm ks r):=by
 rw[Lq,if_neg hr]
 refine Nm _ _ _ hi (λq hq=> ?_) (λh=>PJ (h1 i (am _) h))
 grind [iK,nG,dF,fR,GP,y9,VM,N2]
theorem QD {S:List (List Int)} {m:Nat} (h:m<S.length):S.take m++[S.getD m []]=S.take (m+1):=by
 simp_all
def Ms (l:List Rw) (c o p:Nat):Bool:=(l.getD c ⟨⟨0,0⟩,0⟩).o.testBit o&&oJ (l.getD c ⟨⟨0,0⟩,0⟩).c.m (l.getD c ⟨⟨0,0⟩,0⟩).c.v p
def jS (l:List Rw) (o p k:Nat):List Int:=((List.range k).filter λc=>Ms l c o p).map λc:Nat=>(c:Int)
def tL (l:List Rw) (o p:Nat):List Int:=jS l o p l.length
theorem yZ (l:List Rw) (o p k:Nat):jS l o p (k+1)=if Ms l k o p then jS l o p k++[(k:Int)]else jS l o p k:=by
 grind [jS,List.range_succ,Ms]
theorem SN (h:Ms l k o p=true):jS l o p k++[(k:Int)]=jS l o p (k+1):=by rw[yZ,if_pos h]
theorem KY (h:Ms l k o p=false):jS l o p k=jS l o p (k+1):=by rw[yZ,if_neg (by rw[h];decide)]
theorem pF:x∈jS l o p k↔∃c:Nat,x=c∧c<k∧Ms l c o p=true:=by
 grind [jS]
theorem wE (l:List Rw) (o p k:Nat):(jS l o p k).length≤k:=by
 grind [jS,List.length_map,Nat.le_trans,List.length_filter_le]
theorem OS (l:List Rw) (o p k:Nat):(jS l o p k).Pairwise λa b=>a<b:=by
 grind [jS,List.pairwise_lt_range]
theorem Fi (h:L.Pairwise λa b=>a<b) (hb:∀x,x∈L→0≤x∧x<n):pZ n L=true:=by grind [jD,dF,List.pairwise_iff_getElem,List.getElem?_eq_getElem]
theorem SA (l:List Rw) (o p:Nat):pZ (l.length:Int) (tL l o p)=true:=Fi (OS l o p _) λx hx=>by
 obtain⟨c,rfl,h1,_⟩:=pF.1 hx
 omega
def vR (l:List Rw) (o:Nat) (pts:List Int) (base:List (List Int)):Nat→List (List Int)
 |0=>base
 |k+1=>jm (vR l o pts base k) (tL l o (pts.getD k 0).toNat)
def lj (S:Sp) (l:List Rw):Nat→List (List Int)
 |0=>[]
 |o+1=>vR l o (ej (S.on.getD o 0)) (lj S l o) (ej (S.on.getD o 0)).length
def abN (S:Sp) (l:List Rw):List (List Int):=lj S l S.on.length
def mL (S:Sp) (l:List Rw):List (List Int):=iK (abN S l)
theorem A7:∀k,x∈vR l o pts base k↔x∈base∨∃q,q<k∧x=tL l o (pts.getD q 0).toNat
 |0=>by simp[vR]
 |k+1=>by
  rw[vR,gy,A7 k]
  constructor
  ·rintro((h|⟨q,h1,h2⟩)|h)
   ·exact .inl h
   ·exact .inr ⟨q,by omega,h2⟩
   ·exact .inr ⟨k,by omega,h⟩
  ·rintro(h|⟨q,h1,h2⟩)
   ·exact .inl (.inl h)
   ·by_cases e:q=k
    ·subst e;exact .inr h2
    ·exact .inl (.inr ⟨q,by omega,h2⟩)
theorem pL:∀o,x∈lj S l o↔∃q,q<o∧∃j,j<(ej (S.on.getD q 0)).length∧x=tL l q ((ej (S.on.getD q 0)).getD j 0).toNat
 |0=>by simp[lj]
 |o+1=>by
  rw[lj,A7,pL o]
  constructor
  ·rintro(⟨q,h1,h2⟩|⟨j,h1,h2⟩)
   ·exact⟨q,by omega,h2⟩
   ·exact⟨o,by omega,j,h1,h2⟩
  ·rintro⟨q,h1,h2⟩
   by_cases e:q=o
   ·subst e;exact .inr h2
   ·exact .inl ⟨q,by omega,h2⟩
theorem uC (h:base.Nodup):∀k,(vR l o pts base k).Nodup
 |0=>h
 |k+1=>ka (uC h k) _
theorem xE (S:Sp) (l:List Rw):∀o,(lj S l o).Nodup
 |0=>List.nodup_nil
 |o+1=>uC (xE S l o) _
theorem Ai:∀k,(vR l o pts base k).length≤base.length+k
 |0=>am _
 |k+1=>by
  have:=si (vR l o pts base k) (tL l o (pts.getD k 0).toNat)
  have:=Ai (l:=l) (o:=o) (pts:=pts) (base:=base) k
  rw[vR];omega
theorem wt (S:Sp) (l:List Rw):∀o,(lj S l o).length≤256*o
 |0=>am _
 |o+1=>by
  have h1:=Ai (l:=l) (o:=o) (pts:=ej (S.on.getD o 0)) (base:=lj S l o) (ej (S.on.getD o 0)).length
  have h2:=wt S l o
  have h3:=mv (S.on.getD o 0)
  rw[lj];omega
def re (l:List Rw) (x:List Int):Prop:=∃o p,x=tL l o p
theorem Fr (h:x∈lj S l o):re l x:=by
 obtain⟨q,_,j,_,e⟩:=(pL o).1 h
 exact⟨_,_,e⟩
theorem kR (h:l.length≤4000):dR (l.length:Int) (mL S l)=true:=fz.2 ⟨by omega,by omega,λi hi=>by
 obtain⟨o,p,e⟩:=Fr (nG.1 (dF (d:=[]) hi))
 rw[show (mL S l).getD i []=tL l o p from e]
 exact SA l o p⟩
def sj (row:List Int):List Int:=row.flatMap λc=>[c/256%256,c%256]
def ld (row:List Int):List UInt8:=kY (sj row)
theorem HL (row:List Int) (k:Nat) (hk:k<row.length):sj (row.take k)++[row.getD k 0/256%256,row.getD k 0%256]=sj (row.take (k+1)):=by
 grind [sj,List.take_add_one,List.getElem?_eq_getElem]
theorem MF (row:List Int):(sj row).length=2*row.length:=by
 unfold sj
 induction row with
 |nil=>rfl
 |cons a l ih=>rw[ach,An,ih];simp;omega
theorem Gq {x y:Int} (hx:0≤x∧x<256) (hy:0≤y∧y<256) (h:UInt8.ofNat x.toNat=UInt8.ofNat y.toNat):x=y:=by
 grind [UInt8.toNat,UInt8.toNat_ofNat',Nat.mod_eq_of_lt]
theorem CR:∀(a b:List Int),(∀x,x∈a→0≤x∧x<65536)→(∀x,x∈b→0≤x∧x<65536)→ld a=ld b→a=b
 |[],[],_,_,_=>rfl
 |[],b::bs,_,_,h=>by simp[ld,sj,kY]at h
 |a::aq,[],_,_,h=>by simp[ld,sj,kY]at h
 |a::aq,b::bs,ha,hb,h=>by
  have h0:=ha a (aaZ ..)
  have h1:=hb b (aaZ ..)
  have hh:UInt8.ofNat (a/256%256).toNat=UInt8.ofNat (b/256%256).toNat∧UInt8.ofNat (a%256).toNat=UInt8.ofNat (b%256).toNat∧ld aq=ld bs:=by
   simpa [ld,sj,kY,ach] using h
  have e1:=Gq ⟨by omega,by omega⟩ ⟨by omega,by omega⟩ hh.1
  have e2:=Gq ⟨by omega,by omega⟩ ⟨by omega,by omega⟩ hh.2.1
  rw[CR aq bs (λx hx=>ha x (abe _ hx)) (λx hx=>hb x (abe _ hx)) hh.2.2,show a=b by omega]
theorem re.small (h:re l x) (hl:l.length≤4000):∀c,c∈x→0≤c∧c<65536:=λc hc=>by
 obtain⟨o,p,rfl⟩:=h
 obtain⟨c,rfl,h1,_⟩:=pF.1 hc
 omega
theorem vr {l:List Rw} {ks:List (List Int)} {r:List Int} (hl:l.length≤4000) (hk:∀x,x∈ks→re l x) (hr:re l r):ld r∈ks.map ld↔r∈ks:=by
 rw[abS]
 constructor
 ·rintro⟨x,hx,e⟩
  rw[←CR x r ((hk x hx).small hl) (hr.small hl) e];exact hx
 all_goals grind
theorem MS {l:List Rw} {ks:List (List Int)} {r:List Int} (hl:l.length≤4000) (hk:∀x,x∈ks→re l x) (hr:re l r):jm (ks.map ld) (ld r)=(jm ks r).map ld:=by
 unfold jm
 by_cases h:r∈ks
 ·rw[if_pos h,if_pos ((vr hl hk hr).2 h)]
 ·rw[if_neg h,if_neg (λk=>h ((vr hl hk hr).1 k)),List.map_append];rfl
end
section
def Ey (S:Sp) (l:List Rw):Int:=if dt S=true∧∀k,k<l.length→dS (l.getD k ⟨⟨0,0⟩,0⟩).c.m (l.getD k ⟨⟨0,0⟩,0⟩).c.v S.n=true then (if 4000<l.length then 3 else 0)else 1
theorem YA (h:¬(a.length:Int)=(b.length:Int)):Value.bool (decide ((a.length:Int)<(b.length:Int)))= .bool (fR a b):=by grind [X9,decide_eq_true,decide_eq_false]
theorem aan (hl:a.length=b.length) (hk:k<a.length) (h:∀q,q<k→a.getD q 0=b.getD q 0) (hn:¬a.getD k 0=b.getD k 0):Value.bool (decide (a.getD k 0<b.getD k 0))= .bool (fR a b):=by grind [JH,NQ]
theorem Y0 (hl:a.length=b.length) (hk:k=a.length) (h:∀q,q<k→a.getD q 0=b.getD q 0):Value.bool false= .bool (fR a b):=by grind [Cu,Pb]
def wH (l:List Rw) (n:Int) (k:Nat):List Nat:=(l.take k).map λx=>rj x.c.m x.c.v n.toNat
theorem GZ (h:k≤l.length):(wH l n k).length=k:=by
 grind [wH,List.length_map,List.length_take]
theorem Mn (h:k<l.length):wH l n k++[rj (l.getD k ⟨⟨0,0⟩,0⟩).c.m (l.getD k ⟨⟨0,0⟩,0⟩).c.v n.toNat]=wH l n (k+1):=by
 grind [wH,List.take_add_one,List.getElem?_eq_getElem]
theorem OH (h:k<l.length):(wH l n l.length).getD k 0=rj (l.getD k ⟨⟨0,0⟩,0⟩).c.m (l.getD k ⟨⟨0,0⟩,0⟩).c.v n.toNat:=by
 grind [wH,List.take_length,List.getElem?_eq_getElem]
theorem Jv (h:k<l.length) (hr:dS (l.getD k ⟨⟨0,0⟩,0⟩).c.m (l.getD k ⟨⟨0,0⟩,0⟩).c.v n=true) (hp:0≤p∧p.toNat<2^n.toNat) (hb:(l.getD k ⟨⟨0,0⟩,0⟩).o.testBit o=true):Ez ((wH l n l.length).getD k 0) p=Ms l k o p.toNat:=by
 obtain⟨h0,h8,hm,hv⟩:=dB.1 hr
 have h256:=fm h8
 rw[OH h]
 unfold Ms oJ
 rw[hb,ack]
 obtain⟨q,rfl⟩:=ab2 hp.1
 rw[my]at hp ⊢
 have hq:q<256:=by omega
 rw[zQ hq,kg (by omega),decide_eq_true hp.2,ack,hv]
theorem WU (hb:¬(l.getD k ⟨⟨0,0⟩,0⟩).o.testBit o=true):Ms l k o p=false:=by
 unfold Ms
 grind
theorem aaa (h:k<l.length) (hr:dS (l.getD k ⟨⟨0,0⟩,0⟩).c.m (l.getD k ⟨⟨0,0⟩,0⟩).c.v n=true) (hp:0≤p∧p.toNat<2^n.toNat) (hs:(((l.getD k ⟨⟨0,0⟩,0⟩).o/2^o &&& 1:Nat):Int)=1) (hb:Ez ((wH l n l.length).getD k 0) p=true):jS l o p.toNat k++[(k:Int)]=jS l o p.toNat (k+1):=by grind [SN,Jv,qm]
theorem Vq (h:k<l.length) (hr:dS (l.getD k ⟨⟨0,0⟩,0⟩).c.m (l.getD k ⟨⟨0,0⟩,0⟩).c.v n=true) (hp:0≤p∧p.toNat<2^n.toNat) (hs:(((l.getD k ⟨⟨0,0⟩,0⟩).o/2^o &&& 1:Nat):Int)=1) (hb:Ez ((wH l n l.length).getD k 0) p=false):jS l o p.toNat k=jS l o p.toNat (k+1):=by grind [KY,Jv,qm]
theorem VD (hs:¬(((l.getD k ⟨⟨0,0⟩,0⟩).o/2^o &&& 1:Nat):Int)=1):jS l o p k=jS l o p (k+1):=by grind [KY,WU,qm]
theorem T9 (h:re l x):x.length≤l.length:=by
 obtain⟨o,p,rfl⟩:=h
 exact wE _ _ _ _
theorem PP (h:∀x,x∈ks→re l x) (j:Nat):((iK ks).getD j []).length≤l.length:=by
 by_cases hj:j<(iK ks).length
 ·exact T9 (h _ (nG.1 (dF hj)))
 all_goals grind
theorem Mc {ks:List (List Int)} {r:List Int} (h:r∈ks):jm ks r=ks:=if_pos h
theorem Um (h:x∈vR l o pts (lj S l o) k):re l x:=by
 rcases(A7 k).1 h with h|⟨q,_,e⟩
 ·exact Fr h
 ·exact⟨_,_,e⟩
theorem EX {α:Type} (L:List α) (i:Nat):(L.drop i).take (L.length-i)=L.drop i:=by grind [List.take_of_length_le]
theorem UC (hr:dt S=true) (ho:o<S.on.length) (hb:(S.on.getD o 0).testBit p=true) (hp:p<256):p<2^S.n.toNat:=by
 obtain⟨w1,w2⟩:=(dw.1 hr).2.2.2.2.2 o ho
 have:=dJ.1 w2 p hp (dJ.1 w1 p hp hb)
 grind [fo]
theorem NE (ho:o<4) (hk:k≤(ej (S.on.getD o 0)).length):(vR l o (ej (S.on.getD o 0)) (lj S l o) k).length≤2000:=by
 grind [Ai,ej,lj,wt,mv]
theorem Y4 (h:¬dt S=true):Ey S l=1:=if_neg λk=>h k.1
theorem aaA (hk:k<l.length) (h:¬dS (l.getD k ⟨⟨0,0⟩,0⟩).c.m (l.getD k ⟨⟨0,0⟩,0⟩).c.v S.n=true):Ey S l=1:=if_neg λq=>h (q.2 k hk)
theorem Y5 (h:dt S=true) (h2:∀k,k<l.length→dS (l.getD k ⟨⟨0,0⟩,0⟩).c.m (l.getD k ⟨⟨0,0⟩,0⟩).c.v S.n=true) (h3:4000<l.length):Ey S l=3:=by
 unfold Ey;rw[if_pos ⟨h,h2⟩,if_pos h3]
theorem U5 (h:dt S=true) (h2:∀k,k<l.length→dS (l.getD k ⟨⟨0,0⟩,0⟩).c.m (l.getD k ⟨⟨0,0⟩,0⟩).c.v S.n=true) (h3:¬4000<l.length):Ey S l=0:=by
 unfold Ey;rw[if_pos ⟨h,h2⟩,if_neg h3]
def QJ (l:List Rw) (bs:List Bool):Nat→List Rw
 |0=>[]
 |k+1=>if bs.getD k false=true then QJ l bs k++[l.getD k ⟨⟨0,0⟩,0⟩]else QJ l bs k
def R6 (bs:List Bool):Nat→List Int
 |0=>[]
 |k+1=>if bs.getD k false=true then R6 bs k++[(k:Int)]else R6 bs k
theorem vm:∀k,x∈QJ l bs k↔∃c,c<k∧bs.getD c false=true∧x=l.getD c ⟨⟨0,0⟩,0⟩
 |0=>by simp[QJ]
 |k+1=>by
  rw[QJ]
  by_cases h:bs.getD k false=true
  ·rw[if_pos h,aaQ,vm k,aaG]
   constructor
   ·rintro(⟨c,h1,h2⟩|rfl)
    ·exact⟨c,by omega,h2⟩
    ·exact⟨k,by omega,h,rfl⟩
   ·rintro⟨c,h1,h2,h3⟩
    by_cases e:c=k
    ·subst e;exact .inr h3
    ·exact .inl ⟨c,by omega,h2,h3⟩
  ·rw[if_neg h,vm k]
   constructor
   ·rintro⟨c,h1,h2⟩;exact⟨c,by omega,h2⟩
   ·rintro⟨c,h1,h2,h3⟩
    have e:c≠k:=λe=>h (e▸h2)
    exact⟨c,by omega,h2,h3⟩
theorem yI:∀k,x∈R6 bs k↔∃c:Nat,c<k∧bs.getD c false=true∧x=(c:Int)
 |0=>by simp[R6]
 |k+1=>by
  rw[R6]
  by_cases h:bs.getD k false=true
  ·rw[if_pos h,aaQ,yI k,aaG]
   constructor
   ·rintro(⟨c,h1,h2⟩|rfl)
    ·exact⟨c,by omega,h2⟩
    ·exact⟨k,by omega,h,rfl⟩
   ·rintro⟨c,h1,h2,h3⟩
    by_cases e:c=k
    ·subst e;exact .inr h3
    ·exact .inl ⟨c,by omega,h2,h3⟩
  ·rw[if_neg h,yI k]
   constructor
   ·rintro⟨c,h1,h2⟩;exact⟨c,by omega,h2⟩
   ·rintro⟨c,h1,h2,h3⟩
    have e:c≠k:=λe=>h (e▸h2)
    exact⟨c,by omega,h2,h3⟩
theorem zY {cols:List Int}:qy L cols=true↔∀r,r∈L→∃c,c∈r∧c∈cols:=by
 rw[F9]
 constructor
 ·intro h r hr
  obtain⟨k,hk,rfl⟩:=fh (d:=[]) hr
  exact h k hk
 all_goals simp_all
theorem H7:Ej (QJ l bs k) p o=true↔∃c,c<k∧bs.getD c false=true∧Ms l c o p=true:=by
 unfold Ej
 rw[acC]
 constructor
 ·rintro⟨x,hx,h⟩
  obtain⟨c,h1,h2,rfl⟩:=(vm k).1 hx
  exact⟨c,h1,h2,h⟩
 ·rintro⟨c,h1,h2,h3⟩
  exact⟨_,(vm k).2 ⟨c,h1,h2,rfl⟩,h3⟩
theorem UZ (hr:dt S=true) (hw:∀q,q<l.length→rF S (l.getD q ⟨⟨0,0⟩,0⟩)=true) (hl:l.length≤4000) (hk:k≤l.length):
  (dR (l.length:Int) (mL S l)&&qy (mL S l) (R6 bs k))=gH S (QJ l bs k):=by
 rw[kR hl,ack]
 obtain⟨h0,h8,h1,h4,h5,hin⟩:=dw.1 hr
 have hp:=fm h8
 have hm:km S (QJ l bs k)=true:=by
  unfold km
  rw[aa1]
  intro x hx
  obtain⟨c,h1,_,rfl⟩:=(vm k).1 hx
  have hi:=hw c (by omega)
  exact f7.2 ⟨gE hi,(ir.1 hi).2.1,by rw[h5];exact(rD hi).1⟩
 have hon:∀o,o<S.on.length→∀p,(zn S o).testBit p=true→p<256→p<2^S.n.toNat:=λo ho p hb hp2=>by
  obtain⟨w1,w2⟩:=hin o ho
  have:=dJ.1 w2 p hp2 (dJ.1 w1 p hp2 hb)
  rw[fo]at this
  simpa using this
 rw[acb,zY,eW]
 constructor
 ·intro h
  refine⟨hr,hm,λo ho=>(iC hr hm ho).2 λp hpn=>⟨λhb=> ?_,λhc=> ?_⟩⟩
  ·have hmem:tL l o p∈mL S l:=nG.2 ((pL _).2 (by
    obtain⟨j,hj,hjp⟩:=fh (d:=(0:Int)) (jC.2 ⟨p,by omega,hb,rfl⟩:(p:Int)∈ej (zn S o))
    refine⟨o,ho,j,hj,?_⟩
    unfold zn at hjp
    rw[hjp,my]))
   obtain⟨c,hc1,hc2⟩:=h _ hmem
   obtain⟨c,rfl,g1,g2⟩:=pF.1 hc1
   obtain⟨c',g3,g4,g5⟩:=(yI k).1 hc2
   obtain rfl:c=c':=by omega
   exact H7.2 ⟨c,g3,g4,g2⟩
  ·obtain⟨c,g1,g2,g3⟩:=H7.1 hc
   have hi:=hw c (by omega)
   unfold Ms at g3
   rw[so]at g3
   obtain⟨k1,k2⟩:=(ir.1 hi).2.2 o g3.1
   have hv:=(dB.1 (gE hi)).2.2.2
   refine(gw.1 k2).2 p hpn ?_
   have:=of_decide_eq_true g3.2
   rw[hv]at this
   exact this
 ·rintro⟨_,_,h⟩ r hr2
  obtain⟨o,ho,j,hj,rfl⟩:=(pL _).1 (nG.1 hr2)
  obtain⟨p,hp2,hb,e⟩:=mq hj
  rw[e,my]
  have hpn:=hon o ho p hb hp2
  obtain⟨c,g1,g2,g3⟩:=H7.1 (((iC hr hm ho).1 (h o ho) p hpn).1 hb)
  exact⟨(c:Int),pF.2 ⟨c,rfl,by omega,g3⟩,(yI k).2 ⟨c,g1,g2,rfl⟩⟩
def XB (n:Nat):List Int:=(List.range n).map λk:Nat=>(k:Int)
theorem SD:x∈XB k↔0≤x∧x<k:=by
 unfold XB
 rw[abS]
 constructor
 ·rintro⟨c,h,rfl⟩
  have:=acp.1 h
  omega
 ·intro h
  exact⟨x.toNat,acp.2 (by omega),by omega⟩
def jE (L:List (List Int)) (k:Nat):Bool:=(List.range k).all λi=>decide (0<(L.getD i []).length)
theorem Pe:jE L k=true↔∀i,i<k→0<(L.getD i []).length:=by
 grind [jE,List.all_eq_true]
end
section
abbrev ML:=List (List Int)
def oa (L:ML) (X:List Int):Prop:=∀r,r∈L→∃c,c∈r∧c∈X
def sQ (L:ML) (c:Int):Prop:=∃r,r∈L∧c∈r
def tZ (L:ML) (c:Int):ML:=L.filter λr=> !decide (c∈r)
def Cn (r:List Int) (c:Int):List Int:=r.filter λx=> !decide (x=c)
def qE (L:ML) (c:Int):ML:=L.map λr=>Cn r c
theorem oO:r∈tZ L c↔r∈L∧c∉r:=by
 grind [tZ]
theorem oV:r∈qE L c↔∃q,q∈L∧r=Cn q c:=by
 grind [qE]
theorem nB:x∈Cn q c↔x∈q∧x≠c:=by
 grind [Cn]
theorem KN (X:List Int):oa [] X:=λr h=>by cases h
theorem Iv (h:oa (tZ L c) X):oa L (c::X):=λr hr=>by
 by_cases hc:c∈r
 ·exact⟨c,hc,aaZ ..⟩
 ·obtain⟨d,h1,h2⟩:=h r (oO.2 ⟨hr,hc⟩)
  exact⟨d,h1,abe _ h2⟩
theorem EY (hn:X.Nodup) (h:oa L X):oa (tZ L c) (X.erase c):=λr hr=>by
 obtain⟨h1,h2⟩:=oO.1 hr
 obtain⟨d,h3,h4⟩:=h r h1
 exact⟨d,h3,(List.Nodup.mem_erase_iff hn).2 ⟨λe=>h2 (e▸h3),h4⟩⟩
theorem Px (h:oa L X) (hc:c∉X):oa (qE L c) X:=λr hr=>by
 obtain⟨q,hq,rfl⟩:=oV.1 hr
 obtain⟨d,h3,h4⟩:=h q hq
 exact⟨d,nB.2 ⟨h3,λe=>hc (e▸h4)⟩,h4⟩
theorem Oh (h:oa (qE L c) X):oa L X:=λr hr=>by
 obtain⟨d,h3,h4⟩:=h _ (oV.2 ⟨r,hr,rfl⟩)
 exact⟨d,(nB.1 h3).1,h4⟩
theorem zW (h:oa L X) (k:∀c,c∈X→c∈Y):oa L Y:=λr hr=>(h r hr).imp λc q=>⟨q.1,k c q.2⟩
theorem KV:qy L X=true↔oa L X:=zY
structure m5 (L0 L:ML) (ks:List Int):Prop where
 nd:ks.Nodup
 dis:∀c,c∈ks→¬sQ L c
 sub:∀c,sQ L c→sQ L0 c
 ksub:∀c,c∈ks→sQ L0 c
 up:∀X,oa L X→oa L0 (ks++X)
 dn:∀Y,Y.Nodup→oa L0 Y→∃X,X.Nodup∧oa L X∧ks.length+X.length≤Y.length
section
variable {L0 L L':ML} {ks ks':List Int} {r:List Int} {c d:Int}
theorem aei (L:ML):m5 L L []:=⟨List.nodup_nil,λc h=>(by cases h),λc h=>h,λc h=>(by cases h),λX h=>h,λY h1 h2=>⟨Y,h1,h2,by simp⟩⟩
theorem m5.take (h:m5 L0 L ks) (hr:r∈L) (e:r=[c]):m5 L0 (tZ L c) (jm ks c):=by
 have hin:sQ L c:=⟨r,hr,by rw[e];exact aaG.2 rfl⟩
 have hc:c∉ks:=λq=>h.dis c q hin
 have ei:jm ks c=ks++[c]:=if_neg hc
 refine⟨ka h.nd c,?_,?_,?_,?_,?_⟩
 ·rintro d hd ⟨q,hq,hdq⟩
  obtain⟨hq1,hq2⟩:=oO.1 hq
  rcases gy.1 hd with k|k
  ·exact h.dis d k ⟨q,hq1,hdq⟩
  ·rw[k]at hdq;exact hq2 hdq
 ·rintro d ⟨q,hq,hdq⟩
  exact h.sub d ⟨q,(oO.1 hq).1,hdq⟩
 ·intro d hd
  rcases gy.1 hd with k|k
  ·exact h.ksub d k
  ·rw[k];exact h.sub c hin
 ·intro X hX
  have:=h.up (c::X) (Iv hX)
  rw[ei,ab7]
  exact this
 ·intro Y hn hY
  obtain⟨X,h1,h2,h3⟩:=h.dn Y hn hY
  have hcX:c∈X:=by
   obtain⟨d,hd,hd2⟩:=h2 r hr
   rw[e]at hd
   rwa [aaG.1 hd]at hd2
  refine⟨X.erase c,h1.erase c,EY h1 h2,?_⟩
  grind
theorem m5.rows (h:m5 L0 L ks) (hs:∀r,r∈L'→r∈L) (hu:∀X,oa L' X→oa L X):m5 L0 L' ks:=
 ⟨h.nd,λc hc ⟨r,hr,q⟩=>h.dis c hc ⟨r,hs r hr,q⟩,λc ⟨r,hr,q⟩=>h.sub c ⟨r,hs r hr,q⟩,h.ksub,λX hX=>h.up X (hu X hX),λY hn hY=>(h.dn Y hn hY).imp λX ⟨h1,h2,h3⟩=>⟨h1,λr hr=>h2 r (hs r hr),h3⟩⟩
theorem m5.cols (h:m5 L0 L ks) (hne:¬d=c) (hd:∀r,r∈L→c∈r→d∈r):m5 L0 (qE L c) ks:=by
 refine⟨h.nd,?_,?_,h.ksub,λX hX=>h.up X (Oh hX),?_⟩
 ·rintro x hx ⟨r,hr,q⟩
  obtain⟨r0,h0,rfl⟩:=oV.1 hr
  exact h.dis x hx ⟨r0,h0,(nB.1 q).1⟩
 ·rintro x ⟨r,hr,q⟩
  obtain⟨r0,h0,rfl⟩:=oV.1 hr
  exact h.sub x ⟨r0,h0,(nB.1 q).1⟩
 ·intro Y hn hY
  obtain⟨X,h1,h2,h3⟩:=h.dn Y hn hY
  by_cases hc:c∈X
  ·refine⟨jm (X.erase c) d,ka (h1.erase c) d,?_,?_⟩
   ·intro r hr
    obtain⟨r0,h0,rfl⟩:=oV.1 hr
    obtain⟨x,hx1,hx2⟩:=h2 r0 h0
    by_cases e:x=c
    ·subst e
     exact⟨d,nB.2 ⟨hd r0 h0 hx1,hne⟩,gy.2 (.inr rfl)⟩
    ·exact⟨x,nB.2 ⟨hx1,e⟩,gy.2 (.inl ((List.Nodup.mem_erase_iff h1).2 ⟨e,hx2⟩))⟩
   ·have h4:=si (X.erase c) d
    rw[ado hc]at h4
    have:=acl hc
    omega
  all_goals grind [Px]
theorem m5.perm (h:m5 L0 L ks) (hn:ks'.Nodup) (hm:∀c,c∈ks'↔c∈ks) (hl:ks'.length=ks.length):m5 L0 L ks':=
 ⟨hn,λc hc=>h.dis c ((hm c).1 hc),h.sub,λc hc=>h.ksub c ((hm c).1 hc),λX hX=>zW (h.up X hX) λc hc=>by
  rcases aaQ.1 hc with k|k
  ·exact aaQ.2 (.inl ((hm c).2 k))
  ·exact aaQ.2 (.inr k),λY h1 h2=>by rw[hl];exact h.dn Y h1 h2⟩
end
def tY:ML→Nat
 |[]=>0
 |r::L=>r.length+1+tY L
theorem IB (c:Int):∀L:ML,tY (tZ L c)≤tY L
 |[]=>am _
 |r::L=>by
  have h0:=IB c L
  unfold tZ at*
  rw[List.filter_cons]
  split
  ·simp only[tY];omega
  ·simp only[tY];omega
theorem Cp:∀{L:ML},sQ L c→tY (tZ L c)<tY L
 |[],⟨r,h,_⟩=>by cases h
 |r::L,⟨q,hq,hc⟩=>by
  have h0:=IB c L
  by_cases hr:c∈r
  ·unfold tZ at*
   rw[List.filter_cons,if_neg (by simp[hr])]
   simp only[tY];omega
  ·have hq2:q∈L:=by
    rcases ab9.1 hq with e|e
    ·rw[e]at hc;exact absurd hc hr
    ·exact e
   have h1:=Cp (L:=L) ⟨q,hq2,hc⟩
   unfold tZ at*
   rw[List.filter_cons,if_pos (by simp[hr])]
   simp only[tY];omega
theorem CW (r:List Int) (c:Int):(Cn r c).length≤r.length:=adA _ _
theorem Ih (c:Int):∀L:ML,tY (qE L c)≤tY L
 |[]=>am _
 |r::L=>by
  have h0:=Ih c L
  have h1:=CW r c
  unfold qE at*
  rw[ac0]
  simp only[tY];omega
theorem Cg:∀{L:ML},sQ L c→tY (qE L c)<tY L
 |[],⟨r,h,_⟩=>by cases h
 |r::L,⟨q,hq,hc⟩=>by
  have h0:=Ih c L
  have h1:=CW r c
  rcases ab9.1 hq with e|e
  ·rw[e]at hc
   have h2:(Cn r c).length<r.length:=by
    unfold Cn
    exact List.length_filter_lt_length_iff_exists.2 ⟨c,hc,by simp⟩
   unfold qE at*
   rw[ac0]
   simp only[tY];omega
  ·have h2:=Cg (L:=L) ⟨q,e,hc⟩
   unfold qE at*
   rw[ac0]
   simp only[tY];omega
theorem Nx (L:ML) (c:Int):(tZ L c).length≤L.length:=adA _ _
theorem CD (h:sQ L c):(tZ L c).length<L.length:=by
 obtain⟨r,hr,hc⟩:=h
 unfold tZ
 exact List.length_filter_lt_length_iff_exists.2 ⟨r,hr,by simp[hc]⟩
theorem len_le (L:ML) (c:Int):(qE L c).length=L.length:=by grind [qE,List.length_map]
def Mp (L:ML) (i:Nat):ML:=L.take i++L.drop (i+1)
theorem Dg:∀a b:ML,tY (a++b)=tY a+tY b
 |[],b=>by simp[tY]
 |r::a,b=>by rw[acB];simp only[tY];rw[Dg a b];omega
theorem MK (h:i<L.length):tY (Mp L i)<tY L:=by
 have e:L=L.take i++(L.getD i []::L.drop (i+1)):=by
  rw[Do,th h]
  simp
 have h1:=congrArg tY e
 rw[Dg]at h1
 unfold Mp
 rw[Dg]
 simp only[tY]at h1
 omega
theorem P7 (h:r∈Mp L i):r∈L:=by
 rcases aaQ.1 h with k|k
 all_goals grind
theorem Qa (hk:k<L.length) (hne:¬k=i):L.getD k []∈Mp L i:=by
 unfold Mp
 rw[Do,th hk]
 rcases acy k i with q|q
 ·refine aaQ.2 (.inl (List.mem_take_iff_getElem.2 ⟨k,by omega,rfl⟩))
 ·refine aaQ.2 (.inr (List.mem_drop_iff_getElem.2 ⟨k-(i+1),by omega,?_⟩))
  grind
theorem VR (hi:i<L.length) (hk:k<L.length) (hne:¬k=i) (hw:∀x,x∈L.getD k []→x∈L.getD i []) (h:oa (Mp L i) X):oa L X:=λr hr=>by
 obtain⟨j,hj,rfl⟩:=fh (d:=[]) hr
 by_cases e:j=i
 ·subst e
  obtain⟨c,h1,h2⟩:=h _ (Qa hk hne)
  exact⟨c,hw c h1,h2⟩
 ·exact h _ (Qa hj e)
theorem VG (h:pZ n r=true) (c:Int):pZ n (Cn r c)=true:=by
 have hp:r.Pairwise λa b=>a<b:=acJ.2 λi j hi hj hij=> ?_
 ·exact Fi (hp.filter _) λx hx=>by
   obtain⟨k,hk,rfl⟩:=fh (d:=0) (nB.1 hx).1
   obtain⟨h1,h2,_⟩:=jD.1 h k hk
   exact⟨h1,h2⟩
 ·have key:∀m,i+1+m<r.length→r.getD i 0<r.getD (i+1+m) 0:=by
   intro m
   induction m with
   |zero=>intro hm;exact(jD.1 h (i+1) hm).2.2 (by omega)
   |succ m ih=>
    intro hm
    have h1:=ih (by omega)
    have h2:=(jD.1 h (i+1+(m+1)) hm).2.2 (by omega)
    rw[show i+1+(m+1)-1=i+1+m by omega]at h2
    omega
  have h3:=key (j-(i+1)) (by omega)
  grind
theorem zN (h:dR n L=true) (k:∀r,r∈L'→pZ n r=true):dR n L'=true:=by
 grind [fz,dF]
theorem tw (h:dR n L=true) (hr:r∈L):pZ n r=true:=by
 obtain⟨k,hk,rfl⟩:=fh (d:=[]) hr
 grind [fz]
theorem sH (h:dR n L=true) (hc:sQ L c):0≤c∧c<n:=by
 obtain⟨r,hr,hc⟩:=hc
 obtain⟨k,hk,rfl⟩:=fh (d:=0) hc
 have:=jD.1 (tw h hr) k hk
 omega
theorem Ac (h:dR n L=true) (c:Int):dR n (tZ L c)=true:=by grind [zN,tw,oO]
theorem GS (h:dR n L=true) (c:Int):dR n (qE L c)=true:=by grind [zN,oV,VG,tw]
theorem MW (h:dR n L=true) (i:Nat):dR n (Mp L i)=true:=by grind [zN,tw,P7]
theorem IZ (h:pZ n r=true):(r.length:Int)≤n∨r=[]:=by
 rcases Nat.eq_zero_or_pos r.length with e|e
 ·exact .inr (ab4 e)
 ·left
  have key:∀m,m<r.length→(m:Int)≤r.getD m 0:=by
   intro m
   induction m with
   |zero=>intro hm;exact(jD.1 h 0 hm).1
   |succ m ih=>
    intro hm
    have h1:=ih (by omega)
    have h2:=(jD.1 h (m+1) hm).2.2 (by omega)
    simp only[acN]at h2
    omega
  have h3:=key (r.length-1) (by omega)
  grind [jD]
theorem fP {n:Int} {L:ML} (h:dR n L=true) (i:Nat):(L.getD i []).length≤4000:=by
 obtain⟨h1,h2,h3⟩:=fz.1 h
 by_cases hi:i<L.length
 ·rcases IZ (h3 i hi)with k|k
  ·omega
  ·rw[k];exact me _
 all_goals grind
def inB (L:ML) (k:Nat):Bool:=L.any λr=>decide ((k:Int)∈r)
theorem qv:inB L k=true↔sQ L (k:Int):=by
 unfold inB sQ
 grind
def cnt (L:ML):Nat:=(List.range 4000).countP (inB L)
theorem nA {α:Type} {p q:α→Bool}:∀{l:List α},(∀x,x∈l→p x=true→q x=true)→l.countP p≤l.countP q
 |[],_=>am _
 |a::l,h=>by
  have ih:=nA (l:=l) λx hx=>h x (abe _ hx)
  have h0:=h a (aaZ ..)
  rw[List.countP_cons,List.countP_cons]
  by_cases e:p a=true
  ·rw[if_pos e,if_pos (h0 e)];omega
  ·rw[if_neg e];omega
theorem uj {α:Type} {p q:α→Bool}:∀{l:List α},(∀x,x∈l→p x=true→q x=true)→(∃x,x∈l∧q x=true∧p x=false)→l.countP p<l.countP q
 |[],_,⟨x,h,_⟩=>by cases h
 |a::l,h,⟨x,hx,hq,hp⟩=>by
  have ih0:=nA (l:=l) λx hx=>h x (abe _ hx)
  have h0:=h a (aaZ ..)
  rw[List.countP_cons,List.countP_cons]
  rcases ab9.1 hx with e|e
  ·rw[←e,if_pos hq,if_neg (by rw[hp];decide)];omega
  ·have ih:=uj (l:=l) (λx hx=>h x (abe _ hx)) ⟨x,e,hq,hp⟩
   by_cases e:p a=true
   ·rw[if_pos e,if_pos (h0 e)];omega
   ·rw[if_neg e];omega
theorem uZ (h:∀c,sQ L c→sQ L' c):cnt L≤cnt L':=nA λx _ hx=>qv.2 (h _ (qv.1 hx))
theorem MN {c:Int} (hr:dR n L'=true) (h:∀c,sQ L c→sQ L' c) (h1:sQ L' c) (h2:¬sQ L c):cnt L<cnt L':=by
 obtain⟨h3,h4⟩:=sH hr h1
 obtain⟨_,h5,_⟩:=fz.1 hr
 have e:((c.toNat:Nat):Int)=c:=by omega
 refine uj (λx _ hx=>qv.2 (h _ (qv.1 hx))) ⟨c.toNat,acp.2 (by omega),qv.2 (by rw[e];exact h1),?_⟩
 refine aaT.2 λk=>h2 ?_
 grind [qv]
theorem HV (hr:dR n L=true) (h:sQ L c):cnt (tZ L c)<cnt L:=
 MN hr (λd ⟨r,h1,h2⟩=>⟨r,(oO.1 h1).1,h2⟩) h λ⟨r,h1,h2⟩=>(oO.1 h1).2 h2
theorem I1 (hr:dR n L=true) (h:sQ L c):cnt (qE L c)<cnt L:=
 MN hr (λd ⟨r,h1,h2⟩=>by obtain⟨q,hq,rfl⟩:=oV.1 h1;exact⟨q,hq,(nB.1 h2).1⟩) h λ⟨r,h1,h2⟩=>by obtain⟨q,hq,rfl⟩:=oV.1 h1;exact(nB.1 h2).2 rfl
theorem aay {n:Nat} {L:ML} (h:dR (n:Int) L=true):cnt L≤n:=by
 have h1:cnt L≤(List.range 4000).countP λk=>decide (k<n):=nA λx _ hx=>decide_eq_true (by
  have:=sH h (qv.1 hx)
  omega)
 have h2:∀m,(List.range m).countP (λk=>decide (k<n))≤n:=by
  intro m
  induction m with
  |zero=>exact me _
  |succ m ih=>
   rw[adl,List.countP_append,List.countP_cons,List.countP_nil]
   by_cases e:m<n
   ·have:(List.range m).countP (λk=>decide (k<n))≤m:=go List.countP_le_length fF
    rw[if_pos (decide_eq_true e)];omega
   ·rw[if_neg (by rw[decide_eq_false e];decide)];omega
 grind
def Fg (U r:List Int):Bool:=r.any λc=>decide (c∈U)
def rk (U r:List Int):Nat→List Int
 |0=>U
 |k+1=>jm (rk U r k) (r.getD k 0)
def Bd (L:ML):Nat→List Int
 |0=>[]
 |k+1=>if Fg (Bd L k) (L.getD k [])then Bd L k else rk (Bd L k) (L.getD k []) (L.getD k []).length
def Fq (L:ML):Nat→Nat
 |0=>0
 |k+1=>if Fg (Bd L k) (L.getD k [])then Fq L k else Fq L k+1
theorem sK:∀k,k≤r.length→(c∈rk U r k↔c∈U∨c∈r.take k)
 |0,_=>by simp[rk]
 |k+1,hk=>by
  rw[rk,gy,sK k (by omega),acg,aaQ,Do,th (show k<r.length by omega),or_assoc]
  simp[eq_comm]
theorem UL (h:oa L X):∀k,k≤L.length→Fq L k≤X.countP λc=>decide (c∈Bd L k)
 |0,_=>me _
 |k+1,hk=>by
  have ih:=UL h k (by omega)
  rw[Fq,Bd]
  split
  ·exact ih
  ·rename_i hno
   obtain⟨c,h1,h2⟩:=h _ (dF (d:=[]) (show k<L.length by omega))
   have hc:¬c∈Bd L k:=λq=>hno (acC.2 ⟨c,h1,decide_eq_true q⟩)
   refine ab8 ih (uj (λx _ hx=>decide_eq_true ?_) ⟨c,h2,decide_eq_true ?_,decide_eq_false hc⟩)
   ·exact(sK _ (am _)).2 (.inl (of_decide_eq_true hx))
   ·exact(sK _ (am _)).2 (.inr (by rw[aaY];exact h1))
theorem Qb (h:oa L X):Fq L L.length≤X.length:=go (UL h _ (am _)) List.countP_le_length
def Hop (x:ML×List Int) (Y:List Int):Prop:=∃X,X.Nodup∧oa x.1 X∧x.2.length+X.length≤Y.length
structure tK (L0:ML) (st:List (ML×List Int)) (best:List Int):Prop where
 bs:oa L0 best
 up:∀x,x∈st→∀X,oa x.1 X→oa L0 (x.2++X)
 dn:∀Y,Y.Nodup→oa L0 Y→best.length≤Y.length∨∃x,x∈st∧Hop x Y
section
variable {L0:ML} {st:List (ML×List Int)} {x:ML×List Int} {best best' T:List Int} {rest:ML} {c:Int}
theorem aeg (hb:oa L0 best):tK L0 [(L0,[])] best:=⟨hb,λx hx X h=>(by obtain rfl:=aaG.1 hx;exact h),λY h1 h2=> .inr ⟨_,aaG.2 rfl,Y,h1,h2,by simp⟩⟩
theorem tK.drop (h:tK L0 (st++[x]) best) (hb:oa L0 best') (hle:best'.length≤best.length) (hx:∀Y,Hop x Y→best'.length≤Y.length):tK L0 st best':=by
 refine⟨hb,λy hy=>h.up y (aaQ.2 (.inl hy)),λY h1 h2=> ?_⟩
 rcases h.dn Y h1 h2 with k|⟨y,hy,k⟩
 ·exact .inl (go hle k)
 ·rcases aaQ.1 hy with q|q
  ·exact .inr ⟨y,q,k⟩
  ·rw[aaG.1 q]at k
   exact .inl (hx Y k)
theorem tK.none (h:tK L0 (st++[x]) best) (hr:r∈x.1) (hn:r=[]):tK L0 st best:=h.drop h.bs (am _) λY ⟨X,_,h2,_⟩=>by
 obtain⟨c,h3,_⟩:=h2 r hr
 rw[hn]at h3;cases h3
theorem tK.sol (h:tK L0 (st++[x]) best) (hr:m5 x.1 rest T) (he:rest=[]):oa L0 (x.2++T):=by
 have:=h.up x (aaQ.2 (.inr (aaG.2 rfl))) (T++[]) (hr.up [] (by rw[he];exact KN _))
 grind
theorem ad2 (hr:m5 x.1 rest T) (k:Hop x Y):∃X,X.Nodup∧oa rest X∧(x.2++T).length+X.length≤Y.length:=by
 obtain⟨X,h1,h2,h3⟩:=k
 obtain⟨X',h4,h5,h6⟩:=hr.dn X h1 h2
 grind
theorem tK.leaf (h:tK L0 (st++[x]) best) (hr:m5 x.1 rest T) (he:rest=[]) (hl:(x.2++T).length<best.length):tK L0 st (x.2++T):=h.drop (h.sol hr he) (Nat.le_of_lt hl) λY k=>by
 obtain⟨X,_,_,h3⟩:=ad2 hr k
 omega
theorem tK.leaf0 (h:tK L0 (st++[x]) best) (hr:m5 x.1 rest T) (hl:¬(x.2++T).length<best.length):tK L0 st best:=h.drop h.bs (am _) λY k=>by
 obtain⟨X,_,_,h3⟩:=ad2 hr k
 omega
theorem tK.prune (h:tK L0 (st++[x]) best) (hr:m5 x.1 rest T) (hl:best.length≤(x.2++T).length+Fq rest rest.length):tK L0 st best:=h.drop h.bs (am _) λY k=>by
 obtain⟨X,_,h2,h3⟩:=ad2 hr k
 have:=Qb h2
 omega
theorem tK.branch (h:tK L0 (st++[x]) best) (hr:m5 x.1 rest T) (c:Int):tK L0 (st++[(qE rest c,x.2++T),(tZ rest c,x.2++T++[c])]) best:=by
 have hx:=h.up x (aaQ.2 (.inr (aaG.2 rfl)))
 refine⟨h.bs,λy hy X hX=> ?_,λY h1 h2=> ?_⟩
 ·rcases aaQ.1 hy with q|q
  ·exact h.up y (aaQ.2 (.inl q)) X hX
  ·rcases ab9.1 q with rfl|q
   ·have:=hx _ (hr.up X (Oh hX))
    rwa [ab7]
   ·rw[aaG.1 q]at hX ⊢
    have:=hx _ (hr.up _ (Iv hX))
    simp only[ab7]
    exact this
 ·rcases h.dn Y h1 h2 with k|⟨y,hy,k⟩
  ·exact .inl k
  ·rcases aaQ.1 hy with q|q
   ·exact .inr ⟨y,aaQ.2 (.inl q),k⟩
   ·rw[aaG.1 q]at k
    obtain⟨X,h4,h5,h6⟩:=ad2 hr k
    right
    by_cases hc:c∈X
    ·refine⟨_,aaQ.2 (.inr (abe _ (aaG.2 rfl))),X.erase c,h4.erase c,EY h4 h5,?_⟩
     rw[ado hc]
     have:=acl hc
     simp only[An,acf]at h6 ⊢
     omega
    ·exact⟨_,aaQ.2 (.inr (aaZ ..)),X,h4,Px h5 hc,h6⟩
end
def EH:List (ML×List Int)→Nat
 |[]=>0
 |x::st=>(2^(cnt x.1+1)-1)+EH st
def KI:List (ML×List Int)→Nat
 |[]=>0
 |x::st=>(2^cnt x.1-1)+KI st
theorem yQ:∀a b,EH (a++b)=EH a+EH b
 |[],b=>by simp[EH]
 |x::a,b=>by rw[acB,EH,EH,yQ a b];omega
theorem yu:∀a b,KI (a++b)=KI a+KI b
 |[],b=>by simp[KI]
 |x::a,b=>by rw[acB,KI,KI,yu a b];omega
theorem M8 (st:List (ML×List Int)) (x:ML×List Int):EH st<EH (st++[x]):=by
 have:=ace (cnt x.1)
 rw[yQ]
 simp only[EH,acF]
 omega
theorem OG (st:List (ML×List Int)) (x:ML×List Int):KI st≤KI (st++[x]):=by rw[yu];omega
section
variable {n:Int} {st:List (ML×List Int)} {x:ML×List Int} {T a b:List Int} {rest:ML} {c:Int}
theorem vf {a k:Nat} (h:a<k):2*2^a≤2^k:=by
 have:=aaV (show 0<2 by decide) (show a+1≤k by omega)
 omega
theorem HR (hr:dR n rest=true) (h:m5 x.1 rest T) (hc:sQ rest c):EH (st++[(qE rest c,a),(tZ rest c,b)])<EH (st++[x]):=by
 have h1:=vf (I1 hr hc)
 have h2:=vf (HV hr hc)
 have h3:=aaV (show 0<2 by decide) (uZ h.sub)
 have h4:=ace (cnt (qE rest c))
 rw[yQ,yQ]
 simp only[EH,acF]
 omega
theorem zy (hr:dR n rest=true) (h:m5 x.1 rest T) (hc:sQ rest c):KI (st++[(qE rest c,a),(tZ rest c,b)])+1≤KI (st++[x]):=by
 have h1:=vf (I1 hr hc)
 have h2:=vf (HV hr hc)
 have h3:=aaV (show 0<2 by decide) (uZ h.sub)
 have h4:=ace (cnt (qE rest c))
 have h5:=ace (cnt (tZ rest c))
 rw[yu,yu]
 simp only[KI]
 omega
end
def l8 (l:List Int) (k:Nat):List Int:=((List.range k).filter λc:Nat=>decide ((c:Int)∈l)).map λc:Nat=>(c:Int)
theorem nK (l:List Int) (k:Nat):l8 l (k+1)=if (k:Int)∈l then l8 l k++[(k:Int)]else l8 l k:=by
 grind [l8,List.range_succ]
theorem sF:c∈l8 l k↔c∈l∧0≤c∧c<k:=by
 unfold l8
 simp only[abS,ac4,acp,decide_eq_true_eq]
 constructor
 ·rintro⟨a,⟨h1,h2⟩,rfl⟩;exact⟨h2,by omega,by omega⟩
 ·rintro⟨h1,h2,h3⟩
  exact⟨c.toNat,⟨by omega,by rwa [show ((c.toNat:Nat):Int)=c by omega]⟩,by omega⟩
theorem Tv (l:List Int) (k:Nat):(l8 l k).Pairwise λa b=>a<b:=by
 grind [l8,List.pairwise_lt_range]
theorem mw (l:List Int) (k:Nat):(l8 l k).Nodup:=(Tv l k).imp λh e=>by omega
theorem uD {α:Type} [DecidableEq α]:∀{a b:List α},a.Nodup→(∀x,x∈a→x∈b)→a.length≤b.length
 |[],b,_,_=>me _
 |x::a,b,hn,h=>by
  obtain⟨h1,h2⟩:=List.nodup_cons.1 hn
  have hx:x∈b:=h x (aaZ ..)
  have ih:=uD (a:=a) (b:=b.erase x) h2 λy hy=>(List.mem_erase_of_ne (λe=>h1 (by rw[e]at hy;exact hy))).2 (h y (abe _ hy))
  rw[ado hx]at ih
  have:=acl hx
  rw[aaW]
  omega
theorem GH (l:List Int) (k:Nat):(l8 l k).length≤l.length:=uD (mw l k) λx hx=>(sF.1 hx).1
theorem mK (l:List Int) (k:Nat):(l8 l k).length≤k:=by
 grind [l8,List.length_map,Nat.le_trans,List.length_filter_le]
theorem rY (hr:dR n L=true) (h:oa L l):oa L (l8 l n.toNat):=λr hr2=>by
 obtain⟨c,h1,h2⟩:=h r hr2
 have:=sH hr ⟨r,hr2,h1⟩
 exact⟨c,h1,sF.2 ⟨h2,by omega,by omega⟩⟩
theorem m5.ris (hr:dR n L0=true) (h:m5 L0 L ks):m5 L0 L (l8 ks n.toNat):=by
 have hm:∀c,c∈l8 ks n.toNat↔c∈ks:=λc=>sF.trans ⟨λq=>q.1,λq=>by
  have:=sH hr (h.ksub c q)
  exact⟨q,by omega,by omega⟩⟩
 exact h.perm (mw _ _) hm (Nat.le_antisymm (uD (mw _ _) λx hx=>(hm x).1 hx) (uD h.nd λx hx=>(hm x).2 hx))
structure Sj (L:ML) (n:Int) (X:List Int):Prop where
 nd:X.Nodup
 lim:∀c,c∈X→0≤c∧c<n
 slv:oa L X
 min:∀Y,Y.Nodup→oa L Y→X.length≤Y.length
theorem tK.fin (hr:dR n L0=true) (h:tK L0 [] best):Sj L0 n (l8 best n.toNat):=by
 obtain⟨h1,_,_⟩:=fz.1 hr
 refine⟨mw _ _,λc hc=> ?_,rY hr h.bs,λY hn hY=> ?_⟩
 ·have:=(sF.1 hc).2
  omega
 ·rcases h.dn Y hn hY with k|⟨x,hx,_⟩
  ·exact go (GH _ _) k
  ·cases hx
theorem Sj.both (h:m5 L0 L T) (k:Sj L n X):oa L0 (T++X)∧∀Y,Y.Nodup→oa L0 Y→(T++X).length≤Y.length:=by
 refine⟨h.up X k.slv,λY hn hY=> ?_⟩
 obtain⟨X',h1,h2,h3⟩:=h.dn Y hn hY
 have:=k.min X' h1 h2
 grind
end
section
theorem LB (S:Sp) (l:List Rw):(mL S l).length=(lj S l S.on.length).length:=B4 _
theorem MP (hr:dt S=true):(lj S l S.on.length).length≤1024:=by
 grind [wt,dw]
end
end Go.Proofs.YtedeonkjellcpaaGreatDoor
