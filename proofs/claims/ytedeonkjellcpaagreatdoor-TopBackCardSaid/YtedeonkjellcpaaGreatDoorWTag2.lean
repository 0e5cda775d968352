/- The walks of deeds with two families. The walk of joining. The walks of building, of parts, of what holds none, of the least, and of counting. The walks of new diagrams, of telling and listing members, and of marking nodes. The walks of the family of a set's primes. The walks of the document's famil -/
import Derived.Test.YtedeonkjellcpaaGreatDoorWZdd
import Derived.Test.YtedeonkjellcpaaGreatDoorWSpec6
namespace Go.Proofs.YtedeonkjellcpaaGreatDoor
set_option linter.unusedVariables false
set_option linter.unusedSimpArgs false
section
open Go Go.RowKit
theorem Ss:dT Tryz.prog 324=some (.agg #[.pointer none, .nilFunc, .nilFunc, .map none]):=by kernel_rfl
theorem zx:(Tryz.prog.info? 238).map (·.size)=some 1:=by kernel_rfl
theorem Hy:(Tryz.prog.info? 317).map (·.size)=some 1:=by kernel_rfl
theorem GH:(Tryz.prog.info? 318).map (·.size)=some 1:=by kernel_rfl
theorem Hp:(Tryz.prog.info? 322).map (·.size)=some 1:=by kernel_rfl
theorem sy {f:Nat→Value} {w:World} {d:Option Nat} {ty:TypeId} {ps:String} {af:Array Edge} {g:Option (Nat×Bool)} {x0 x1 x2 x3:Operand} {c0_0 c1_0 c2_0 c3_0:Value} (h0:dg f x0=c0_0) (k0:c0_0.cells= #[c0_0]) (h1:dg f x1=c1_0) (k1:c1_0.cells= #[c1_0]) (h2:dg f x2=c2_0) (k2:c2_0.cells= #[c2_0]) (h3:dg f x3=c3_0) (k3:c3_0.cells= #[c3_0]):
    (execOp (dg f) ⟨d, .build 324 #[(0,x0),(1,x1),(2,x2),(3,x3)],ty,ps,af,g⟩).run Tryz.prog w= .ok (.value (.agg #[c0_0,c1_0,c2_0,c3_0])) w:=by
  obtain⟨i0,hi0,hz0⟩:=Do.1 (show (Tryz.prog.info? 324).bind (·.zero)=_ from Ss)
  obtain⟨j238,hj238,hs238⟩:=go.1 zx
  obtain⟨j317,hj317,hs317⟩:=go.1 Hy
  obtain⟨j318,hj318,hs318⟩:=go.1 GH
  obtain⟨j322,hj322,hs322⟩:=go.1 Hp
  simp[execOp,h0,k0,h1,k1,h2,k2,h3,k3,Instr.build,zeroValue,typeInfo,sizeOf,hi0,hz0,run_underlying Tryz.underlying324,Instr.fill,dX,hj238,hs238,hj317,hs317,hj318,hs318,hj322,hs322]
theorem ia:Lm Tryz.prog 320=some (2,1):=by kernel_rfl
theorem xm:cX Tryz.prog 259=true:=by kernel_rfl
theorem Gt:dS Tryz.prog 324 1=some 1:=by kernel_rfl
theorem O9:eE Tryz.prog 317=true:=by kernel_rfl
theorem zT:dS Tryz.prog 324 3=some 3:=by kernel_rfl
theorem DH:eE Tryz.prog 322=true:=by kernel_rfl
theorem xf:dT Tryz.prog 320=some (.agg #[.int .i64 0, .int .i64 0]):=by kernel_rfl
theorem jp {f:Nat→Value} {w:World} {d:Option Nat} {ty:TypeId} {ps:String} {af:Array Edge} {g:Option (Nat×Bool)} {x0 x1:Operand} {c0_0 c1_0:Value} (h0:dg f x0=c0_0) (k0:c0_0.cells= #[c0_0]) (h1:dg f x1=c1_0) (k1:c1_0.cells= #[c1_0]):
    (execOp (dg f) ⟨d, .build 320 #[(0,x0),(1,x1)],ty,ps,af,g⟩).run Tryz.prog w= .ok (.value (.agg #[c0_0,c1_0])) w:=by
  obtain⟨i0,hi0,hz0⟩:=Do.1 (show (Tryz.prog.info? 320).bind (·.zero)=_ from xf)
  obtain⟨j3,hj3,hs3⟩:=go.1 fH
  simp[execOp,h0,k0,h1,k1,Instr.build,zeroValue,typeInfo,sizeOf,hi0,hz0,run_underlying Tryz.underlying320,Instr.fill,dX,hj3,hs3]
theorem DM:mU Tryz.prog 322=some (320,3):=by kernel_rfl
theorem MA {f:Nat→Value} {w:World} {d:Option Nat} {ty t2:TypeId} {ps:String} {af:Array Edge} {g:Option (Nat×Bool)} {x y:Operand} {a0 a1 b0 b1:Int} (hx:dg f x= .agg #[.int .i64 a0, .int .i64 a1]) (hy:dg f y= .agg #[.int .i64 b0, .int .i64 b1]):
    (execOp (dg f) ⟨d, .binOp .eql 320 x y t2,ty,ps,af,g⟩).run Tryz.prog w= .ok (.value (.bool (decide ((a0=b0∧a1=b1))))) w:=by
  have hg:Tryz.prog.eqGuardType Tryz.prog.depth 320=false:=by kernel_rfl
  have ha:=mK (P:=Tryz.prog) w 9999 2 320 3 #[.int .i64 a0, .int .i64 a1] #[.int .i64 b0, .int .i64 b1]
    (λi=> .int .i64 ([a0,a1].getD i 0)) (λi=> .int .i64 ([b0,b1].getD i 0)) (λi=>[a0,a1].getD i 0==[b0,b1].getD i 0) Tryz.underlying320 jW (by simp[isAgg,run_underlying Tryz.underlying3])
    (λi hi=>by
      have:i=0∨i=1:=by omega
      rcases this with rfl|rfl<;>rfl)
    (λi hi=>by
      have:i=0∨i=1:=by omega
      rcases this with rfl|rfl<;>rfl)
    (λi hi=>run_equalIn_int w 9998 3 .i64 .i64 _ _ Tryz.underlying3)
  simp only[execOp,hx,hy,Sem.run_bind,run_eqGuard_agg _ _ _ _ _ _ _ hg,Result.andThen_ok,run_eql_struct,ha]
  simp[List.range,List.range.loop]
  by_cases q0:a0=b0<;>by_cases q1:a1=b1<;>simp[q0,q1]
theorem A6:qc Tryz.prog 320 (λv=>∃a:(Nat×Nat),v=pz a):=by
  refine pd Tryz.underlying320 ?_ ?_ ?_ ?_
  · rintro w _ _ ⟨a,rfl⟩ ⟨c,rfl⟩
    have hg:Tryz.prog.eqGuardType Tryz.prog.depth 320=false:=by kernel_rfl
    refine⟨_,rW hg (MA rfl rfl),?_⟩
    rw[decide_eq_true_eq]
    constructor
    · rintro⟨h1,h2⟩
      exact congrArg _ (Prod.ext (by omega) (by omega))
    · intro h
      rw[yd _ _ h]
      exact⟨rfl,rfl⟩
  · rintro _ _ ⟨a,rfl⟩ ⟨c,rfl⟩
    exact .inl rfl
  · rintro w em _ ⟨a,rfl⟩
    obtain⟨j0,hj0,hs0⟩:=go.1 (show (Tryz.prog.info? 3).map (·.size)=some 1 by kernel_rfl)
    have h2:∀k,(Instr.checkKey em (k+1+1) 320 (pz a)).run Tryz.prog w= .ok () w:=λk=>by
      simp[pz,Instr.checkKey,part,isAgg,sizeOf,typeInfo,hj0,hs0,run_underlying Tryz.underlying320,run_underlying Tryz.underlying3,List.range']
    exact h2 9998
  · rintro _ ⟨a,rfl⟩
    simp[pz,Instr.sameBits]
theorem lY:dS Tryz.prog 324 0=some 0:=by kernel_rfl
theorem iK:eE Tryz.prog 238=true:=by kernel_rfl
theorem Il:cX Tryz.prog 274=true:=by kernel_rfl
theorem Gq:dS Tryz.prog 324 2=some 2:=by kernel_rfl
theorem NA:eE Tryz.prog 318=true:=by kernel_rfl
theorem zi:j8 Tryz.prog 320=some 2:=by kernel_rfl
theorem Jl:cX Tryz.prog 275=true:=by kernel_rfl
theorem RW:cX Tryz.prog 271=true:=by kernel_rfl
theorem Rj:cX Tryz.prog 272=true:=by kernel_rfl
theorem Ru:cX Tryz.prog 261=true:=by kernel_rfl
theorem JP:cX Tryz.prog 256=true:=by kernel_rfl
theorem CQ:cX Tryz.prog 254=true:=by kernel_rfl
theorem Si:cX Tryz.prog 255=true:=by kernel_rfl
theorem rx (f g:Nat) (w:World):
    Fn Tryz.prog 261 #[.int .i64 (f:Int), .int .i64 (g:Int)] w λv w'=>v= .tuple #[.int .i64 ((pb.ends f g).1:Int), .bool (pb.ends f g).2]:=by
 refine cH (n:=17) Tryz.func261 rfl rfl rfl λhB=> ?_
 refine Zr<|Zi rfl<|Zb rfl<|ct<|Zq<|Zr<|Zi rfl<|Zv (dW rfl rfl)<|ZX rfl (λa=> ?_) λa=> ?_
 refine Zs<|Zs<|Zs<|Zb rfl<|ct<|cF rfl<|Zr<|Zi rfl<|Zi rfl<|Zb rfl<|ct<|Zt<|dL (v:= .int .i64 _) rfl (v1:= .bool true) rfl ⟨hB,?_⟩
 exact XG (.inl a)
 refine Zi rfl<|Zi rfl<|Zv (dW rfl rfl)<|Zb rfl<|ct<|ZQ rfl (λb=> ?_) λb=> ?_
 refine Zr<|Zi rfl<|Zi rfl<|Zb rfl<|ct<|Zt<|dL (v:= .int .i64 _) rfl (v1:= .bool true) rfl ⟨hB,?_⟩
 exact XG (.inr b)
 refine cu<|Zr<|Zi rfl<|Zi rfl<|Zv (dW rfl rfl)<|Zi rfl<|Zb rfl<|ct<|Zt<|dL (v:= .int .i64 _) rfl (v1:= .bool _) rfl ⟨hB,?_⟩
 exact Zh a b
theorem sD (f g:Nat) (w:World):
    Fn Tryz.prog 255 #[.int .i64 (f:Int), .int .i64 (g:Int)] w λv w'=>v= .tuple #[.int .i64 ((vl.ends f g).1:Int), .bool (vl.ends f g).2]:=by
 refine cH (n:=16) Tryz.func255 rfl rfl rfl λhB=> ?_
 refine Zr<|Zi rfl<|Zb rfl<|ct<|Zq<|Zr<|Zi rfl<|Zv (dW rfl rfl)<|ZX rfl (λa=> ?_) λa=> ?_
 refine Zs<|Zs<|Zs<|Zb rfl<|ct<|cF rfl<|Zr<|Zi rfl<|Zb rfl<|ct<|Zt<|dL (v:= .int .i64 0) rfl (v1:= .bool true) rfl ⟨hB,?_⟩
 exact Xo (.inl a)
 refine Zi rfl<|Zi rfl<|Zv (dW rfl rfl)<|Zb rfl<|ct<|ZQ rfl (λb=> ?_) λb=> ?_
 refine Zr<|Zi rfl<|Zb rfl<|ct<|Zt<|dL (v:= .int .i64 0) rfl (v1:= .bool true) rfl ⟨hB,?_⟩
 exact Xo (.inr b)
 refine cu<|Zr<|Zi rfl<|Zi rfl<|Zv (dW rfl rfl)<|Zi rfl<|Zb rfl<|ct<|Zt<|dL (v:= .int .i64 _) rfl (v1:= .bool _) rfl ⟨hB,?_⟩
 exact Y3 a b
theorem sx (f g:Nat) (w:World):
    Fn Tryz.prog 257 #[.int .i64 (f:Int), .int .i64 (g:Int)] w λv w'=>v= .tuple #[.int .i64 ((rn.ends f g).1:Int), .bool (rn.ends f g).2]:=by
 refine cH (n:=20) Tryz.func257 rfl rfl rfl λhB=> ?_
 refine Zr<|Zi rfl<|Zb rfl<|ct<|Zq<|cx<|Zr<|Zi rfl<|Zv (dW rfl rfl)<|ZX rfl (λa=> ?_) λa=> ?_
 refine Zs<|Zs<|Zb rfl<|Zb rfl<|ct<|cF rfl<|Zr<|Zi rfl<|Zb rfl<|ct<|Zt<|dL (v:= .int .i64 0) rfl (v1:= .bool true) rfl ⟨hB,?_⟩
 exact Yn (.inl a)
 refine Zi rfl<|Zv (dW rfl rfl)<|Zb rfl<|Zb rfl<|ct<|ZQ rfl (λb=> ?_) λb=> ?_
 refine Zr<|Zi rfl<|Zb rfl<|ct<|Zt<|dL (v:= .int .i64 0) rfl (v1:= .bool true) rfl ⟨hB,?_⟩
 exact Yn (.inr b)
 refine Zr<|Zi rfl<|Zv (dW rfl rfl)<|Zb rfl<|ct<|ZQ rfl (λc=> ?_) λc=> ?_
 refine Zr<|Zi rfl<|Zi rfl<|Zb rfl<|ct<|Zt<|dL (v:= .int .i64 _) rfl (v1:= .bool true) rfl ⟨hB,?_⟩
 exact YT a b c
 refine cu<|Zr<|Zi rfl<|Zi rfl<|Zv (dW rfl rfl)<|Zi rfl<|Zb rfl<|ct<|Zt<|dL (v:= .int .i64 _) rfl (v1:= .bool _) rfl ⟨hB,?_⟩
 exact Y8 a b c
def Yq (ge:Nat) (o:Op):Prop:=∀(f g:Nat) (w:World),Fn Tryz.prog ge #[.int .i64 (f:Int), .int .i64 (g:Int)] w λv w'=>v= .tuple #[.int .i64 ((o.ends f g).1:Int), .bool (o.ends f g).2]
def B4 (ge gh:Nat) (o:Op) (n:Nat):Prop:=∀(N ba bm bz bd bx R:Nat) (ns:List Nd) (dl:List ((Nat×Nat)×Int)) (f g:Nat) (w:World),N≤w.heap.size→At w bz #[.pointer (some ⟨ba,0,none⟩)] 282→At w bd #[.pointer (some ⟨bz,0,none⟩), .func (.func ge) #[] #[], .func (.func gh) #[] #[], .map (some bx)] 324→fC 222 228 N ba bm R w ns→du pz eH w bx dl→sB o.res ns dl→N≤bx→bx≠bm→f<ns.length+2→g<ns.length+2→25-min (dQ ns f) (dQ ns g)≤n→
  mS Tryz.prog 259 #[.pointer (some ⟨bd,0,none⟩), .int .i64 (f:Int), .int .i64 (g:Int)] w λv w'=>PD 222 228 N ba bm R bx o.res w ns (o.cst ns f g) (min (dQ ns f) (dQ ns g)) (o.res (M ns f) (M ns g)) v w'
def W2 (ge gh:Nat) (o:Op) (n:Nat):Prop:=∀(N ba bm bz bd bx R:Nat) (ns:List Nd) (dl:List ((Nat×Nat)×Int)) (f0 f1 g0 g1 l:Nat) (w:World),N≤w.heap.size→At w bz #[.pointer (some ⟨ba,0,none⟩)] 282→At w bd #[.pointer (some ⟨bz,0,none⟩), .func (.func ge) #[] #[], .func (.func gh) #[] #[], .map (some bx)] 324→fC 222 228 N ba bm R w ns→du pz eH w bx dl→sB o.res ns dl→N≤bx→bx≠bm→f0<ns.length+2→f1<ns.length+2→g0<ns.length+2→g1<ns.length+2→l<dQ ns f0→l<dQ ns f1→l<dQ ns g0→l<dQ ns g1→l<24→24-l≤n→
  mS Tryz.prog gh #[.pointer (some ⟨bd,0,none⟩), .agg #[.int .i64 (f0:Int), .int .i64 (f1:Int)], .agg #[.int .i64 (g0:Int), .int .i64 (g1:Int)]] w λv w'=>PD 222 228 N ba bm R bx o.res w ns (o.hcst ns l f0 f1 g0 g1) (l+1) (o.resH (M ns f0) (M ns f1) (M ns g0) (M ns g1)) v w'
theorem uG (bz ge gh:Nat) (w:World):
    Fn Tryz.prog 272 #[.pointer (some ⟨bz,0,none⟩), .func (.func ge) #[] #[], .func (.func gh) #[] #[]] w λv w'=>∃bd bx,v= .func (.func 259) #[.pointer (some ⟨bd,0,none⟩)] #[]∧At w' bd #[.pointer (some ⟨bz,0,none⟩), .func (.func ge) #[] #[], .func (.func gh) #[] #[], .map (some bx)] 324∧du pz eH w' bx ([]:List ((Nat×Nat)×Int))∧w.heap.size≤bd∧w.heap.size≤bx:=by
 refine cH (n:=16) Tryz.func272 rfl rfl rfl λhB=> ?_
 refine Zr<|Zw _ rfl<|ct<|Zr<|Zp rfl<|Zw (.func _ _ _) rfl<|Zw (.func _ _ _) rfl<|Zy (gQ (enc:=pz) (encV:=eH) λd W5 e f a=> ?_)
 have g:=ZO e hB
 replace hB:=Ze hB f
 refine Zv (sy (h0:=rfl) (k0:=rfl) (h1:=rfl) (k1:=rfl) (h2:=rfl) (k2:=rfl) (h3:=rfl) (k3:=rfl) (c0_0:= .pointer (some ⟨bz,0,none⟩)) (c1_0:= .func _ _ _) (c2_0:= .func _ _ _) (c3_0:= .map (some d)))<|Zy (dt (c:= #[_,_,_,_]) rfl rfl λb W8 h i j=> ?_)
 have k:=ZO h hB
 obtain⟨hB,a⟩:=i.k2 hB a
 refine Zp rfl<|ct<|Zr<|Zp rfl<|Zv (DQ (v:= .pointer (some ⟨b,0,none⟩)) rfl)<|Zw (.func (.func 259) #[.pointer (some ⟨b,0,none⟩)] #[]) rfl<|ct<|Zt<|cV (v:= .func (.func 259) #[.pointer (some ⟨b,0,none⟩)] #[]) rfl ⟨hB,?_⟩
 exact⟨_,_,rfl,j,a,k,g⟩
theorem IX (ge n:Nat) (o:Op) (N ba bm bz bd bx R:Nat) (ns:List Nd) (dl:List ((Nat×Nat)×Int)) (f0 f1 g0 g1 l:Nat) (w:World) (hoh:∀ns l f0 f1 g0 g1,o.hcst ns l f0 f1 g0 g1=o.cst ns f1 g1) (hor:∀A0 A1 B0 B1,o.resH A0 A1 B0 B1=o.res A1 B1) (ih:B4 ge 256 o n) (hN0:N≤w.heap.size) (hz:At w bz #[.pointer (some ⟨ba,0,none⟩)] 282) (hbd:At w bd #[.pointer (some ⟨bz,0,none⟩), .func (.func ge) #[] #[], .func (.func 256) #[] #[], .map (some bx)] 324) (hD:fC 222 228 N ba bm R w ns) (hdn:du pz eH w bx dl) (hdone:sB o.res ns dl) (lox:N≤bx) (hxm:bx≠bm) (v0:f0<ns.length+2) (v1:f1<ns.length+2) (v2:g0<ns.length+2) (v3:g1<ns.length+2) (k0:l<dQ ns f0) (k1:l<dQ ns f1) (k2:l<dQ ns g0) (k3:l<dQ ns g1) (h24:l<24) (hn:24-l≤n):
    mS Tryz.prog 256 #[.pointer (some ⟨bd,0,none⟩), .agg #[.int .i64 (f0:Int), .int .i64 (f1:Int)], .agg #[.int .i64 (g0:Int), .int .i64 (g1:Int)]] w λv w'=>PD 222 228 N ba bm R bx o.res w ns (o.hcst ns l f0 f1 g0 g1) (l+1) (o.resH (M ns f0) (M ns f1) (M ns g0) (M ns g1)) v w':=by
 refine d5 (n:=16) (N:=N) Tryz.func256 rfl rfl rfl λhB=> ?_
 have hX:Dx 228 N [bx,ba,bm] w w:=Dx.refl
 refine Zr<|Zy (dt (c:= #[_,_]) rfl rfl λk W3 m b d=> ?_)
 obtain⟨hz,hbd⟩:=b.k2 hz hbd
 replace hD:=fC.ext b hD
 obtain⟨hdn,hX⟩:=b.k2 hdn hX
 replace hB:=cW hB b hN0
 refine Zy (dt (c:= #[_,_]) rfl rfl λp W6 e a f=> ?_)
 have q:=Zn e d.lt
 obtain⟨hz,hbd⟩:=a.k2 hz hbd
 replace hD:=fC.ext a hD
 obtain⟨hdn,hX⟩:=a.k2 hdn hX
 replace hB:=cW hB a hN0
 replace d:=a.at d
 refine Zi rfl<|ZZ rfl<|Zr<|Zp rfl<|Zv (fo rfl rfl ia Om Om)<|Zl rfl cK d rfl<|Zv (fo rfl rfl ia Om Om)<|Zl rfl cK f rfl<|ZH xm (ih N ba bm bz bd bx R ns dl f1 g1 _ (an hN0 (Below.size hB)) hz hbd hD hdn hdone lox hxm v1 v3 Om) rfl λr s g=> ?_
 obtain⟨t,u,x,dl1_5,rfl,h,i,j,hdn1_5,hdone1_5⟩:=g
 replace hX:=Dx.trans hX h
 replace hD:=i
 replace hdn:=hdn1_5
 replace hdone:=hdone1_5
 refine Zv (c7 rfl)<|Zv (da rfl)<|Zi rfl<|ZZ rfl<|Zt<|dL (v:= .int .i64 _) rfl (v1:= .int .i64 _) rfl ?_
 rw[hor,hoh]
 exact⟨_,_,_,_,rfl,hX,hD,j.low Om,hdn,hdone⟩
set_option maxRecDepth 10000 in
theorem YQ (ge gh n:Nat) (o:Op) (N ba bm bz bd bx R:Nat) (ns:List Nd) (dl:List ((Nat×Nat)×Int)) (f g:Nat) (w:World) (hO:J4 o) (hE:Yq ge o) (hcE:cX Tryz.prog ge=true) (hcH:cX Tryz.prog gh=true) (ih:B4 ge gh o n) (hH:W2 ge gh o n) (hN0:N≤w.heap.size) (hz:At w bz #[.pointer (some ⟨ba,0,none⟩)] 282) (hbd:At w bd #[.pointer (some ⟨bz,0,none⟩), .func (.func ge) #[] #[], .func (.func gh) #[] #[], .map (some bx)] 324) (hD:fC 222 228 N ba bm R w ns) (hdn:du pz eH w bx dl) (hdone:sB o.res ns dl) (lox:N≤bx) (hxm:bx≠bm) (hf:f<ns.length+2) (hg:g<ns.length+2) (hn:25-min (dQ ns f) (dQ ns g)≤n+1):
    mS Tryz.prog 259 #[.pointer (some ⟨bd,0,none⟩), .int .i64 (f:Int), .int .i64 (g:Int)] w λv w'=>PD 222 228 N ba bm R bx o.res w ns (o.cst ns f g) (min (dQ ns f) (dQ ns g)) (o.res (M ns f) (M ns g)) v w':=by
 refine d5 (n:=130) (N:=N) Tryz.func259 rfl rfl rfl λhB=> ?_
 have hX:Dx 228 N [bx,ba,bm] w w:=Dx.refl
 have hwf:=hD.wf
 have hroom:=hD.room
 have htop:=hD.top
 refine Zr<|Zi rfl<|ZZ rfl<|Zq<|Zr<|Zp rfl<|Zc rfl<|Zf rfl Gt<|ZL (.func (.func ge) #[] #[]) rfl O9 hbd rfl<|Zi rfl<|Zi rfl ?_
 refine ol (dd:=some 26) rfl rfl rfl (yr (q:=ge) rfl hcE (v0:= .int .i64 _) rfl (v1:= .int .i64 _) rfl) (hE _ _ _) (λaz W7 p Z=> ?_)
 obtain⟨hz,hbd⟩:=p.k2 hz hbd
 replace hD:=fC.ext p hD
 obtain⟨hdn,hX⟩:=p.k2 hdn hX
 replace hB:=cW hB p hN0
 obtain rfl:=Z
 refine Zw (.tuple #[.int .i64 _, .bool _]) rfl<|Zv (c7 rfl)<|Zv (da rfl)<|Zi rfl<|Zb rfl<|ct<|Zr<|Zb rfl<|ct<|ZQ rfl (λr=> ?_) λr=> ?_
 refine Zr<|Zi rfl<|Zi rfl<|ZZ rfl<|Zt<|dL (v:= .int .i64 _) rfl (v1:= .int .i64 0) rfl ?_
 obtain⟨e1,e2,e3⟩:=hO.endT ns f g hwf hf hg r
 exact⟨ns,_,0,dl,rfl,hX,hD,jY.same e1 e2 e3,hdn,hdone⟩
 refine cu<|Zq<|Zr<|Zp rfl<|Zc rfl<|Zf rfl zT<|ZL (.map (some bx)) rfl DH hbd rfl<|Zi rfl<|Zi rfl<|Zv (jp (h0:=rfl) (k0:=rfl) (h1:=rfl) (k1:=rfl) (c0_0:= .int .i64 _) (c1_0:= .int .i64 _))<|Zv (BM (enc:=pz) (encV:=eH) (v0:=0) (k:=(f,g)) rfl rfl DM A6 (λa=>⟨a,rfl⟩) yd wz rfl hdn)<|Zw (.tuple #[.int .i64 _, .bool _]) rfl<|Zv (c7 rfl) ?_
 refine Zv (da rfl)<|Zi rfl<|Zb rfl<|ct<|Zr<|Zb rfl<|ct<|ZQ rfl (λB=> ?_) λB=> ?_
 refine Zr<|Zi rfl<|Zi rfl<|ZZ rfl<|Zt<|dL (v:= .int .i64 _) rfl (v1:= .int .i64 0) rfl ?_
 obtain⟨id,he,i1,i2,i3⟩:=OJ hdone B
 rw[he]
 exact⟨ns,id,0,dl,rfl,hX,hD,jY.same i1 i2 i3,hdn,hdone⟩
 refine cu ?_
 have C:=hB
 replace hB:=Below.refl W7.heap.size W7
 obtain⟨f0,g0,fg⟩:=hO.endF f g r
 have hlf:=nC hwf hf
 have hlg:=nC hwf hg
 have h24':min (dQ ns f) (dQ ns g)<24:=by
   by_cases q:2≤f
   · have:=oM hwf hf q;omega
   · have:=oM hwf hg (by omega);omega
 refine Zd dz λaa ab=> ?_
 replace hB:=Ze hB ab
 have hS:=dz.refl aa
 refine Tq 0 rfl rfl hS<|Tc 1 rfl rfl hS<|Tf 2 rfl rfl lY hS<|Tk 3 rfl (λ_ hq=>cB (v:= .pointer (some ⟨bz,0,none⟩)) rfl iK (At.cell (hq.at (On hB hbd)) rfl)) hS<|Ti 4 rfl rfl hS<|Tq 6 rfl rfl hS<|Tc 7 rfl rfl hS<|Tf 8 rfl rfl lY hS<|Tk 9 rfl (λ_ hq=>cB (v:= .pointer (some ⟨bz,0,none⟩)) rfl iK (At.cell (hq.at (On hB hbd)) rfl)) hS<|Ti 10 rfl rfl hS<|To 5 rfl (TC Cz (kD _ _ _ _ _ _ _ _ (On hB hz) (fC.below hB hD) (by omega)) rfl λaA aB t D=>⟨.inl (hS.trans t),?_⟩)
 replace hB:=Ze hB t
 replace hS:=hS.trans t
 rw[EJ hf]at D
 obtain rfl:=D
 refine To 11 rfl (TC Cz (kD _ _ _ _ _ _ _ _ (On hB hz) (fC.below hB hD) (by omega)) rfl λaC aD u E=>⟨.inl (hS.trans u),?_⟩)
 replace hB:=Ze hB u
 replace hS:=hS.trans u
 rw[EJ hg]at E
 obtain rfl:=E
 refine jK (dd:=some 56) 12 jW rfl rfl rfl rfl (Yd.val (Vw rfl rfl) ⟨.inl hS,?_⟩)
 refine Ti 13 rfl rfl hS<|Td ?_
 generalize hl:min (dQ ns f) (dQ ns g)=l at h24'
 have H1:=iw hwf hf (l:=l) (by omega) h24'
 have H2:=iw hwf hg (l:=l) (by omega) h24'
 have hn1:=aaG (iW hwf f hf f0).choose_spec
 have hn2:=aaG (iW hwf g hg g0).choose_spec
 have hla:=nC hwf H1.va
 have hlb:=nC hwf H2.va
 have vla:=H1.la
 have vlb:=H2.la
 have hco:=hO.cost ns f g l hwf hf hg r hl.symm h24'
 refine Zr<|Zy (cI xf rfl λaE aF ac ad c=> ?_)
 have F:=ZO ac hB
 replace hB:=Ze hB ad
 refine Zy (cI xf rfl λaG aH G ae d=> ?_)
 have H:=ZO G hB
 have s:=Zn G c.lt
 obtain⟨hB,c⟩:=ae.k2 hB c
 refine ct<|Zr<|Zp rfl<|Zc rfl<|Zf rfl lY<|ZL (.pointer (some ⟨bz,0,none⟩)) rfl iK (On hB hbd) rfl<|Zi rfl<|Zi rfl<|ZC Il (m0 _ _ _ _ _ _ _ _ _ (On hB hz) (fC.below hB hD) m5) rfl λaI aJ af ag=> ?_
 obtain⟨hB,c,d⟩:=af.k3 hB c d
 obtain rfl:=ag
 refine Zw (.tuple #[.int .i64 _, .int .i64 _]) rfl<|Zv (c7 rfl)<|Zv (da rfl)<|Zv (fo rfl rfl ia Om Om)<|Zy (dm (v:= .int .i64 _) rfl rfl cK rfl c (by show 0<2;decide) λaK I ah=> ?_)
 replace hB:=Zg hB I F
 replace d:=At.grownNe d (Ne.symm s) I
 replace c:=ah
 replace c:At _ _ #[_,_] _:=c
 refine Zv (fo rfl rfl ia Om Om)<|Zy (dm (v:= .int .i64 _) rfl rfl cK rfl c (by show 1<2;decide) λaL J ai=> ?_)
 replace hB:=Zg hB J F
 replace d:=At.grownNe d (Ne.symm s) J
 replace c:=ai
 replace c:At _ _ #[_,_] _:=c
 refine ct<|Zr<|Zp rfl<|Zc rfl<|Zf rfl lY<|ZL (.pointer (some ⟨bz,0,none⟩)) rfl iK (On hB hbd) rfl<|Zi rfl<|Zi rfl<|ZC Il (m0 _ _ _ _ _ _ _ _ _ (On hB hz) (fC.below hB hD) m5) rfl λaM aN aj ak=> ?_
 obtain⟨hB,c,d⟩:=aj.k3 hB c d
 obtain rfl:=ak
 refine Zw (.tuple #[.int .i64 _, .int .i64 _]) rfl<|Zv (c7 rfl)<|Zv (da rfl)<|Zv (fo rfl rfl ia Om Om)<|Zy (dm (v:= .int .i64 _) rfl rfl cK rfl d (by show 0<2;decide) λaO K al=> ?_)
 replace hB:=Zg hB K H
 replace c:=At.grownNe c s K
 replace d:=al
 replace d:At _ _ #[_,_] _:=d
 refine Zv (fo rfl rfl ia Om Om)<|Zy (dm (v:= .int .i64 _) rfl rfl cK rfl d (by show 1<2;decide) λaP L ao=> ?_)
 replace hB:=Zg hB L H
 replace c:=At.grownNe c s L
 replace d:=ao
 replace d:At _ _ #[_,_] _:=d
 refine ct ?_
 replace hz:=On hB hz
 replace hbd:=On hB hbd
 replace hD:=fC.below hB hD
 replace hdn:=abt hB hdn
 replace hX:=Dx.trans hX (Dx.below hB)
 have hzs:=an hN0 (Below.size C)
 replace hB:=Below.trans C (Below.mono hB hzs)
 refine Zr<|Zp rfl<|Zv (fo rfl rfl ia Om Om)<|Zl rfl cK c rfl<|Zv (fo rfl rfl ia Om Om)<|Zl rfl cK d rfl<|ZH xm (ih N ba bm bz bd bx R ns dl (dH ns f l) (dH ns g l) _ (an hN0 (Below.size hB)) hz hbd hD hdn hdone lox hxm H1.va H2.va Om) rfl λaQ aR ap=> ?_
 obtain⟨O,P,Q,dl11_5,rfl,h,aq,e,hdn11_5,hdone11_5⟩:=ap
 replace hz:=ab6 hD hdn h hz Dd Dd
 replace hbd:=ab6 hD hdn h hbd Dd Dd
 replace hX:=Dx.trans hX h
 replace hB:=Below.dx hB (am _) hN0 h
 replace c:=ab6 hD hdn h c Dd Dd
 replace d:=ab6 hD hdn h d Dd Dd
 replace hD:=aq
 replace hdn:=hdn11_5
 replace hdone:=hdone11_5
 refine Zw (.tuple #[.int .i64 (P:Int), .int .i64 Q]) rfl<|Zv (c7 rfl)<|Zv (da rfl)<|Zi rfl<|ZZ rfl<|Zq<|Zr<|Zi rfl<|Zv (ep rfl rfl)<|ct<|ZQ rfl (λx=> ?_) λx=> ?_
 refine Zr<|Zi rfl<|Zi rfl<|ZZ rfl<|Zt<|dL (v:= .int .i64 0) rfl (v1:= .int .i64 _) rfl ?_
 try rw[hl]
 exact⟨_,0,_,_,rfl,hX,hD,e.fail x Om,hdn,hdone⟩
 refine cu ?_
 have he1:Q=0:=aaa x
 subst he1
 obtain⟨a1,a2,a3⟩:=e.old H1.va
 obtain⟨b1,b2,b3⟩:=e.old H1.vb
 obtain⟨c1,c2,c3⟩:=e.old H2.va
 obtain⟨d1,d2,d3⟩:=e.old H2.vb
 obtain⟨o1,o2,_⟩:=e.ok rfl
 have vlc:=H1.lb
 have vld:=H2.lb
 refine Zd (λa b=>Dx 228 N [bx,ba,bm] a b) λS j=> ?_
 obtain⟨hz,hbd⟩:=j.k2 hz hbd
 replace hD:=fC.ext j hD
 obtain⟨hdn,hX⟩:=j.k2 hdn hX
 replace hB:=cW hB j hN0
 obtain⟨c,d⟩:=j.k2 c d
 have hS:Dx 228 N [bx,ba,bm] S S:=Dx.refl
 refine Tq 0 rfl rfl hS<|Tc 1 rfl rfl hS<|Tf 2 rfl rfl Gq hS<|Tk 3 rfl (λ_ hq=>cB (v:= .func (.func gh) #[] #[]) rfl NA (At.cell (ab6 hD hdn hq hbd Dd Dd) rfl)) hS<|Tq 4 rfl rfl hS<|Tk 5 rfl (λ_ hq=>cy rfl zi rfl (ab6 hD hdn hq c Dd Dd)) hS<|Tk 6 rfl (λ_ hq=>cy rfl zi rfl (ab6 hD hdn hq d Dd Dd)) hS<|To 7 rfl (acm (ij (q:=gh) (first:= #[]) (cap:= #[]) (vs:= #[.pointer (some ⟨bd,0,none⟩), .agg #[_,_], .agg #[_,_]]) rfl hcH Gb) (hH N ba bm bz bd bx R O dl11_5 (dH ns f l) (dY ns f l) (dH ns g l) (dY ns g l) l _ (an hN0 (Below.size hB)) hz hbd hD hdn hdone lox hxm a1 b1 c1 d1 Om Om Om Om h24' Om) λaS aT y=>⟨.inl (PD.dx y),?_⟩)
 replace hS:=PD.dx y
 obtain⟨ar,T,U,dl14_7,rfl,i,au,m,hdn14_7,hdone14_7⟩:=y
 replace hz:=ab6 hD hdn i hz Dd Dd
 replace hbd:=ab6 hD hdn i hbd Dd Dd
 replace hX:=Dx.trans hX i
 replace hB:=Below.dx hB (am _) hN0 i
 replace c:=ab6 hD hdn i c Dd Dd
 replace d:=ab6 hD hdn i d Dd Dd
 replace hD:=au
 replace hdn:=hdn14_7
 replace hdone:=hdone14_7
 refine Tw 8 (.tuple #[.int .i64 (T:Int), .int .i64 U]) rfl rfl hS<|Tk 9 rfl (λ_ _=>c7 rfl) hS<|Tk 10 rfl (λ_ _=>da rfl) hS<|Ti 11 rfl rfl hS<|Ti 12 rfl rfl hS<|Td<|Zq ?_
 rw[hO.hpre ns O l _ _ _ _ e.pre hwf H1.va H1.vb H2.va H2.vb]at m
 refine Zr<|Zi rfl<|Zv (ep rfl rfl)<|ct<|ZQ rfl (λz=> ?_) λz=> ?_
 refine Zr<|Zi rfl<|Zi rfl<|ZZ rfl<|Zt<|dL (v:= .int .i64 0) rfl (v1:= .int .i64 _) rfl ?_
 try rw[hl]
 exact⟨_,0,_,_,rfl,hX,hD,e.fail2 m z Om,hdn,hdone⟩
 refine cu ?_
 have he2:U=0:=aaa z
 subst he2
 obtain⟨p1,p2,_⟩:=m.ok rfl
 obtain⟨q1,_,q3⟩:=m.old o1
 refine Zr<|Zp rfl<|Zc rfl<|Zf rfl lY<|ZL (.pointer (some ⟨bz,0,none⟩)) rfl iK hbd rfl<|Zi rfl<|Zi rfl<|Zi rfl<|ZH Jl (oF N ba bm bz R ar l P T _ (an hN0 (Below.size hB)) hz hD q1 p1 Om Om h24') rfl λaU aV av=> ?_
 obtain⟨aW,V,aw,rfl,A,ax,W⟩:=av
 replace hbd:=At.dx hD A hbd Dd Dd
 replace hdn:=du.dx hD A hdn hxm
 replace hX:=Dx.trans hX (acB A)
 replace hD:=ax
 refine Zw (.tuple #[.int .i64 (V:Int), .int .i64 aw]) rfl<|Zv (c7 rfl)<|Zv (da rfl)<|Zi rfl<|ZZ rfl<|Zq ?_
 have hgot:=VB hO hwf hf hg hl.symm h24' e m (W.cheap (abX _ _)) hco
 replace hdone:=hdone.pre W.pre
 refine Zr<|Zi rfl<|Zv (dW rfl rfl)<|ct<|ZQ rfl (λX=> ?_) λX=> ?_
 refine cN<|Zp rfl<|Zc rfl<|Zf rfl zT<|ZL (.map (some bx)) rfl DH hbd rfl<|Zi rfl<|Zi rfl<|Zv (jp (h0:=rfl) (k0:=rfl) (h1:=rfl) (k1:=rfl) (c0_0:= .int .i64 _) (c1_0:= .int .i64 _))<|Zi rfl ?_
 refine gK (dd:=none) rfl rfl rfl (fJ (enc:=pz) (encV:=eH) (k:=(f,g)) (v:=(V:Int)) rfl rfl rfl DM A6 (λa=>⟨a,rfl⟩) yd hdn (λaX Y ay=> ?_))
 replace hD:=fC.grownMap hD hdn hxm Y
 replace hX:=Dx.trans hX (Dx.grown Y gj lox)
 replace hdn:=ay
 refine ct<|Zr<|Zi rfl<|Zi rfl<|Zi rfl<|ZZ rfl<|Zt<|dL (v:= .int .i64 _) rfl (v1:= .int .i64 _) rfl ?_
 try rw[hl]
 exact⟨_,_,_,_,rfl,hX,hD,hgot,hdn,L6 hdone hf hg hl hgot X⟩
 refine cu<|Zr<|Zi rfl<|Zi rfl<|Zi rfl<|ZZ rfl<|Zt<|dL (v:= .int .i64 _) rfl (v1:= .int .i64 _) rfl ?_
 try rw[hl]
 exact⟨_,_,_,_,rfl,hX,hD,hgot,hdn,hdone⟩
theorem yx (ge gh:Nat) (o:Op) (hO:J4 o) (hE:Yq ge o) (hcE:cX Tryz.prog ge=true) (hcH:cX Tryz.prog gh=true) (hH:∀n,B4 ge gh o n→W2 ge gh o n):∀n,B4 ge gh o n
  |0=>λN ba bm bz bd bx R ns dl f g w _ _ _ hD _ _ _ _ hf _ hn=>by
    have:=nC hD.wf hf
    omega
  |n+1=>λN ba bm bz bd bx R ns dl f g w=>YQ ge gh n o N ba bm bz bd bx R ns dl f g w hO hE hcE hcH (yx ge gh o hO hE hcE hcH hH n) (hH n (yx ge gh o hO hE hcE hcH hH n))
theorem lf (ge gh:Nat) (o:Op) (N ba bm bz R:Nat) (ns:List Nd) (f g:Nat) (w:World) (hN0:N≤w.heap.size) (hz:At w bz #[.pointer (some ⟨ba,0,none⟩)] 282) (hD:fC 222 228 N ba bm R w ns) (hf:f<ns.length+2) (hg:g<ns.length+2) (hDo:∀n,B4 ge gh o n):
    mS Tryz.prog 254 #[.pointer (some ⟨bz,0,none⟩), .int .i64 (f:Int), .int .i64 (g:Int), .func (.func ge) #[] #[], .func (.func gh) #[] #[]] w λv w'=>PO 222 228 N ba bm R w ns (o.cst ns f g) (min (dQ ns f) (dQ ns g)) (o.res (M ns f) (M ns g)) v w':=by
 refine d5 (n:=27) (N:=N) Tryz.func254 rfl rfl rfl λhB=> ?_
 have hX:Dx 228 N [ba,bm] w w:=Dx.refl
 have hroom:=hD.room
 have htop:=hD.top
 refine Zr<|Zi rfl<|ZZ rfl<|Zq<|Zr<|Zp rfl<|Zi rfl<|Zi rfl<|Zy (Gg (u0:= .int .i64 _) (u1:= .int .i64 _) rfl rfl cM eQ rfl rfl Dd Dd λi W7 j d k=> ?_)
 have l:N≤i:=j▸(an hN0 (Below.size hB))
 replace hz:=d.at hz
 replace hD:=fC.ext d hD
 replace hX:=Dx.trans hX (Dx.ext d)
 replace hB:=cW hB d hN0
 have a:=yH (enc:=dJ) (sz:=1) (a0:=_) (a1:=_) k rfl rfl rfl rfl l
 refine ZC RW (tD N ba bm bz R ns _ [(f:Int),(g:Int)] _ hz hD a.sl gj iq) rfl λx y b m=> ?_
 replace hz:=b.at hz
 replace hD:=fC.ext b hD
 replace hX:=Dx.trans hX (Dx.ext b)
 replace hB:=cW hB b hN0
 replace a:=b.ow a
 obtain rfl:=m
 refine Zv (eR rfl)<|ct<|ZQ rfl (λh=> ?_) λh=> ?_
 exact absurd (Mc h) (by simp[oL];omega)
 refine cu ?_
 have hbmlt:=hD.hm.lt
 have hszb:=Below.size hB
 have hNszb:=an hN0 hszb
 refine Zr<|Zp rfl<|Zw (.func _ _ _) rfl<|Zw (.func _ _ _) rfl<|ZC Rj (uG bz ge gh _) rfl λz A c p=> ?_
 replace hz:=c.at hz
 replace hD:=fC.ext c hD
 replace hX:=Dx.trans hX (Dx.ext c)
 replace hB:=cW hB c hN0
 replace a:=c.ow a
 obtain⟨bd3_3,bx3_3,rfl,hbd,hdn,lbd3_3,lbx3_3⟩:=p
 have lox:N≤bx3_3:=an hNszb lbx3_3
 have hxm:bx3_3≠bm:=λe=>Nat.lt_irrefl _ (aao hbmlt (e▸lbx3_3))
 have hXd:=hX
 refine Zi rfl<|Zi rfl ?_
 refine mA (dd:=some 24) rfl rfl rfl (ij (q:=259) (first:= #[.pointer (some ⟨bd3_3,0,none⟩)]) (cap:= #[]) (vs:= #[.pointer (some ⟨bd3_3,0,none⟩), .int .i64 _, .int .i64 _]) rfl xm Gb) (hDo 25 N ba bm bz bd3_3 bx3_3 R ns [] f g _ (an hN0 (Below.size hB)) hz hbd hD hdn sB.nil lox hxm hf hg Om) (λB C r=> ?_)
 obtain⟨D,E,F,dl3_6,rfl,s,t,u,_,_⟩:=r
 replace hX:=Dx.new hX (an hszb lbx3_3) s
 replace hD:=t
 refine Zv (c7 rfl)<|Zv (da rfl)<|Zi rfl<|ZZ rfl<|Zt<|dL (v:= .int .i64 _) rfl (v1:= .int .i64 _) rfl ?_
 exact⟨_,_,_,rfl,hX,hD,u⟩
theorem Z3:∀n,B4 261 256 pb n:=yx _ _ pb HA (λf g w=>rx f g w) Ru JP λn ih N ba bm bz bd bx R ns dl f0 f1 g0 g1 l w=>IX _ n pb N ba bm bz bd bx R ns dl f0 f1 g0 g1 l w (λ_ _ _ _ _ _=>rfl) (λ_ _ _ _=>rfl) ih
theorem kO (N ba bm bz R:Nat) (ns:List Nd) (f g:Nat) (w:World) (hN0:N≤w.heap.size) (hz:At w bz #[.pointer (some ⟨ba,0,none⟩)] 282) (hD:fC 222 228 N ba bm R w ns) (hf:f<ns.length+2) (hg:g<ns.length+2):
    mS Tryz.prog 226 #[.pointer (some ⟨bz,0,none⟩), .int .i64 (f:Int), .int .i64 (g:Int)] w λv w'=>PO 222 228 N ba bm R w ns (pb.cst ns f g) (min (dQ ns f) (dQ ns g)) (pb.res (M ns f) (M ns g)) v w':=by
 refine d5 (n:=14) (N:=N) Tryz.func226 rfl rfl rfl λhB=> ?_
 have hX:Dx 228 N [ba,bm] w w:=Dx.refl
 refine Zr<|Zi rfl<|ZZ rfl<|Zr<|Zp rfl<|Zi rfl<|Zi rfl<|ZH CQ (lf _ _ pb N ba bm bz R ns f g _ hN0 hz hD hf hg Z3) rfl λe W5 a=> ?_
 obtain⟨h,i,j,rfl,b,c,d⟩:=a
 replace hX:=Dx.trans hX (b)
 replace hD:=c
 refine Zv (c7 rfl)<|Zv (da rfl)<|Zi rfl<|ZZ rfl<|Zt<|dL (v:= .int .i64 _) rfl (v1:= .int .i64 _) rfl ?_
 exact⟨_,_,_,rfl,hX,hD,d⟩
theorem ZW:∀n,B4 255 256 vl n:=yx _ _ vl HJ (λf g w=>sD f g w) Si JP λn ih N ba bm bz bd bx R ns dl f0 f1 g0 g1 l w=>IX _ n vl N ba bm bz bd bx R ns dl f0 f1 g0 g1 l w (λ_ _ _ _ _ _=>rfl) (λ_ _ _ _=>rfl) ih
theorem ot (N ba bm bz R:Nat) (ns:List Nd) (f g:Nat) (w:World) (hN0:N≤w.heap.size) (hz:At w bz #[.pointer (some ⟨ba,0,none⟩)] 282) (hD:fC 222 228 N ba bm R w ns) (hf:f<ns.length+2) (hg:g<ns.length+2):
    mS Tryz.prog 223 #[.pointer (some ⟨bz,0,none⟩), .int .i64 (f:Int), .int .i64 (g:Int)] w λv w'=>PO 222 228 N ba bm R w ns (vl.cst ns f g) (min (dQ ns f) (dQ ns g)) (vl.res (M ns f) (M ns g)) v w':=by
 refine d5 (n:=14) (N:=N) Tryz.func223 rfl rfl rfl λhB=> ?_
 have hX:Dx 228 N [ba,bm] w w:=Dx.refl
 refine Zr<|Zi rfl<|ZZ rfl<|Zr<|Zp rfl<|Zi rfl<|Zi rfl<|ZH CQ (lf _ _ vl N ba bm bz R ns f g _ hN0 hz hD hf hg ZW) rfl λe W5 a=> ?_
 obtain⟨h,i,j,rfl,b,c,d⟩:=a
 replace hX:=Dx.trans hX (b)
 replace hD:=c
 refine Zv (c7 rfl)<|Zv (da rfl)<|Zi rfl<|ZZ rfl<|Zt<|dL (v:= .int .i64 _) rfl (v1:= .int .i64 _) rfl ?_
 exact⟨_,_,_,rfl,hX,hD,d⟩
end
section
open Go Go.RowKit
theorem RP:dT Tryz.prog 321=some (.agg #[.int .i64 0, .int .i64 0, .int .i64 0, .int .i64 0, .int .i64 0, .int .i64 0]):=by kernel_rfl
theorem Hz:(Tryz.prog.info? 320).map (·.size)=some 2:=by kernel_rfl
theorem uw {f:Nat→Value} {w:World} {d:Option Nat} {ty:TypeId} {ps:String} {af:Array Edge} {g:Option (Nat×Bool)} {x0 x1 x2:Operand} {c0_0 c0_1 c1_0 c1_1 c2_0 c2_1:Value} (h0:dg f x0= .agg #[c0_0,c0_1]) (h1:dg f x1= .agg #[c1_0,c1_1]) (h2:dg f x2= .agg #[c2_0,c2_1]):
    (execOp (dg f) ⟨d, .build 321 #[(0,x0),(1,x1),(2,x2)],ty,ps,af,g⟩).run Tryz.prog w= .ok (.value (.agg #[c0_0,c0_1,c1_0,c1_1,c2_0,c2_1])) w:=by
  obtain⟨i0,hi0,hz0⟩:=Do.1 (show (Tryz.prog.info? 321).bind (·.zero)=_ from RP)
  obtain⟨j320,hj320,hs320⟩:=go.1 Hz
  simp[execOp,h0,h1,h2,Instr.build,zeroValue,typeInfo,sizeOf,hi0,hz0,run_underlying Tryz.underlying321,Instr.fill,dX,hj320,hs320]
theorem CH:cX Tryz.prog 226=true:=by kernel_rfl
theorem Sc:cX Tryz.prog 257=true:=by kernel_rfl
theorem PA:cX Tryz.prog 258=true:=by kernel_rfl
theorem R0 {f0 f1 g0 g1 i:Nat} (hi:i<3) (w:World):(part 320 #[.int .i64 (f1:Int), .int .i64 (g0:Int), .int .i64 (f0:Int), .int .i64 (g1:Int), .int .i64 (f1:Int), .int .i64 (g1:Int)] (i*2)).run Tryz.prog w= .ok (.agg #[.int .i64 ((DD f0 f1 i:Nat):Int), .int .i64 ((Dz g0 g1 i:Nat):Int)]) w:=by
  obtain⟨j0,hj0,hs0⟩:=go.1 (show (Tryz.prog.info? 320).map (·.size)=some 2 by kernel_rfl)
  have:i=0∨i=1∨i=2:=by omega
  rcases this with rfl|rfl|rfl<;>simp[part,isAgg,sizeOf,typeInfo,hj0,hs0,run_underlying Tryz.underlying320]<;>exact⟨rfl,rfl⟩
theorem Rh (w:World):(sizeOf 320).run Tryz.prog w= .ok 2 w:=by
  obtain⟨j0,hj0,hs0⟩:=go.1 (show (Tryz.prog.info? 320).map (·.size)=some 2 by kernel_rfl)
  simp[sizeOf,typeInfo,hj0,hs0]
set_option maxRecDepth 10000 in
theorem Se (ge gh n:Nat) (N ba bm bz bd bx R:Nat) (ns:List Nd) (dl:List ((Nat×Nat)×Int)) (f0 f1 g0 g1 l:Nat) (w:World) (ih:B4 ge gh rn n) (hN0:N≤w.heap.size) (hz:At w bz #[.pointer (some ⟨ba,0,none⟩)] 282) (hbd:At w bd #[.pointer (some ⟨bz,0,none⟩), .func (.func ge) #[] #[], .func (.func gh) #[] #[], .map (some bx)] 324) (hD:fC 222 228 N ba bm R w ns) (hdn:du pz eH w bx dl) (hdone:sB rn.res ns dl) (lox:N≤bx) (hxm:bx≠bm) (v0:f0<ns.length+2) (v1:f1<ns.length+2) (v2:g0<ns.length+2) (v3:g1<ns.length+2) (k0:l<dQ ns f0) (k1:l<dQ ns f1) (k2:l<dQ ns g0) (k3:l<dQ ns g1) (h24:l<24) (hn:24-l≤n):
    mS Tryz.prog 258 #[.pointer (some ⟨bd,0,none⟩), .agg #[.int .i64 (f0:Int), .int .i64 (f1:Int)], .agg #[.int .i64 (g0:Int), .int .i64 (g1:Int)]] w λv w'=>PD 222 228 N ba bm R bx rn.res w ns (rn.hcst ns l f0 f1 g0 g1) (l+1) (rn.resH (M ns f0) (M ns f1) (M ns g0) (M ns g1)) v w':=by
 refine d5 (n:=58) (N:=N) Tryz.func258 rfl rfl rfl λhB=> ?_
 have hX:Dx 228 N [bx,ba,bm] w w:=Dx.refl
 have hwn:=hD.wf
 refine Zr<|Zy (dt (c:= #[_,_]) rfl rfl λs W3 U m a=> ?_)
 obtain⟨hz,hbd⟩:=m.k2 hz hbd
 replace hD:=fC.ext m hD
 obtain⟨hdn,hX⟩:=m.k2 hdn hX
 replace hB:=cW hB m hN0
 refine Zy (dt (c:= #[_,_]) rfl rfl λt W6 E j b=> ?_)
 have V:=Zn E a.lt
 obtain⟨hz,hbd⟩:=j.k2 hz hbd
 replace hD:=fC.ext j hD
 obtain⟨hdn,hX⟩:=j.k2 hdn hX
 replace hB:=cW hB j hN0
 replace a:=j.at a
 refine Zi rfl<|ZZ rfl<|Zr<|ZZ rfl<|Zq<|Zr<|Zv (fo rfl rfl ia Om Om)<|Zl rfl cK a rfl<|Zv (fo rfl rfl ia Om Om)<|Zl rfl cK b rfl<|Zv (jp (h0:=rfl) (k0:=rfl) (h1:=rfl) (k1:=rfl) (c0_0:= .int .i64 _) (c1_0:= .int .i64 _))<|Zv (fo rfl rfl ia Om Om) ?_
 refine Zl rfl cK a rfl<|Zv (fo rfl rfl ia Om Om)<|Zl rfl cK b rfl<|Zv (jp (h0:=rfl) (k0:=rfl) (h1:=rfl) (k1:=rfl) (c0_0:= .int .i64 _) (c1_0:= .int .i64 _))<|Zv (fo rfl rfl ia Om Om)<|Zl rfl cK a rfl<|Zv (fo rfl rfl ia Om Om)<|Zl rfl cK b rfl<|Zv (jp (h0:=rfl) (k0:=rfl) (h1:=rfl) (k1:=rfl) (c0_0:= .int .i64 _) (c1_0:= .int .i64 _))<|Zv (uw (h0:=rfl) (h1:=rfl) (h2:=rfl))<|ZZ rfl<|cx ?_
 refine cS (σ:=(Nat)×(Nat)×(List Nd)×(List ((Nat×Nat)×Int))) [6,8,10,12,29,56] (λ(i,out,nsc,dlc)=>[(29, .int .i64 (i:Int)),(8, .int .i64 (out:Int))]) (λsg W=>match sg with|(i,out,nsc,dlc)=>(At W bz _ 282)∧(At W bd _ 324)∧(Dx 228 N [bx,ba,bm] w W)∧(Below N w W)∧(At W s _ 320)∧(At W t _ 320)∧(fC 222 228 N ba bm R W nsc)∧(du pz eH W bx dlc)∧(i≤3)∧(sB rn.res nsc dlc)∧(jY ns nsc R (Px ns l f0 f1 g0 g1 i) (l+1) (JU (M ns f0) (M ns f1) (M ns g0) (M ns g1) i) out 0)∧(True)) (λ(i,out,nsc,dlc)=>3-i) ((0,0,ns,dl)) ⟨rfl,rfl,trivial⟩ ⟨hz,hbd,hX,hB,a,b,hD,hdn,(my _),hdone,(jY.same Om (by rw[PL];omega) (YI _ _ _ _ ns)),trivial⟩ ?_
 rintro⟨i,out,nsc,dlc⟩ X u ⟨hz,hbd,hX,hB,a,b,hD,hdn,hi,hdone,hg,_⟩ Y F
 refine Zr<|Zv (dk rfl rfl)<|ct<|Zq<|ZQ rfl (λG=> ?_) λG=> ?_
 refine cu<|Zq<|cx ?_
 have x:=hB
 replace hB:=Below.refl u.heap.size u
 have hcw:=hD.wf
 have hpx:DD f0 f1 i<ns.length+2:=by rcases qM (show i<3 by omega) f0 f1 with e|e<;>rw[e]<;>assumption
 have hpy:Dz g0 g1 i<ns.length+2:=by rcases rm (show i<3 by omega) g0 g1 with e|e<;>rw[e]<;>assumption
 have klx:l<dQ ns (DD f0 f1 i):=by rcases qM (show i<3 by omega) f0 f1 with e|e<;>rw[e]<;>assumption
 have kly:l<dQ ns (Dz g0 g1 i):=by rcases rm (show i<3 by omega) g0 g1 with e|e<;>rw[e]<;>assumption
 obtain⟨x1,x2,x3⟩:=hg.old hpx
 obtain⟨y1,y2,y3⟩:=hg.old hpy
 obtain⟨o1,o2,o3⟩:=hg.ok rfl
 refine Zr<|Zv (Fg rfl rfl Tryz.underlying321 Om (Rh _) (R0 Om _))<|Zy (cI xf rfl λy Z q H o=> ?_)
 have I:=ZO q hB
 have aa:s≠y:=Nat.ne_of_lt (q▸(On hB a).lt)
 have ab:t≠y:=Nat.ne_of_lt (q▸(On hB b).lt)
 replace hB:=Ze hB H
 refine Zy (cz rfl rfl zi rfl o rfl rfl λac J K=> ?_)
 replace hB:=Zg hB J I
 replace o:=K
 refine ct ?_
 replace hz:=On hB hz
 replace hbd:=On hB hbd
 replace hX:=Dx.trans hX (Dx.below hB)
 replace a:=On hB a
 replace b:=On hB b
 replace hD:=fC.below hB hD
 replace hdn:=abt hB hdn
 have hzs:=an hN0 (Below.size x)
 replace hB:=Below.trans x (Below.mono hB hzs)
 refine Zr<|Zp rfl<|Zv (fo rfl rfl ia Om Om)<|Zl rfl cK o rfl<|Zv (fo rfl rfl ia Om Om)<|Zl rfl cK o rfl<|ZH xm (ih N ba bm bz bd bx R nsc dlc (DD f0 f1 i) (Dz g0 g1 i) _ (an hN0 (Below.size hB)) hz hbd hD hdn hdone lox hxm x1 y1 (by rw[x3,y3];omega)) rfl λad ae L=> ?_
 obtain⟨O,z,A,dl5_5,rfl,g,P,p,hdn5_5,hdone5_5⟩:=L
 replace hz:=ab6 hD hdn g hz Dd Dd
 replace hbd:=ab6 hD hdn g hbd Dd Dd
 replace hX:=Dx.trans hX g
 replace hB:=Below.dx hB (am _) hN0 g
 replace a:=ab6 hD hdn g a Dd Dd
 replace b:=ab6 hD hdn g b Dd Dd
 replace hD:=P
 replace hdn:=hdn5_5
 replace hdone:=hdone5_5
 refine Zw (.tuple #[.int .i64 (z:Int), .int .i64 A]) rfl<|Zv (c7 rfl)<|Zv (da rfl)<|Zi rfl<|ZZ rfl<|Zq<|Zr<|Zi rfl<|Zv (dW rfl rfl)<|ct<|ZQ rfl (λr=> ?_) λr=> ?_
 have he1:A=0:=r
 subst he1
 obtain⟨d1,d2,d3⟩:=p.ok rfl
 obtain⟨q1,q2,q3⟩:=p.old o1
 have hw1:=hD.wf
 refine cN<|Zp rfl<|Zc rfl<|Zf rfl lY<|ZL (.pointer (some ⟨bz,0,none⟩)) rfl iK hbd rfl<|Zi rfl<|Zi rfl<|ZH CH (kO N ba bm bz R O out z _ (an hN0 (Below.size hB)) hz hD q1 d1) rfl λaf ag Q=> ?_
 obtain⟨S,B,C,rfl,d,T,D⟩:=Q
 replace hz:=At.dx hD d hz Dd Dd
 replace hbd:=At.dx hD d hbd Dd Dd
 replace hX:=Dx.trans hX (acB d)
 replace hB:=Below.dx hB (am _) hN0 d
 replace a:=At.dx hD d a Dd Dd
 replace b:=At.dx hD d b Dd Dd
 replace hdn:=du.dx hD d hdn hxm
 replace hD:=T
 have hgj:=Vl hwn hcw hw1 (show i<3 by omega) h24 v0 v1 v2 v3 k0 k1 k2 k3 hg p D
 replace hdone:=hdone.pre D.pre
 refine Zw (.tuple #[.int .i64 (B:Int), .int .i64 C]) rfl<|Zv (c7 rfl)<|Zv (da rfl)<|Zi rfl<|ZZ rfl<|Zr<|Zi rfl<|Zv (ep rfl rfl)<|ct<|ZQ rfl (λf=> ?_) λf=> ?_
 refine Zr<|Zi rfl<|Zi rfl<|ZZ rfl<|Zt<|dL (v:= .int .i64 0) rfl (v1:= .int .i64 _) rfl ?_
 exact⟨_,0,_,_,rfl,hX,hD,jY.fail (hgj) f (by exact TA ns l f0 f1 g0 g1 (show i+1≤3 by omega)),hdn,hdone⟩
 refine cu<|ZT rfl rfl rfl ?_
 exact F _ _ ((i+1,B,S,dl5_5)) Za ⟨rfl,rfl,trivial⟩ ⟨hz,hbd,hX,hB,a,b,hD,(by exact hdn),Om,hdone,(by have he2:C=0:=aaa f;subst he2;exact hgj),trivial⟩ (by show 3-(i+1)<3-i;omega)
 refine cu<|Zr<|Zi rfl<|Zv (ep rfl rfl)<|ct<|ZQ rfl (λf=> ?_) λf=> ?_
 refine Zr<|Zi rfl<|Zi rfl<|ZZ rfl<|Zt<|dL (v:= .int .i64 0) rfl (v1:= .int .i64 _) rfl ?_
 exact⟨_,0,_,_,rfl,hX,hD,hg.fail2 p f (by have e:=uk hg.pre hwn hpx hpy;have k:=XV (ns:=ns) (l:=l) (f0:=f0) (f1:=f1) (g0:=g0) (g1:=g1) (show i<3 by omega);rw[←e]at k;exact k),hdn,hdone⟩
 exact absurd f (λh=>h r)
 refine cR ?_
 obtain rfl:i=3:=by omega
 refine Zr<|Zi rfl<|Zi rfl<|ZZ rfl<|Zt<|dL (v:= .int .i64 _) rfl (v1:= .int .i64 0) rfl ?_
 exact⟨_,_,_,_,rfl,hX,hD,hg.weak (am _) (YL _ _ _ _),hdn,hdone⟩
theorem ZY:∀n,B4 257 258 rn n:=yx _ _ rn Wa (λf g w=>sx f g w) Sc PA λn ih N ba bm bz bd bx R ns dl f0 f1 g0 g1 l w=>Se _ _ n N ba bm bz bd bx R ns dl f0 f1 g0 g1 l w ih
theorem ox (N ba bm bz R:Nat) (ns:List Nd) (f g:Nat) (w:World) (hN0:N≤w.heap.size) (hz:At w bz #[.pointer (some ⟨ba,0,none⟩)] 282) (hD:fC 222 228 N ba bm R w ns) (hf:f<ns.length+2) (hg:g<ns.length+2):
    mS Tryz.prog 224 #[.pointer (some ⟨bz,0,none⟩), .int .i64 (f:Int), .int .i64 (g:Int)] w λv w'=>PO 222 228 N ba bm R w ns (rn.cst ns f g) (min (dQ ns f) (dQ ns g)) (rn.res (M ns f) (M ns g)) v w':=by
 refine d5 (n:=14) (N:=N) Tryz.func224 rfl rfl rfl λhB=> ?_
 have hX:Dx 228 N [ba,bm] w w:=Dx.refl
 refine Zr<|Zi rfl<|ZZ rfl<|Zr<|Zp rfl<|Zi rfl<|Zi rfl<|ZH CQ (lf _ _ rn N ba bm bz R ns f g _ hN0 hz hD hf hg ZY) rfl λe W5 a=> ?_
 obtain⟨h,i,j,rfl,b,c,d⟩:=a
 replace hX:=Dx.trans hX (b)
 replace hD:=c
 refine Zv (c7 rfl)<|Zv (da rfl)<|Zi rfl<|ZZ rfl<|Zt<|dL (v:= .int .i64 _) rfl (v1:= .int .i64 _) rfl ?_
 exact⟨_,_,_,rfl,hX,hD,d⟩
end
section
open Go Go.RowKit
theorem CC:cX Tryz.prog 260=true:=by kernel_rfl
def Ii (n:Nat):Prop:=∀(N ba bm bz R:Nat) (ns:List Nd) (xl:Value) (l:List Int) (lv:Nat) (w:World),(N≤w.heap.size)→(At w bz #[.pointer (some ⟨ba,0,none⟩)] 282)→(fC 222 228 N ba bm R w ns)→(dh dJ 1 w xl l)→(∀m,m∈l→0≤m∧m<16777216)→(l.length≤1000000)→(lv≤24)→25-lv≤n→
  mS Tryz.prog 260 #[.pointer (some ⟨bz,0,none⟩),xl, .int .i64 (lv:Int)] w λv w'=>PO 222 228 N ba bm R w ns (xy lv l) (lv) (bS l lv) v w'
set_option maxRecDepth 10000 in
theorem PP (n:Nat) (N ba bm bz R:Nat) (ns:List Nd) (xl:Value) (l:List Int) (lv:Nat) (w:World) (ih:Ii n) (hN0:N≤w.heap.size) (hz:At w bz #[.pointer (some ⟨ba,0,none⟩)] 282) (hD:fC 222 228 N ba bm R w ns) (hl:dh dJ 1 w xl l) (hm:∀m,m∈l→0≤m∧m<16777216) (hll:l.length≤1000000) (hlv:lv≤24) (hn:25-lv≤n+1):
    mS Tryz.prog 260 #[.pointer (some ⟨bz,0,none⟩),xl, .int .i64 (lv:Int)] w λv w'=>PO 222 228 N ba bm R w ns (xy lv l) (lv) (bS l lv) v w':=by
 refine d5 (n:=71) (N:=N) Tryz.func260 rfl rfl rfl λhB=> ?_
 have hX:Dx 228 N [ba,bm] w w:=Dx.refl
 have hwf:=hD.wf
 have hroom:=hD.room
 have htop:=hD.top
 refine Zr<|Zi rfl<|ZZ rfl<|Zq<|cx<|Zr<|Zw xl rfl<|Zv (cT (v:=xl) rfl hl cM)<|Zv (dW rfl rfl)<|Zb rfl<|ct<|ZQ rfl (λD=> ?_) λD=> ?_
 refine Zr<|Zi rfl<|ZZ rfl<|Zt<|dL (v:= .int .i64 0) rfl (v1:= .int .i64 0) rfl ?_
 exact⟨ns,0,0,rfl,hX,hD,jY.same Om (by rw[PL];exact hlv) (PH Om)⟩
 refine Zr<|Zi rfl<|Zv (dW rfl rfl)<|Zb rfl<|ct<|ZQ rfl (λE=> ?_) λE=> ?_
 refine Zr<|Zi rfl<|ZZ rfl<|Zt<|dL (v:= .int .i64 1) rfl (v1:= .int .i64 0) rfl ?_
 obtain rfl:lv=24:=by omega
 exact⟨ns,1,0,rfl,hX,hD,jY.same Om (by rw[l6 Dd];exact hlv) (Qp Om hm)⟩
 refine cu ?_
 have o:=hB
 replace hB:=Below.refl w.heap.size w
 have hne:1≤l.length:=by omega
 have h24:lv<24:=by omega
 refine Zr<|Zw (.slice none 0 0) rfl<|Zw (.slice none 0 0) rfl<|ct<|Zq<|Zr<|Zw xl rfl<|Zv (cT (v:=xl) rfl (Below.slT hB hl) cM)<|ZZ rfl<|cx ?_
 refine cS (σ:=(Nat)×(Value)×(Value)) [8,9,11,11,24,41] (λ(k,v0,v1)=>[(24, .int .i64 (k:Int)),(8,v0),(9,v1)]) (λsg W=>match sg with|(k,v0,v1)=>(Below w.heap.size w W)∧(cD dJ 1 3 W w.heap.size v0 (AF l lv k))∧(cD dJ 1 3 W w.heap.size v1 (AB l lv k))∧(fl v0 v1)∧(k≤l.length)∧(True)) (λ(k,v0,v1)=>l.length-k) ((0, .slice none 0 0, .slice none 0 0)) ⟨rfl,rfl,rfl,trivial⟩ ⟨hB,cD.nil,cD.nil,acs,(my _),trivial⟩ ?_
 rintro⟨k,v0,v1⟩ ae af ⟨hB,ho,hoo,hap,hk,_⟩ ag p
 refine Zr<|Zv (dk rfl rfl)<|ct<|Zq<|ZQ rfl (λF=> ?_) λF=> ?_
 refine cu<|Zq<|cx<|Zr<|Zv (df (v:=xl) rfl (Below.slT hB hl) rfl cM Om Om)<|Zv (cB (v:= .int .i64 _) rfl cK (dh.cell (Below.slT hB hl) dI 0 Om Om 0 rfl))<|ZZ rfl ?_
 obtain⟨G,ah⟩:=hm (l.getD k 0) (dy (by omega))
 have hbl:(l.getD k 0).toNat<9223372036854775808:=by omega
 have hwl:=MX l lv k
 rw[aal]at hwl
 refine Zr<|Zi rfl<|Zi rfl<|Zv (VI rfl rfl G Om Om)<|Zv (mZ (n:=1) rfl rfl rfl (by exact aaw (aaY _ _) hbl) Dd)<|Zv (dW rfl rfl)<|ct<|ZQ rfl (λd=> ?_) λd=> ?_
 have hbt:(l.getD k 0).toNat.testBit lv=true:=DL.1 d
 refine cN<|Zw v1 rfl<|Zi rfl<|Zy (eK (u:= .int .i64 _) rfl cM eQ rfl Dd Dd λH ai aj I J=> ?_)
 obtain⟨hB,ho,hoo⟩:=I.k3 hB ho hoo
 refine Zy (i6 (v:=v1) (v2:= .slice (some ⟨H,0,none⟩) 1 1) rfl rfl cM eQ Dd hoo (eT J rfl) rfl (n4 hB) (by omega) (by omega) λr ak s e K=> ?_)
 have L:=fl.app (fl.symm hap) K ho
 replace e:=cD.snoc (enc:=dJ) (x:=(l.getD k 0)) rfl rfl rfl rfl e
 replace hB:=ZG hB s hoo
 replace ho:=cD.grownAp ho (fl.symm hap) s
 refine Zw r rfl<|ct<|ZT rfl rfl rfl ?_
 exact p _ _ ((k+1,v0,r)) Za ⟨rfl,rfl,rfl,trivial⟩ ⟨hB,(by (rw[←(XI Om hbt).2];exact ho)),(by (rw[←(XI Om hbt).1];exact e)),(fl.symm L),Om,trivial⟩ (by show l.length-(k+1)<l.length-k;omega)
 have hbt:¬(l.getD k 0).toNat.testBit lv=true:=λq=>d (DL.2 q)
 refine cN<|Zw v0 rfl<|Zi rfl<|Zy (eK (u:= .int .i64 _) rfl cM eQ rfl Dd Dd λM al ao O P=> ?_)
 obtain⟨hB,ho,hoo⟩:=O.k3 hB ho hoo
 refine Zy (i6 (v:=v0) (v2:= .slice (some ⟨M,0,none⟩) 1 1) rfl rfl cM eQ Dd ho (eT P rfl) rfl (n4 hB) (by omega) (by omega) λt ap y f Q=> ?_)
 have S:=fl.app hap Q hoo
 replace f:=cD.snoc (enc:=dJ) (x:=(l.getD k 0)) rfl rfl rfl rfl f
 replace hB:=ZG hB y ho
 replace hoo:=cD.grownAp hoo hap y
 refine Zw t rfl<|ct<|ZT rfl rfl rfl ?_
 exact p _ _ ((k+1,t,v1)) Za ⟨rfl,rfl,rfl,trivial⟩ ⟨hB,(by (rw[←(XX Om hbt).1];exact f)),(by (rw[←(XX Om hbt).2];exact hoo)),S,Om,trivial⟩ (by show l.length-(k+1)<l.length-k;omega)
 refine cR ?_
 replace hz:=On hB hz
 replace hD:=fC.below hB hD
 replace hX:=Dx.trans hX (Dx.below hB)
 have hzs:=an hN0 (Below.size o)
 replace ho:=cD.mono ho hzs
 replace hoo:=cD.mono hoo hzs
 replace hB:=Below.trans o (Below.mono hB hzs)
 obtain rfl:k=l.length:=by omega
 have hwl:=MX l lv l.length
 rw[aan]at hwl
 have hbc:=O8 (l:=l) h24
 refine Zr<|Zp rfl<|Zw v0 rfl<|Zi rfl<|Zv (eP rfl rfl Om Om)<|ZH CC (ih N ba bm bz R ns _ (AF l lv l.length) (lv+1) _ (an hN0 (Below.size hB)) hz hD ho.sl (λm h=>hm m (U3 h)) Om Om Om) rfl λaq ar T=> ?_
 obtain⟨U,z,A,rfl,a,V,b⟩:=T
 replace hz:=At.dx hD a hz Dd Dd
 replace hX:=Dx.trans hX (a)
 replace hB:=Below.dx hB (am _) hN0 a
 replace hoo:=cD.dx hD a hoo Dd Dd
 replace hD:=V
 refine Zw (.tuple #[.int .i64 (z:Int), .int .i64 A]) rfl<|Zv (c7 rfl)<|Zv (da rfl)<|Zi rfl<|ZZ rfl<|Zq<|Zr<|Zi rfl<|Zv (ep rfl rfl)<|ct<|ZQ rfl (λg=> ?_) λg=> ?_
 refine Zr<|Zi rfl<|Zi rfl<|ZZ rfl<|Zt<|dL (v:= .int .i64 0) rfl (v1:= .int .i64 _) rfl ?_
 exact⟨_,0,_,rfl,hX,hD,b.fail g Om⟩
 refine cu ?_
 have he:A=0:=aaa g
 subst he
 refine Zr<|Zp rfl<|Zw v1 rfl<|Zi rfl<|Zv (eP rfl rfl Om Om)<|ZH CC (ih N ba bm bz R U _ (AB l lv l.length) (lv+1) _ (an hN0 (Below.size hB)) hz hD hoo.sl (λm h=>hm m (V2 h)) Om Om Om) rfl λau av X=> ?_
 obtain⟨Y,B,C,rfl,i,Z,c⟩:=X
 replace hz:=At.dx hD i hz Dd Dd
 replace hX:=Dx.trans hX (i)
 replace hB:=Below.dx hB (am _) hN0 i
 replace hD:=Z
 refine Zw (.tuple #[.int .i64 (B:Int), .int .i64 C]) rfl<|Zv (c7 rfl)<|Zv (da rfl)<|Zi rfl<|ZZ rfl<|Zq<|Zr<|Zi rfl<|Zv (ep rfl rfl)<|ct<|ZQ rfl (λj=> ?_) λj=> ?_
 refine Zr<|Zi rfl<|Zi rfl<|ZZ rfl<|Zt<|dL (v:= .int .i64 0) rfl (v1:= .int .i64 _) rfl ?_
 exact⟨_,0,_,rfl,hX,hD,b.fail2 c j Om⟩
 refine cu ?_
 have he:C=0:=aaa j
 subst he
 have hw16:=hD.wf
 obtain⟨v1,aw,_⟩:=b.ok rfl
 obtain⟨p1,_,p3⟩:=c.old v1
 obtain⟨q1,q2,_⟩:=c.ok rfl
 refine Zr<|Zp rfl<|Zi rfl<|Zi rfl<|Zi rfl<|ZH Jl (oF N ba bm bz R Y lv z B _ (an hN0 (Below.size hB)) hz hD p1 q1 Om Om h24) rfl λax ay aa=> ?_
 obtain⟨az,aA,aB,rfl,ab,ac,ad⟩:=aa
 replace hX:=Dx.trans hX (ab)
 replace hD:=ac
 refine Zv (c7 rfl)<|Zv (da rfl)<|Zi rfl<|ZZ rfl<|Zt<|dL (v:= .int .i64 _) rfl (v1:= .int .i64 _) rfl ?_
 exact⟨_,_,_,rfl,hX,hD,K9 hw16 h24 hne b c ad⟩
theorem FR:∀n,Ii n
  |0=>λN ba bm bz R ns xl l lv w _ _ _ _ _ _ hlv hn=>by omega
  |n+1=>λN ba bm bz R ns xl l lv w=>PP n N ba bm bz R ns xl l lv w (FR n)
theorem qf (N ba bm bz R:Nat) (ns:List Nd) (xl:Value) (l:List Int) (w:World) (hN0:N≤w.heap.size) (hz:At w bz #[.pointer (some ⟨ba,0,none⟩)] 282) (hD:fC 222 228 N ba bm R w ns) (hl:dh dJ 1 w xl l) (hll:l.length≤1000000):
    mS Tryz.prog 225 #[.pointer (some ⟨bz,0,none⟩),xl] w λv w'=>PE 222 228 N ba bm R w ns (CE l) (xy 0 l) (0) (bS l 0) v w':=by
 refine d5 (n:=28) (N:=N) Tryz.func225 rfl rfl rfl λhB=> ?_
 have hX:Dx 228 N [ba,bm] w w:=Dx.refl
 have hwf:=hD.wf
 have hroom:=hD.room
 have htop:=hD.top
 refine Zr<|Zi rfl<|ZZ rfl<|Zq<|Zr<|Zp rfl<|Zv (qJ rfl rfl Tryz.underlying238)<|ct<|dA rfl<|cu<|Zq<|Zr ?_
 refine Zw xl rfl<|Zv (cT (v:=xl) rfl hl cM)<|ZZ rfl<|cx ?_
 refine cS (σ:=(Nat)) [4,5,7,7,12,22] (λk=>[(12, .int .i64 (k:Int))]) (λk W=>(At W bz _ 282)∧(fC 222 228 N ba bm R W ns)∧(Dx 228 N [ba,bm] w W)∧(dh dJ 1 W xl _)∧(Below N w W)∧(k≤l.length)∧(∀q,q<k→0≤l.getD q 0∧l.getD q 0<16777216)∧(True)) (λk=>l.length-k) (0) ⟨rfl,trivial⟩ ⟨hz,hD,hX,hl,hB,(my _),ef,trivial⟩ ?_
 rintro k i j ⟨hz,hD,hX,hl,hB,hk,hq,_⟩ m c
 refine Zr<|Zv (dk rfl rfl)<|ct<|Zq<|ZQ rfl (λd=> ?_) λd=> ?_
 refine cu<|Zq<|cx<|Zr<|Zv (df (v:=xl) rfl hl rfl cM Om Om)<|Zv (cB (v:= .int .i64 _) rfl cK (dh.cell hl dI 0 Om Om 0 rfl))<|ZZ rfl<|Zr<|Zi rfl<|Zv (dk rfl rfl)<|ZX rfl (λa=> ?_) λa=> ?_
 refine Zs<|Zs<|Zb rfl<|ct<|cF rfl<|Zr<|Zi rfl<|ZZ rfl<|Zt<|dL (v:= .int .i64 0) rfl (v1:= .int .i64 1) rfl ?_
 exact⟨ns,0,1,rfl,hX,hD, .inr ⟨TU (k:=k) Om (.inl a),rfl,rfl,rfl⟩⟩
 refine Zi rfl<|Zv (mT rfl rfl)<|Zb rfl<|ct<|ZQ rfl (λb=> ?_) λb=> ?_
 refine Zr<|Zi rfl<|ZZ rfl<|Zt<|dL (v:= .int .i64 0) rfl (v1:= .int .i64 1) rfl ?_
 exact⟨ns,0,1,rfl,hX,hD, .inr ⟨TU (k:=k) Om (.inr b),rfl,rfl,rfl⟩⟩
 refine cu<|ZT rfl rfl rfl ?_
 exact c _ _ (k+1) Za ⟨rfl,trivial⟩ ⟨hz,hD,hX,hl,hB,Om,(dG hq ⟨Int.not_lt.1 a,Int.not_le.1 b⟩),trivial⟩ Zo
 refine cR ?_
 have hok:=RU (l:=l) (k:=k) (by omega) hq
 refine Zr<|Zp rfl<|Zw xl rfl<|ZH CC (FR 25 N ba bm bz R ns _ l 0 _ (an hN0 (Below.size hB)) hz hD hl (sf.1 hok) hll Om Om) rfl λo p e=> ?_
 obtain⟨r,s,t,rfl,f,g,h⟩:=e
 replace hX:=Dx.trans hX (f)
 replace hD:=g
 refine Zv (c7 rfl)<|Zv (da rfl)<|Zi rfl<|ZZ rfl<|Zt<|dL (v:= .int .i64 _) rfl (v1:= .int .i64 _) rfl ?_
 exact⟨_,_,_,rfl,hX,hD, .inl ⟨hok,h⟩⟩
end
section
open Go Go.RowKit
theorem QK:dT Tryz.prog 222=some (.agg #[.int .i64 0, .slice none 0 0, .map none]):=by kernel_rfl
theorem Hh:(Tryz.prog.info? 219).map (·.size)=some 1:=by kernel_rfl
theorem Hr:(Tryz.prog.info? 220).map (·.size)=some 1:=by kernel_rfl
theorem wU {f:Nat→Value} {w:World} {d:Option Nat} {ty:TypeId} {ps:String} {af:Array Edge} {g:Option (Nat×Bool)} {x0 x1:Operand} {c0_0 c1_0:Value} (h0:dg f x0=c0_0) (k0:c0_0.cells= #[c0_0]) (h1:dg f x1=c1_0) (k1:c1_0.cells= #[c1_0]):
    (execOp (dg f) ⟨d, .build 222 #[(0,x0),(2,x1)],ty,ps,af,g⟩).run Tryz.prog w= .ok (.value (.agg #[c0_0, .slice none 0 0,c1_0])) w:=by
  obtain⟨i0,hi0,hz0⟩:=Do.1 (show (Tryz.prog.info? 222).bind (·.zero)=_ from QK)
  obtain⟨j3,hj3,hs3⟩:=go.1 fH
  obtain⟨j219,hj219,hs219⟩:=go.1 Hh
  obtain⟨j220,hj220,hs220⟩:=go.1 Hr
  simp[execOp,h0,k0,h1,k1,Instr.build,zeroValue,typeInfo,sizeOf,hi0,hz0,run_underlying Tryz.underlying222,Instr.fill,dX,hj3,hs3,hj219,hs219,hj220,hs220]
theorem PJ:cX Tryz.prog 115=true:=by kernel_rfl
theorem PZ:dT Tryz.prog 282=some (.agg #[.pointer none]):=by kernel_rfl
theorem GS:(Tryz.prog.info? 166).map (·.size)=some 1:=by kernel_rfl
theorem Aj {f:Nat→Value} {w:World} {d:Option Nat} {ty:TypeId} {ps:String} {af:Array Edge} {g:Option (Nat×Bool)} {x0:Operand} {c0_0:Value} (h0:dg f x0=c0_0) (k0:c0_0.cells= #[c0_0]):
    (execOp (dg f) ⟨d, .build 282 #[(0,x0)],ty,ps,af,g⟩).run Tryz.prog w= .ok (.value (.agg #[c0_0])) w:=by
  obtain⟨i0,hi0,hz0⟩:=Do.1 (show (Tryz.prog.info? 282).bind (·.zero)=_ from PZ)
  obtain⟨j166,hj166,hs166⟩:=go.1 GS
  simp[execOp,h0,k0,Instr.build,zeroValue,typeInfo,sizeOf,hi0,hz0,run_underlying Tryz.underlying282,Instr.fill,dX,hj166,hs166]
theorem DI (R:Nat) (w:World) (hR:R≤20000):
    Fn Tryz.prog 115 #[.int .i64 (R:Int)] w λv w'=>∃ba bm,v= .tuple #[.pointer (some ⟨ba,0,none⟩), .int .i64 0]∧fC 222 228 w.heap.size ba bm R w' []:=by
 refine cH (n:=14) Tryz.func115 rfl rfl rfl λhB=> ?_
 refine Zr<|Zw (.pointer none) rfl<|ZZ rfl<|Zq<|Zr<|Zi rfl<|Zv (dk rfl rfl)<|ZX rfl (λb=> ?_) λb=> ?_
 exact absurd b Om
 refine Zi rfl<|Zv (il rfl rfl)<|Zb rfl<|ct<|ZQ rfl (λd=> ?_) λd=> ?_
 exact absurd d Om
 refine cu<|Zr<|Zi rfl<|Zy (gQ (enc:=vD) (encV:=eH) λe W9 f g a=> ?_)
 have h:=ZO f hB
 replace hB:=Ze hB g
 refine Zv (wU (h0:=rfl) (k0:=rfl) (h1:=rfl) (k1:=rfl) (c0_0:= .int .i64 _) (c1_0:= .map (some e)))<|Zy (dt (c:= #[_,_,_]) rfl rfl λi o j k l=> ?_)
 have m:=ZO j hB
 obtain⟨hB,a⟩:=k.k2 hB a
 refine Zp rfl<|ZZ rfl<|Zt<|dL (v:= .pointer (some ⟨i,0,none⟩)) rfl (v1:= .int .i64 0) rfl ⟨hB,?_⟩
 exact⟨_,_,rfl,⟨⟨_,l,cD.nil⟩,a,m,h,Wf.nil,my _,hR⟩⟩
theorem Lh (R:Nat) (w:World) (hR:R≤20000):
    Fn Tryz.prog 174 #[.int .i64 (R:Int)] w λv w'=>∃bz ba bm,v= .tuple #[.pointer (some ⟨bz,0,none⟩), .int .i64 0]∧At w' bz #[.pointer (some ⟨ba,0,none⟩)] 282∧fC 222 228 w.heap.size ba bm R w' []:=by
 refine cH (n:=17) Tryz.func174 rfl rfl rfl λhB=> ?_
 refine Zr<|Zw (.pointer none) rfl<|ZZ rfl<|Zr<|Zi rfl<|ZC PJ (DI _ _ m5) rfl λi W5 d e=> ?_
 have f:=(Below.size hB)
 replace hB:=Ze hB d
 obtain⟨ba,bm,rfl,hD⟩:=e
 replace hD:=fC.mono hD f
 refine Zw (.tuple #[.pointer (some ⟨ba,0,none⟩), .int .i64 0]) rfl<|Zv (c7 rfl)<|Zv (da rfl)<|Zp rfl<|ZZ rfl<|Zq<|Zr<|Zi rfl<|Zv (ep rfl rfl)<|ct<|ZQ rfl (λa=> ?_) λa=> ?_
 exact absurd rfl a
 refine cu<|Zr<|Zp rfl<|Zv (Aj (h0:=rfl) (k0:=rfl) (c0_0:= .pointer (some ⟨ba,0,none⟩)))<|Zy (dt (c:= #[_]) rfl rfl λg j k b h=> ?_)
 replace hB:=Ze hB b
 replace hD:=fC.ext b hD
 refine Zp rfl<|ZZ rfl<|Zt<|dL (v:= .pointer (some ⟨g,0,none⟩)) rfl (v1:= .int .i64 0) rfl ⟨hB,?_⟩
 exact⟨_,_,_,rfl,h,hD⟩
end
section
open Go Go.RowKit
theorem kL:dS Tryz.prog 285 1=some 1:=by kernel_rfl
theorem gn:eE Tryz.prog 27=true:=by kernel_rfl
theorem jT:dS Tryz.prog 285 0=some 0:=by kernel_rfl
theorem Ib:cX Tryz.prog 225=true:=by kernel_rfl
theorem oz:cX Tryz.prog 222=true:=by kernel_rfl
theorem JB:cX Tryz.prog 224=true:=by kernel_rfl
theorem xN:dT Tryz.prog 315=some (.agg #[.int .u64 0, .int .u64 0, .int .u64 0, .int .u64 0, .int .u64 0, .int .u64 0, .int .u64 0, .int .u64 0]):=by kernel_rfl
theorem Cm:cX Tryz.prog 155=true:=by kernel_rfl
theorem QZ:cX Tryz.prog 252=true:=by kernel_rfl
theorem ib:Lm Tryz.prog 315=some (2,4):=by kernel_rfl
theorem C5:cX Tryz.prog 221=true:=by kernel_rfl
theorem MU:j8 Tryz.prog 315=some 8:=by kernel_rfl
theorem I8:cX Tryz.prog 223=true:=by kernel_rfl
theorem Qc:cX Tryz.prog 253=true:=by kernel_rfl
theorem Ap (s i:Nat) (w:World) (hi:i<8):
    Fn Tryz.prog 252 #[eb s, .int .i64 (i:Int)] w λv w'=>v=eb (kN (d7 s) s i (d7 s).length):=by
 refine cH (n:=24) Tryz.func252 rfl rfl rfl λhB=> ?_
 refine Zr<|Zy (dt (c:= #[_,_,_,_]) rfl rfl λz W3 R A b=> ?_)
 replace hB:=Ze hB A
 refine Zy (cI ee rfl λo W6 B C a=> ?_)
 have D:=ZO B hB
 obtain⟨hB,b⟩:=C.k2 hB b
 replace a:At W6 o #[wv 0 0,wv 0 1,wv 0 2,wv 0 3] 40:=a
 refine ct<|Zr<|Zv (cy rfl cA rfl b)<|Zy (cI ee rfl λq E g F d=> ?_)
 have r:=ZO g hB
 have t:=Zn g b.lt
 have h:=Zn g a.lt
 obtain⟨hB,b,a⟩:=F.k3 hB b a
 replace d:At E q #[wv 0 0,wv 0 1,wv 0 2,wv 0 3] 40:=d
 refine Zy (cz rfl rfl cA rfl d rfl rfl λS j G=> ?_)
 replace hB:=Zg hB j r
 replace b:=At.grownNe b t j
 replace a:=At.grownNe a h j
 replace d:=G
 refine ct<|Zq<|Zr<|Zv (cy rfl cA rfl b)<|ZC (vs:=[.agg #[_,_,_,_]]) um (nE _ _) rfl λl T H e=> ?_
 have I:=(Below.size hB)
 obtain⟨hB,b,a,d⟩:=H.k4 hB b a d
 replace e:=cD.mono e I
 refine Zv (cT (v:=l) rfl e.sl cM)<|ZZ rfl<|cx ?_
 refine cS (σ:=(Nat)) [7,7,12,22] (λk=>[(12, .int .i64 (k:Int))]) (λk W=>(Below w.heap.size w W)∧(At W z _ 40)∧(At W o _ 40)∧(cD dJ 1 3 W w.heap.size l _)∧(At W q #[wv (kN (d7 s) s i k) 0,wv (kN (d7 s) s i k) 1,wv (kN (d7 s) s i k) 2,wv (kN (d7 s) s i k) 3] 40)∧(k≤(d7 s).length)∧(True)) (λk=>(d7 s).length-k) (0) ⟨rfl,trivial⟩ ⟨hB,b,a,e,d,(my _),trivial⟩ ?_
 rintro k U V ⟨hB,b,a,e,d,hk,_⟩ X J
 have hll:=lZ s
 refine Zr<|Zv (dk rfl rfl)<|ct<|Zq<|ZQ rfl (λK=> ?_) λK=> ?_
 refine cu<|Zq<|cx ?_
 obtain⟨p,Y,Z,u⟩:=lV (s:=s) (i:=k) (by omega)
 have h7:=Al (show i<8 by omega)
 refine Zr<|Zv (df (v:=l) rfl e.sl rfl cM Om (by omega))<|Zv (cB (v:= .int .i64 _) rfl cK (dh.cell e.sl dI 0 Om (by omega) 0 rfl))<|ZZ rfl ?_
 have L:(d7 s).getD (k:Int).toNat 0=(p:Int):=u
 rw[L]
 refine fe dz fQ (λM N=> ?_)
 obtain⟨hB,b,a,e,d⟩:=N.k5 hB b a e d
 have hS:=dz.refl M
 refine Tk 0 rfl (λ_ hq=>cy rfl cA rfl (hq.at d)) hS<|Ti 1 rfl rfl hS<|Ti 2 rfl rfl hS<|Tk 3 rfl (λ_ _=>jA (m:=1) rfl rfl Om (by simp only[IntKind.bits];omega) T6) hS<|Tk 4 rfl (λ_ _=>MD (n:=_) rfl rfl rfl oG T6) hS<|To 5 rfl (TC (vs:=[.agg #[_,_,_,_], .int .i64 _]) yj (nU _ _ _) rfl λaa ab x O=>⟨.inl (hS.trans x),?_⟩)
 obtain⟨hB,b,a,e,d⟩:=x.k5 hB b a e d
 obtain rfl:=O
 refine To 6 rfl (cz rfl rfl cA rfl d rfl rfl λac f P=>⟨.inr jW,?_⟩)
 replace hB:=Zg hB f r
 replace b:=At.grownNe b t f
 replace a:=At.grownNe a h f
 replace e:=cD.grownAt e d f Dd
 replace d:=P
 refine Td<|ZT rfl rfl rfl ?_
 exact J _ _ (k+1) Za ⟨rfl,trivial⟩ ⟨hB,b,a,e,(by rw[wA Om,u,so,←aap (2^i)];exact d),Om,trivial⟩ (by show (d7 s).length-(k+1)<(d7 s).length-k;omega)
 refine cR<|Zr<|Zv (cy rfl cA rfl d)<|Zy (cz rfl rfl cA rfl a rfl rfl λad y Q=> ?_)
 replace hB:=Zg hB y D
 replace d:=At.grownNe d (Ne.symm h) y
 replace a:=Q
 refine ct<|Zt<|jr rfl cA a rfl ⟨hB,?_⟩
 obtain rfl:k=(d7 s).length:=by omega
 rfl
theorem eS (N bc bz:Nat) (e:Int) (id:Nat) (er:Int) (w:World) (hN0:N≤w.heap.size) (hc:At w bc #[.pointer (some ⟨bz,0,none⟩), .int .i64 e] 285) (loc:N≤bc):
    mS Tryz.prog 222 #[.pointer (some ⟨bc,0,none⟩), .int .i64 (id:Int), .int .i64 er] w λv w'=>w.grownBy w' (some bc)∧At w' bc #[.pointer (some ⟨bz,0,none⟩), .int .i64 (iQ e er)] 285∧v= .int .i64 ((kr e er id:Nat):Int):=by
 refine d5 (n:=22) (N:=N) Tryz.func222 rfl rfl rfl λhB=> ?_
 have c:w.grownBy w (some bc):=World.grownBy.refl w (some bc)
 refine Zr<|ZZ rfl<|Zq<|Zr<|Zp rfl<|Zc rfl<|Zf rfl kL<|Zl rfl gn hc rfl<|Zv (dW rfl rfl)<|ct<|ZQ rfl (λa=> ?_) λa=> ?_
 refine cN<|Zp rfl<|Zi rfl<|Zc rfl<|Zf rfl kL<|Zy (dm (v:= .int .i64 _) rfl rfl gn rfl hc gj λW7 d f=> ?_)
 replace c:=cC c d
 replace hc:=f
 replace hc:At _ _ #[_,_] _:=hc
 refine ct<|Zq<|Zr<|Zp rfl<|Zc rfl<|Zf rfl kL<|Zl rfl gn hc rfl<|Zv (ep rfl rfl)<|ct<|ZQ rfl (λb=> ?_) λb=> ?_
 refine Zr<|ZZ rfl<|Zt<|cV (v:= .int .i64 0) rfl ?_
 have hde:iQ e er=er:=if_pos a
 rw[hde]
 exact⟨c,hc,by unfold kr;rw[hde,if_neg b];rfl⟩
 refine cu<|Zr<|Zi rfl<|ZZ rfl<|Zt<|cV (v:= .int .i64 _) rfl ?_
 have hde:iQ e er=er:=if_pos a
 rw[hde]
 exact⟨c,hc,by unfold kr;rw[hde,if_pos (aaa b)]⟩
 refine cu<|Zq<|Zr<|Zp rfl<|Zc rfl<|Zf rfl kL<|Zl rfl gn hc rfl<|Zv (ep rfl rfl)<|ct<|ZQ rfl (λb=> ?_) λb=> ?_
 refine Zr<|ZZ rfl<|Zt<|cV (v:= .int .i64 0) rfl ?_
 have hde:iQ e er=e:=if_neg a
 rw[hde]
 exact⟨c,hc,by unfold kr;rw[hde,if_neg a];rfl⟩
 refine cu<|Zr<|Zi rfl<|ZZ rfl<|Zt<|cV (v:= .int .i64 _) rfl ?_
 exact absurd (aaa b) a
set_option maxRecDepth 10000 in
theorem pN (N ba bm bz bc R:Nat) (ns:List Nd) (e:Int) (f i:Nat) (w:World) (hN0:N≤w.heap.size) (hz:At w bz #[.pointer (some ⟨ba,0,none⟩)] 282) (hD:fC 222 228 N ba bm R w ns) (hc:At w bc #[.pointer (some ⟨bz,0,none⟩), .int .i64 e] 285) (loc:N≤bc) (hf:f<ns.length+2) (hi:i<24):
    mS Tryz.prog 253 #[.pointer (some ⟨bc,0,none⟩), .int .i64 (f:Int), .int .i64 (i:Int)] w λv w'=>∃(ns':List Nd) (e':Int) (id:Nat),v= .int .i64 (id:Int)∧Dc 228 285 N bc bz ba bm w w'∧At w' bz #[.pointer (some ⟨ba,0,none⟩)] 282∧fC 222 228 N ba bm R w' ns'∧At w' bc #[.pointer (some ⟨bz,0,none⟩), .int .i64 e'] 285∧VX ns ns' R e e' f i id:=by
 refine d5 (n:=29) (N:=N) Tryz.func253 rfl rfl rfl λhB=> ?_
 have hX:Dc 228 285 N bc bz ba bm w w:=Dc.refl
 have hwf:=hD.wf
 have hroom:=hD.room
 have htop:=hD.top
 have hpl:2^i≤8388608:=by have:=aaf (show 0<2 by decide) (show i≤23 by omega);simpa using this
 refine Zr<|ZZ rfl<|Zd (λa b=>Dc 228 285 N bc bz ba bm a b) λW5 h=> ?_
 obtain⟨hz,hc⟩:=h.k2 hz hc
 replace hD:=fC.ext h hD
 replace hX:=Dc.trans hX (Dc.ext h)
 replace hB:=cW hB h hN0
 have hwk0:Wc 285 bc bz W5:=⟨_,hc⟩
 have hS:Dc 228 285 N bc bz ba bm W5 W5:=Dc.refl
 refine Tq 0 rfl rfl hS<|Tq 1 rfl rfl hS<|Tc 2 rfl rfl hS<|Tf 3 rfl rfl jT hS<|Tk 4 rfl (λ_ hq=>cB (v:= .pointer (some ⟨bz,0,none⟩)) rfl iK (acj (Dc.wk hq hwk0))) hS<|Ti 5 rfl rfl hS<|Tq 6 rfl rfl hS<|Tq 7 rfl rfl hS<|Tc 8 rfl rfl hS<|Tf 9 rfl rfl jT hS<|Tk 10 rfl (λ_ hq=>cB (v:= .pointer (some ⟨bz,0,none⟩)) rfl iK (acj (Dc.wk hq hwk0))) hS<|Ti 11 rfl rfl hS<|Tk 12 rfl (λ_ _=>jA (m:=1) rfl rfl Om (by simp only[IntKind.bits];omega) yR) hS<|To 13 rfl (eK (u:= .int .i64 _) rfl cM eQ rfl Dd Dd λy W7 z c A=>⟨.inl (Dc.trans hS (Dc.ext c)),?_⟩)
 have B:N≤y:=z▸(an hN0 (Below.size hB))
 obtain⟨hz,hc⟩:=c.k2 hz hc
 replace hD:=fC.ext c hD
 replace hX:=Dc.trans hX (Dc.ext c)
 replace hB:=cW hB c hN0
 replace hS:=Dc.trans hS (Dc.ext c)
 have C:=jU (enc:=dJ) (a:=((1*2^i:Nat):Int)) A rfl rfl B
 refine To 14 rfl (TG Ib (qf N ba bm bz R ns _ [((1*2^i:Nat):Int)] _ (an hN0 (Below.size hB)) hz hD C.sl (show 1≤1000000 by decide)) rfl λJ K p=>⟨.inl (Dc.trans hS (abF hD (PE.dx p) (by decide) (by decide))),?_⟩)
 replace hS:=Dc.trans hS (abF hD (PE.dx p) Dd Dd)
 obtain⟨s,D,E,rfl,k,F,G⟩:=p
 replace hz:=At.dx hD k hz Dd Dd
 replace hc:=At.dx hD k hc Dd Dd
 replace hX:=Dc.trans hX (abF hD k Dd Dd)
 replace hB:=Below.dx hB (am _) hN0 k
 replace hD:=F
 have hgA:=TT G (by rw[aap];exact Ua hi)
 have hvA:=hgA.valid
 have hf1:f<s.length+2:=by have:=fX hgA.pre;omega
 have hw1:=hD.wf
 refine Tk 15 rfl (λ_ _=>c7 rfl) hS<|Tk 16 rfl (λ_ _=>da rfl) hS<|To 17 rfl (TG oz (eS N bc bz _ _ _ _ (an hN0 (Below.size hB)) hc loc) rfl λL M d=>⟨.inl (Dc.trans hS (Dc.did d.1 loc d.2.1)),?_⟩)
 replace hS:=Dc.trans hS (Dc.did d.1 loc d.2.1)
 obtain⟨l,t,rfl⟩:=d
 replace hX:=Dc.trans hX (Dc.did l loc t)
 replace hz:=At.grownAt hz hc l Dd
 replace hD:=fC.grownAt hD hc l Dd Dd
 replace hB:=db hB l hN0 (λj hj=>by cases hj;exact loc)
 replace hc:=t
 refine To 18 rfl (TG JB (ox N ba bm bz R s f (kr e E D) _ (an hN0 (Below.size hB)) hz hD hf1 (pD hvA)) rfl λO P q=>⟨.inl (Dc.trans hS (abF hD (PO.dx q) (by decide) (by decide))),?_⟩)
 replace hS:=Dc.trans hS (abF hD (PO.dx q) Dd Dd)
 obtain⟨Q,S,T,rfl,o,H,I⟩:=q
 replace hz:=At.dx hD o hz Dd Dd
 replace hc:=At.dx hD o hc Dd Dd
 replace hB:=Below.dx hB (am _) hN0 o
 replace hX:=Dc.trans hX (abF hD o Dd Dd)
 replace hD:=H
 refine Tk 19 rfl (λ_ _=>c7 rfl) hS<|Tk 20 rfl (λ_ _=>da rfl) hS<|To 21 rfl (TG oz (eS N bc bz _ _ _ _ (an hN0 (Below.size hB)) hc loc) rfl λU V g=>⟨.inl (Dc.trans hS (Dc.did g.1 loc g.2.1)),?_⟩)
 replace hS:=Dc.trans hS (Dc.did g.1 loc g.2.1)
 obtain⟨r,x,rfl⟩:=g
 replace hX:=Dc.trans hX (Dc.did r loc x)
 replace hz:=At.grownAt hz hc r Dd
 replace hD:=fC.grownAt hD hc r Dd Dd
 replace hc:=x
 refine Ti 22 rfl rfl hS<|Td<|Zt<|cV (v:= .int .i64 _) rfl ?_
 exact⟨_,_,_,rfl,hX,hz,hD,hc,Xc hw1 hgA I hf hi⟩
def WN (fu:Nat):Prop:=∀(N ba bm bz bc R:Nat) (ns:List Nd) (e:Int) (s n i:Nat) (w:World),(N≤w.heap.size)→(At w bz #[.pointer (some ⟨ba,0,none⟩)] 282)→(fC 222 228 N ba bm R w ns)→(At w bc #[.pointer (some ⟨bz,0,none⟩), .int .i64 e] 285)→(N≤bc)→(n≤8)→(wr n s i)→n+1-i≤fu→
  mS Tryz.prog 221 #[.pointer (some ⟨bc,0,none⟩),eb s,eb (fh n), .int .i64 (n:Int), .int .i64 (i:Int)] w λv w'=>∃(ns':List Nd) (e':Int) (id:Nat),v= .int .i64 (id:Int)∧Dc 228 285 N bc bz ba bm w w'∧At w' bz #[.pointer (some ⟨ba,0,none⟩)] 282∧fC 222 228 N ba bm R w' ns'∧At w' bc #[.pointer (some ⟨bz,0,none⟩), .int .i64 e'] 285∧MI ns ns' R e e' n i s id
theorem Ra (w:World):(sizeOf 40).run Tryz.prog w= .ok 4 w:=by
  obtain⟨j0,hj0,hs0⟩:=go.1 (show (Tryz.prog.info? 40).map (·.size)=some 4 by kernel_rfl)
  simp[sizeOf,typeInfo,hj0,hs0]
theorem RS {s i k:Nat} (hk:k<2) (w:World):(part 40 (nG (cQ s i false) (cQ s i true)) (k*4)).run Tryz.prog w= .ok (eb (Q8 s i k)) w:=by
  obtain⟨j0,hj0,hs0⟩:=go.1 (show (Tryz.prog.info? 40).map (·.size)=some 4 by kernel_rfl)
  have:k=0∨k=1:=by omega
  rcases this with rfl|rfl<;>simp[part,isAgg,sizeOf,typeInfo,hj0,hs0,run_underlying Tryz.underlying40,nG,Q8]<;>rfl
set_option maxRecDepth 20000 in
theorem Oa (q:Nat) (N ba bm bz bc R:Nat) (ns:List Nd) (e:Int) (s n i:Nat) (w:World) (ih:WN q) (hN0:N≤w.heap.size) (hz:At w bz #[.pointer (some ⟨ba,0,none⟩)] 282) (hD:fC 222 228 N ba bm R w ns) (hc:At w bc #[.pointer (some ⟨bz,0,none⟩), .int .i64 e] 285) (loc:N≤bc) (h8:n≤8) (hfr:wr n s i) (hn:n+1-i≤q+1):
    mS Tryz.prog 221 #[.pointer (some ⟨bc,0,none⟩),eb s,eb (fh n), .int .i64 (n:Int), .int .i64 (i:Int)] w λv w'=>∃(ns':List Nd) (e':Int) (id:Nat),v= .int .i64 (id:Int)∧Dc 228 285 N bc bz ba bm w w'∧At w' bz #[.pointer (some ⟨ba,0,none⟩)] 282∧fC 222 228 N ba bm R w' ns'∧At w' bc #[.pointer (some ⟨bz,0,none⟩), .int .i64 e'] 285∧MI ns ns' R e e' n i s id:=by
 refine d5 (n:=99) (N:=N) Tryz.func221 rfl rfl rfl λhB=> ?_
 have hX:Dc 228 285 N bc bz ba bm w w:=Dc.refl
 have hwf:=hD.wf
 have hroom:=hD.room
 have htop:=hD.top
 refine Zr<|Zy (dt (c:= #[_,_,_,_]) rfl rfl λai W3 a3 M f=> ?_)
 obtain⟨hz,hc⟩:=M.k2 hz hc
 replace hD:=fC.ext M hD
 replace hX:=Dc.trans hX (Dc.ext M)
 replace hB:=cW hB M hN0
 refine Zy (dt (c:= #[_,_,_,_]) rfl rfl λaj W6 av y g=> ?_)
 have a4:=Zn av f.lt
 obtain⟨hz,hc⟩:=y.k2 hz hc
 replace hD:=fC.ext y hD
 replace hX:=Dc.trans hX (Dc.ext y)
 replace hB:=cW hB y hN0
 replace f:=y.at f
 refine ZZ rfl<|Zq<|cx<|Zr<|Zp rfl<|Zc rfl<|Zf rfl kL<|Zl rfl gn hc rfl<|Zv (ep rfl rfl)<|ZX rfl (λz=> ?_) λz=> ?_
 refine Zs<|Zs<|Zs<|Zb rfl<|Zb rfl<|ct<|cF rfl<|Zr<|ZZ rfl<|Zt<|cV (v:= .int .i64 0) rfl ?_
 exact⟨ns,e,0,rfl,hX,hz,hD,hc,U1 z⟩
 refine Zv (cy rfl cA rfl f)<|Zv (v:=eb 0) (gg)<|Zv (un rfl rfl)<|Zb rfl<|Zb rfl<|ct<|ZQ rfl (λQ=> ?_) λQ=> ?_
 refine Zr<|ZZ rfl<|Zt<|cV (v:= .int .i64 0) rfl ?_
 exact⟨ns,e,0,rfl,hX,hz,hD,hc,YG (aaa z) h8 (xc Q)⟩
 refine Zr<|Zv (cy rfl cA rfl f)<|Zv (cy rfl cA rfl g)<|Zv (un rfl rfl)<|Zb rfl<|ct<|ZQ rfl (λS=> ?_) λS=> ?_
 refine Zr<|ZZ rfl<|Zt<|cV (v:= .int .i64 1) rfl ?_
 exact⟨ns,e,1,rfl,hX,hz,hD,hc,Y9 (aaa z) h8 (xc S)⟩
 refine cu ?_
 have he:e=0:=aaa z
 subst he
 have h0:¬z8 s 0=true:=λh=>Q (vf h)
 have h1:¬z8 s (fh n)=true:=λh=>S (vf h)
 have hi:i<n:=hfr.lt h8 h0 h1
 have hi8:i<8:=by omega
 refine Zr<|Zy (cI xN rfl λO a5 ak A d=> ?_)
 have al:N≤O:=ak▸(an hN0 (Below.size hB))
 have aw:w.heap.size≤O:=ak▸hX.dx.size
 obtain⟨hz,hc⟩:=A.k2 hz hc
 replace hD:=fC.ext A hD
 replace hX:=Dc.trans hX (Dc.ext A)
 replace hB:=cW hB A hN0
 obtain⟨f,g⟩:=A.k2 f g
 refine ct<|Zq ?_
 replace d:=vX (s:=s) (i:=i) d
 refine Zr<|ZZ rfl<|cx ?_
 refine cS (σ:=(Nat)) [12,12,33,45] (λk=>[(33, .int .i64 (k:Int))]) (λk W=>(At W bz _ 282)∧(At W bc _ 285)∧(fC 222 228 N ba bm R W ns)∧(Dc 228 285 N bc bz ba bm w W)∧(Below N w W)∧(At W ai _ 40)∧(At W aj _ 40)∧(At W O (oJ s i k) 315)∧(k≤2)∧(True)) (λk=>2-k) (0) ⟨rfl,trivial⟩ ⟨hz,hc,hD,hX,hB,f,g,d,(my _),trivial⟩ ?_
 rintro k a6 a7 ⟨hz,hc,hD,hX,hB,f,g,d,hk,_⟩ a8 ax
 refine Zr<|Zv (dk rfl rfl)<|ct<|Zq<|ZQ rfl (λay=> ?_) λay=> ?_
 refine cu<|Zq<|cx<|Zr<|Zi rfl<|ZZ rfl<|cN<|Zi rfl<|Zv (cy rfl cA rfl f)<|Zi rfl<|Zi rfl<|Zv (dW rfl rfl) ?_
 refine ZC (vs:=[.agg #[_,_,_,_], .int .i64 _, .bool _]) Cm (zQ _ _ _ _) rfl λa9 bb B az=> ?_
 obtain⟨hz,hc⟩:=B.k2 hz hc
 replace hD:=fC.ext B hD
 replace hX:=Dc.trans hX (Dc.ext B)
 replace hB:=cW hB B hN0
 obtain⟨f,g,d⟩:=B.k3 f g d
 obtain rfl:=az
 rw[if_pos (show 0≤(i:Int)∧(i:Int)<8 by omega)]
 simp only[so]
 refine Zi rfl<|ZC (vs:=[.agg #[_,_,_,_], .int .i64 _]) QZ (Ap (qo s i (decide ((k:Int)=1))) i _ Om) rfl λaA bd C T=> ?_
 obtain⟨hz,hc⟩:=C.k2 hz hc
 replace hD:=fC.ext C hD
 replace hX:=Dc.trans hX (Dc.ext C)
 replace hB:=cW hB C hN0
 obtain⟨f,g,d⟩:=C.k3 f g d
 replace T:aA=eb (cQ s i (decide ((k:Int)=1))):=T
 obtain rfl:=T
 refine Zv (fo rfl rfl ib Om Om)<|Zy (km rfl rfl cA rfl d (by rw[rA];omega) rfl λbf o aB=> ?_)
 replace hz:=At.grownAt hz d o Dd
 replace hc:=At.grownAt hc d o Dd
 replace hD:=fC.grownAt hD d o Dd Dd
 replace hX:=Dc.new hX aw al o d Dd
 replace hB:=db hB o hN0 (λj hj=>by cases hj;exact al)
 replace f:=At.grownAt f d o Dd
 replace g:=At.grownAt g d o Dd
 replace d:=aB
 try simp only[so]at d
 rw[tP (by omega)]at d
 refine ct<|ZT rfl rfl rfl ?_
 exact ax _ _ (k+1) Za ⟨rfl,trivial⟩ ⟨hz,hc,hD,hX,hB,f,g,(by exact d),Om,trivial⟩ Zo
 refine cR ?_
 obtain rfl:k=2:=by omega
 replace d:At _ _ (nG (cQ s i false) (cQ s i true)) _:=d
 refine Zd (λa b=>Dc 228 285 N bc bz ba bm a b) λU D=> ?_
 obtain⟨hz,hc⟩:=D.k2 hz hc
 replace hD:=fC.ext D hD
 replace hX:=Dc.trans hX (Dc.ext D)
 replace hB:=cW hB D hN0
 obtain⟨f,g,d⟩:=D.k3 f g d
 have hwk0:Wc 285 bc bz U:=⟨_,hc⟩
 have hS:Dc 228 285 N bc bz ba bm U U:=Dc.refl
 refine Tq 0 rfl rfl hS<|Tk 1 rfl (λ_ _=>fo rfl rfl ib Om Om) hS<|Tk 2 rfl (λ_ hq=>fv rfl cA (At.cell (aa6 hD hc hq d Dd Dd Dd) rfl) (At.cell (aa6 hD hc hq d Dd Dd Dd) rfl) (At.cell (aa6 hD hc hq d Dd Dd Dd) rfl) (At.cell (aa6 hD hc hq d Dd Dd Dd) rfl)) hS<|Tk 3 rfl (λ_ _=>fo rfl rfl ib Om Om) hS<|Tk 4 rfl (λ_ hq=>fv rfl cA (At.cell (aa6 hD hc hq d Dd Dd Dd) rfl) (At.cell (aa6 hD hc hq d Dd Dd Dd) rfl) (At.cell (aa6 hD hc hq d Dd Dd Dd) rfl) (At.cell (aa6 hD hc hq d Dd Dd Dd) rfl)) hS<|Tk 6 rfl (λ_ hq=>cy rfl cA rfl (aa6 hD hc hq g Dd Dd Dd)) hS<|Ti 7 rfl rfl hS<|Ti 8 rfl rfl hS<|Tk 9 rfl (λ_ _=>eP rfl rfl Om Om) hS<|To 5 rfl (TC (vs:=[.agg #[_,_,_,_], .agg #[_,_,_,_]]) tz (pp _ _ _) rfl λbg bh x aC=>⟨.inl (Dc.trans hS (Dc.ext x)),?_⟩)
 obtain⟨hz,hc⟩:=x.k2 hz hc
 replace hD:=fC.ext x hD
 replace hX:=Dc.trans hX (Dc.ext x)
 replace hB:=cW hB x hN0
 obtain⟨f,g,d,hS⟩:=x.k4 f g d hS
 obtain rfl:=aC
 refine To 10 rfl (TG (vs:=[.pointer (some ⟨bc,0,none⟩), .agg #[_,_,_,_], .agg #[_,_,_,_], .int .i64 _, .int .i64 _]) C5 (ih N ba bm bz bc R ns 0 (CZ s i) n (i+1) _ (an hN0 (Below.size hB)) hz hD hc loc h8 (JH h8 hfr hi) Om) rfl λbi bj V=>⟨.inl (Dc.trans hS ((by obtain⟨_,_,_,_,h,_⟩:=V;exact h))),?_⟩)
 replace hS:=Dc.trans hS ((by obtain⟨_,_,_,_,h,_⟩:=V;exact h))
 obtain⟨aD,e11_10,X,rfl,E,aE,hD11_10,aF,aG⟩:=V
 replace hX:=Dc.trans hX E
 replace hB:=Below.dx hB (am _) hN0 E.dx
 replace f:=aa6 hD hc E f Dd Dd Dd
 replace g:=aa6 hD hc E g Dd Dd Dd
 replace d:=aa6 hD hc E d Dd Dd Dd
 replace hz:=aE
 replace hD:=hD11_10
 replace hc:=aF
 refine Ti 11 rfl rfl hS<|Td<|Zr<|Zi rfl<|ZZ rfl<|Zq<|Zr<|Zv (cy rfl MU rfl d)<|ZZ rfl<|cx ?_
 refine cS (σ:=(Nat)×(Nat)×(List Nd)×(Int)) [14,17,59,97] (λ(k,oid,nsc,ec)=>[(59, .int .i64 (k:Int)),(14, .int .i64 (oid:Int))]) (λsg W=>match sg with|(k,oid,nsc,ec)=>(At W bz _ 282)∧(Dc 228 285 N bc bz ba bm w W)∧(Below N w W)∧(At W ai _ 40)∧(At W aj _ 40)∧(At W O _ 315)∧(fC 222 228 N ba bm R W nsc)∧(At W bc #[.pointer (some ⟨bz,0,none⟩), .int .i64 ec] 285)∧(k≤2)∧(WO ns nsc R n i s k ec X oid)∧(True)) (λ(k,oid,nsc,ec)=>2-k) ((0,X,aD,e11_10)) ⟨rfl,rfl,trivial⟩ ⟨hz,hX,hB,f,g,d,hD,hc,(my _),(Pe aG),trivial⟩ ?_
 rintro⟨k,oid,nsc,ec⟩ bk bl ⟨hz,hX,hB,f,g,d,hD,hc,hk,hlp,_⟩ bn aH
 refine Zr<|Zv (dk rfl rfl)<|ct<|Zq<|ZQ rfl (λaI=> ?_) λaI=> ?_
 refine cu<|Zq<|cx<|Zr<|Zi rfl<|Zv (v:=eb (Q8 s i k)) (Fg rfl rfl Tryz.underlying315 Om (Ra _) (RS Om _))<|Zy (cI ee rfl λY aJ P F l=> ?_)
 have ao:N≤Y:=P▸(an hN0 (Below.size hB))
 have aK:=Zn P f.lt
 have aL:=Zn P g.lt
 have aM:w.heap.size≤Y:=P▸hX.dx.size
 obtain⟨hz,hX⟩:=F.k2 hz hX
 replace hB:=cW hB F hN0
 obtain⟨f,g,d⟩:=F.k3 f g d
 replace hD:=fC.ext F hD
 replace hc:=F.at hc
 replace l:At aJ Y #[wv 0 0,wv 0 1,wv 0 2,wv 0 3] 40:=l
 refine Zi rfl<|Zy (cz rfl rfl cA rfl l rfl rfl λbo m aN=> ?_)
 replace hz:=At.grownAt hz l m Dd
 replace hX:=Dc.new hX aM ao m l Dd
 replace hB:=db hB m hN0 (λj hj=>by cases hj;exact ao)
 replace f:=At.grownNe f aK m
 replace g:=At.grownNe g aL m
 replace d:=At.grownAt d l m Dd
 replace hD:=fC.grownAt hD l m Dd Dd
 replace hc:=At.grownAt hc l m Dd
 replace l:=aN
 refine ct ?_
 have hvc:=hlp.vc
 have hvo:=hlp.vo
 refine Zd (λa b=>Dc 228 285 N bc bz ba bm a b) λZ G=> ?_
 obtain⟨hz,hX⟩:=G.k2 hz hX
 replace hB:=cW hB G hN0
 obtain⟨f,g,d⟩:=G.k3 f g d
 replace hD:=fC.ext G hD
 obtain⟨hc,l⟩:=G.k2 hc l
 have hwk0:Wc 285 bc bz Z:=⟨_,hc⟩
 have hS:Dc 228 285 N bc bz ba bm Z Z:=Dc.refl
 refine Tq 0 rfl rfl hS<|Tq 1 rfl rfl hS<|Tc 2 rfl rfl hS<|Tf 3 rfl rfl jT hS<|Tk 4 rfl (λ_ hq=>cB (v:= .pointer (some ⟨bz,0,none⟩)) rfl iK (acj (Dc.wk hq hwk0))) hS<|Tq 5 rfl rfl hS<|Tk 6 rfl (λ_ hq=>cy rfl cA rfl (aa6 hD hc hq l Dd Dd Dd)) hS<|Tk 7 rfl (λ_ hq=>cy rfl cA rfl (aa6 hD hc hq g Dd Dd Dd)) hS<|Ti 8 rfl rfl hS<|Ti 9 rfl rfl hS<|Tk 10 rfl (λ_ _=>eP rfl rfl Om Om) hS<|Ti 12 rfl rfl hS<|To 11 rfl (TG (vs:=[.pointer (some ⟨bc,0,none⟩), .agg #[_,_,_,_], .agg #[_,_,_,_], .int .i64 _, .int .i64 _]) C5 (ih N ba bm bz bc R nsc ec (Q8 s i k) n (i+1) _ (an hN0 (Below.size hB)) hz hD hc loc h8 (HY h8 hfr hi k) Om) rfl λbp bq aa=>⟨.inl (Dc.trans hS ((by obtain⟨_,_,_,_,h,_⟩:=aa;exact h))),?_⟩)
 replace hS:=Dc.trans hS ((by obtain⟨_,_,_,_,h,_⟩:=aa;exact h))
 obtain⟨aO,e16_11,aP,rfl,H,aQ,hD16_11,aR,ab⟩:=aa
 replace hX:=Dc.trans hX H
 replace hB:=Below.dx hB (am _) hN0 H.dx
 replace f:=aa6 hD hc H f Dd Dd Dd
 replace g:=aa6 hD hc H g Dd Dd Dd
 replace d:=aa6 hD hc H d Dd Dd Dd
 replace hz:=aQ
 replace hD:=hD16_11
 replace hc:=aR
 have hwa:=hD.wf
 have hla:=fX ab.pre
 refine To 13 rfl (TG I8 (ot N ba bm bz R aO aP X _ (an hN0 (Below.size hB)) hz hD ab.v Om) rfl λbr bs ac=>⟨.inl (Dc.trans hS (abF hD (PO.dx ac) (by decide) (by decide))),?_⟩)
 replace hS:=Dc.trans hS (abF hD (PO.dx ac) Dd Dd)
 obtain⟨aS,aT,ap,rfl,p,aU,ad⟩:=ac
 replace hz:=At.dx hD p hz Dd Dd
 replace hX:=Dc.trans hX (abF hD p Dd Dd)
 replace hB:=Below.dx hB (am _) hN0 p
 replace f:=At.dx hD p f Dd Dd
 replace g:=At.dx hD p g Dd Dd
 replace d:=At.dx hD p d Dd Dd
 replace hc:=At.dx hD p hc Dd Dd
 replace hD:=aU
 have hwb:=hD.wf
 have hlb:=fX ad.pre
 refine Tk 14 rfl (λ_ _=>c7 rfl) hS<|Tk 15 rfl (λ_ _=>da rfl) hS<|To 16 rfl (TG oz (eS N bc bz _ _ _ _ (an hN0 (Below.size hB)) hc loc) rfl λbt bu I=>⟨.inl (Dc.trans hS (Dc.did I.1 loc I.2.1)),?_⟩)
 replace hS:=Dc.trans hS (Dc.did I.1 loc I.2.1)
 obtain⟨r,aq,rfl⟩:=I
 replace hX:=Dc.trans hX (Dc.did r loc aq)
 replace hz:=At.grownAt hz hc r Dd
 replace hB:=db hB r hN0 (λj hj=>by cases hj;exact loc)
 replace f:=At.grownAt f hc r Dd
 replace g:=At.grownAt g hc r Dd
 replace d:=At.grownAt d hc r Dd
 replace hD:=fC.grownAt hD hc r Dd Dd
 replace hc:=aq
 refine Ti 17 rfl rfl hS<|Td ?_
 refine fe (λa b=>Dc 228 285 N bc bz ba bm a b) fQ (λae J=> ?_)
 replace hz:=J.at hz
 replace hB:=cW hB J hN0
 obtain⟨f,g,d⟩:=J.k3 f g d
 replace hD:=fC.ext J hD
 obtain⟨hc,hX⟩:=J.k2 hc hX
 have hwk0:Wc 285 bc bz ae:=⟨_,hc⟩
 have hS:Dc 228 285 N bc bz ba bm ae ae:=Dc.refl
 refine Tq 0 rfl rfl hS<|Tq 1 rfl rfl hS<|Tc 2 rfl rfl hS<|Tf 3 rfl rfl jT hS<|Tk 4 rfl (λ_ hq=>cB (v:= .pointer (some ⟨bz,0,none⟩)) rfl iK (acj (Dc.wk hq hwk0))) hS<|Ti 5 rfl rfl hS<|Tq 6 rfl rfl hS<|Ti 7 rfl rfl hS<|Ti 8 rfl rfl hS<|Tk 9 rfl (λ_ _=>Uq rfl rfl Om Om) hS<|Ti 10 rfl rfl hS<|Tk 11 rfl (λ_ _=>eP rfl rfl Om Om) hS<|To 12 rfl (TG Qc (pN N ba bm bz bc R aS (iQ e16_11 ap) (kr e16_11 ap aT) (2*i+k) _ (an hN0 (Below.size hB)) hz hD hc loc (pD ad.valid) Om) rfl λbv bw af=>⟨.inl (Dc.trans hS ((by obtain⟨_,_,_,_,h,_⟩:=af;exact h))),?_⟩)
 replace hS:=Dc.trans hS ((by obtain⟨_,_,_,_,h,_⟩:=af;exact h))
 obtain⟨aV,e17_12,aW,rfl,K,aX,hD17_12,aY,ag⟩:=af
 replace hB:=Below.dx hB (am _) hN0 K.dx
 replace f:=aa6 hD hc K f Dd Dd Dd
 replace g:=aa6 hD hc K g Dd Dd Dd
 replace d:=aa6 hD hc K d Dd Dd Dd
 replace hX:=Dc.trans hX K
 replace hz:=aX
 replace hD:=hD17_12
 replace hc:=aY
 have hwc:=hD.wf
 have hlc:=fX ag.pre
 refine To 13 rfl (TG CH (kO N ba bm bz R aV oid aW _ (an hN0 (Below.size hB)) hz hD Om ag.v) rfl λbx bA ah=>⟨.inl (Dc.trans hS (abF hD (PO.dx ah) (by decide) (by decide))),?_⟩)
 replace hS:=Dc.trans hS (abF hD (PO.dx ah) Dd Dd)
 obtain⟨aZ,a0,ar,rfl,t,a1,a2⟩:=ah
 replace hz:=At.dx hD t hz Dd Dd
 replace hB:=Below.dx hB (am _) hN0 t
 replace f:=At.dx hD t f Dd Dd
 replace g:=At.dx hD t g Dd Dd
 replace d:=At.dx hD t d Dd Dd
 replace hc:=At.dx hD t hc Dd Dd
 replace hX:=Dc.trans hX (abF hD t Dd Dd)
 replace hD:=a1
 have hwd:=hD.wf
 refine Tk 14 rfl (λ_ _=>c7 rfl) hS<|Tk 15 rfl (λ_ _=>da rfl) hS<|To 16 rfl (TG oz (eS N bc bz _ _ _ _ (an hN0 (Below.size hB)) hc loc) rfl λbB bC L=>⟨.inl (Dc.trans hS (Dc.did L.1 loc L.2.1)),?_⟩)
 replace hS:=Dc.trans hS (Dc.did L.1 loc L.2.1)
 obtain⟨u,au,rfl⟩:=L
 replace hX:=Dc.trans hX (Dc.did u loc au)
 replace hz:=At.grownAt hz hc u Dd
 replace hB:=db hB u hN0 (λj hj=>by cases hj;exact loc)
 replace f:=At.grownAt f hc u Dd
 replace g:=At.grownAt g hc u Dd
 replace d:=At.grownAt d hc u Dd
 replace hD:=fC.grownAt hD hc u Dd Dd
 replace hc:=au
 refine Ti 17 rfl rfl hS<|Td<|ZT rfl rfl rfl ?_
 exact aH _ _ ((k+1,kr e17_12 ar a0,aZ,iQ e17_12 ar)) Za ⟨rfl,rfl,trivial⟩ ⟨hz,hX,hB,f,g,d,hD,(by exact hc),Om,(PT h8 hfr hi Om hlp hwa hwb hwc hwd ab ad ag a2),trivial⟩ (by show 2-(k+1)<2-k;omega)
 refine cR<|Zr<|Zi rfl<|ZZ rfl<|Zt<|cV (v:= .int .i64 _) rfl ?_
 obtain rfl:k=2:=by omega
 exact⟨_,_,_,rfl,hX,hz,hD,hc,Ul h8 hfr hi hlp⟩
end
section
open Go Go.RowKit
end
section
open Go Go.RowKit
theorem SZ:∀q,WN q
 |0=>λN ba bm bz bc R ns e s n i w _ _ _ _ _ _ hfr hn=>by
  have:=hfr.le
  omega
 |q+1=>λN ba bm bz bc R ns e s n i w=>Oa q N ba bm bz bc R ns e s n i w (SZ q)
end
end Go.Proofs.YtedeonkjellcpaaGreatDoor
