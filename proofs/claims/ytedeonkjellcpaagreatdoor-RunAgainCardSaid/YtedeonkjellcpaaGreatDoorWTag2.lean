/- The walks of deeds with two families. The walk of joining. The walks of building, of parts, of what holds none, of the least, and of counting. The walks of new diagrams, of telling and listing members, and of marking nodes. The walks of the family of a set's primes. The walks of the document's famil -/
import Derived.Test.YtedeonkjellcpaaGreatDoorWZdd
import Derived.Test.YtedeonkjellcpaaGreatDoorWSpec6
namespace Go.Proofs.YtedeonkjellcpaaGreatDoor
set_option linter.unusedVariables false
set_option linter.unusedSimpArgs false
section
open Go Go.RowKit
theorem QG:dW Tryz.prog 324=some (.agg #[.pointer none, .nilFunc, .nilFunc, .map none]):=by kernel_rfl
theorem zh:(Tryz.prog.info? 238).map (·.size)=some 1:=by kernel_rfl
theorem Hk:(Tryz.prog.info? 317).map (·.size)=some 1:=by kernel_rfl
theorem Hd:(Tryz.prog.info? 318).map (·.size)=some 1:=by kernel_rfl
theorem HC:(Tryz.prog.info? 322).map (·.size)=some 1:=by kernel_rfl
theorem tj {f:Nat→Value} {w:World} {d:Option Nat} {ty:TypeId} {ps:String} {af:Array Edge} {g:Option (Nat×Bool)} {x0 x1 x2 x3:Operand} {c0_0 c1_0 c2_0 c3_0:Value} (h0:dk f x0=c0_0) (k0:c0_0.cells= #[c0_0]) (h1:dk f x1=c1_0) (k1:c1_0.cells= #[c1_0]) (h2:dk f x2=c2_0) (k2:c2_0.cells= #[c2_0]) (h3:dk f x3=c3_0) (k3:c3_0.cells= #[c3_0]):
    (execOp (dk f) ⟨d, .build 324 #[(0,x0),(1,x1),(2,x2),(3,x3)],ty,ps,af,g⟩).run Tryz.prog w= .ok (.value (.agg #[c0_0,c1_0,c2_0,c3_0])) w:=by
  obtain⟨i0,hi0,hz0⟩:=Do.1 (show (Tryz.prog.info? 324).bind (·.zero)=_ from QG)
  obtain⟨j238,hj238,hs238⟩:=an.1 zh
  obtain⟨j317,hj317,hs317⟩:=an.1 Hk
  obtain⟨j318,hj318,hs318⟩:=an.1 Hd
  obtain⟨j322,hj322,hs322⟩:=an.1 HC
  simp[execOp,h0,k0,h1,k1,h2,k2,h3,k3,Instr.build,zeroValue,typeInfo,sizeOf,hi0,hz0,run_underlying Tryz.underlying324,Instr.fill,d7,hj238,hs238,hj317,hs317,hj318,hs318,hj322,hs322]
theorem ie:LV Tryz.prog 320=some (2,1):=by kernel_rfl
theorem yj:cX Tryz.prog 259=true:=by kernel_rfl
theorem Hz:d5 Tryz.prog 324 1=some 1:=by kernel_rfl
theorem NZ:eJ Tryz.prog 317=true:=by kernel_rfl
theorem yZ:d5 Tryz.prog 324 3=some 3:=by kernel_rfl
theorem FF:eJ Tryz.prog 322=true:=by kernel_rfl
theorem xO:dW Tryz.prog 320=some (.agg #[.int .i64 0, .int .i64 0]):=by kernel_rfl
theorem jx {f:Nat→Value} {w:World} {d:Option Nat} {ty:TypeId} {ps:String} {af:Array Edge} {g:Option (Nat×Bool)} {x0 x1:Operand} {c0_0 c1_0:Value} (h0:dk f x0=c0_0) (k0:c0_0.cells= #[c0_0]) (h1:dk f x1=c1_0) (k1:c1_0.cells= #[c1_0]):
    (execOp (dk f) ⟨d, .build 320 #[(0,x0),(1,x1)],ty,ps,af,g⟩).run Tryz.prog w= .ok (.value (.agg #[c0_0,c1_0])) w:=by
  obtain⟨i0,hi0,hz0⟩:=Do.1 (show (Tryz.prog.info? 320).bind (·.zero)=_ from xO)
  obtain⟨j3,hj3,hs3⟩:=an.1 fN
  simp[execOp,h0,k0,h1,k1,Instr.build,zeroValue,typeInfo,sizeOf,hi0,hz0,run_underlying Tryz.underlying320,Instr.fill,d7,hj3,hs3]
theorem ET:m3 Tryz.prog 322=some (320,3):=by kernel_rfl
theorem NV {f:Nat→Value} {w:World} {d:Option Nat} {ty t2:TypeId} {ps:String} {af:Array Edge} {g:Option (Nat×Bool)} {x y:Operand} {a0 a1 b0 b1:Int} (hx:dk f x= .agg #[.int .i64 a0, .int .i64 a1]) (hy:dk f y= .agg #[.int .i64 b0, .int .i64 b1]):
    (execOp (dk f) ⟨d, .binOp .eql 320 x y t2,ty,ps,af,g⟩).run Tryz.prog w= .ok (.value (.bool (decide ((a0=b0∧a1=b1))))) w:=by
  have hg:Tryz.prog.eqGuardType Tryz.prog.depth 320=false:=by kernel_rfl
  have ha:=mY (P:=Tryz.prog) w 9999 2 320 3 #[.int .i64 a0, .int .i64 a1] #[.int .i64 b0, .int .i64 b1]
    (λi=> .int .i64 ([a0,a1].getD i 0)) (λi=> .int .i64 ([b0,b1].getD i 0)) (λi=>[a0,a1].getD i 0==[b0,b1].getD i 0) Tryz.underlying320 ka (by simp[isAgg,run_underlying Tryz.underlying3])
    (λi hi=>by
      have:i=0∨i=1:=by omega
      rcases this with rfl|rfl<;>rfl)
    (λi hi=>by
      have:i=0∨i=1:=by omega
      rcases this with rfl|rfl<;>rfl)
    (λi hi=>run_equalIn_int w 9998 3 .i64 .i64 _ _ Tryz.underlying3)
  simp only[execOp,hx,hy,Sem.run_bind,run_eqGuard_agg _ _ _ _ _ _ _ hg,Result.andThen_ok,run_eql_struct,ha]
  simp[List.range,List.range.loop]
  by_cases q0:a0=b0<;>by_cases q1:a1=b1<;>simp[q0,q1]
theorem BJ:qJ Tryz.prog 320 (λv=>∃a:(Nat×Nat),v=qt a):=by
  refine pz Tryz.underlying320 ?_ ?_ ?_ ?_
  · rintro w _ _ ⟨a,rfl⟩ ⟨c,rfl⟩
    have hg:Tryz.prog.eqGuardType Tryz.prog.depth 320=false:=by kernel_rfl
    refine⟨_,sQ hg (NV rfl rfl),?_⟩
    rw[decide_eq_true_eq]
    constructor
    · rintro⟨h1,h2⟩
      exact congrArg _ (Prod.ext (by omega) (by omega))
    · intro h
      rw[zI _ _ h]
      exact⟨rfl,rfl⟩
  · rintro _ _ ⟨a,rfl⟩ ⟨c,rfl⟩
    exact .inl rfl
  · rintro w em _ ⟨a,rfl⟩
    obtain⟨j0,hj0,hs0⟩:=an.1 (show (Tryz.prog.info? 3).map (·.size)=some 1 by kernel_rfl)
    have h2:∀k,(Instr.checkKey em (k+1+1) 320 (qt a)).run Tryz.prog w= .ok () w:=λk=>by
      simp[qt,Instr.checkKey,part,isAgg,sizeOf,typeInfo,hj0,hs0,run_underlying Tryz.underlying320,run_underlying Tryz.underlying3,List.range']
    exact h2 9998
  · rintro _ ⟨a,rfl⟩
    simp[qt,Instr.sameBits]
theorem mb:d5 Tryz.prog 324 0=some 0:=by kernel_rfl
theorem iS:eJ Tryz.prog 238=true:=by kernel_rfl
theorem IL:cX Tryz.prog 274=true:=by kernel_rfl
theorem GQ:d5 Tryz.prog 324 2=some 2:=by kernel_rfl
theorem NJ:eJ Tryz.prog 318=true:=by kernel_rfl
theorem y4:kf Tryz.prog 320=some 2:=by kernel_rfl
theorem IM:cX Tryz.prog 275=true:=by kernel_rfl
theorem RF:cX Tryz.prog 271=true:=by kernel_rfl
theorem Sv:cX Tryz.prog 272=true:=by kernel_rfl
theorem RT:cX Tryz.prog 261=true:=by kernel_rfl
theorem JH:cX Tryz.prog 256=true:=by kernel_rfl
theorem CM:cX Tryz.prog 254=true:=by kernel_rfl
theorem Qp:cX Tryz.prog 255=true:=by kernel_rfl
theorem rR (f g:Nat) (w:World):
    Fn Tryz.prog 261 #[.int .i64 (f:Int), .int .i64 (g:Int)] w λv w'=>v= .tuple #[.int .i64 ((pJ.ends f g).1:Int), .bool (pJ.ends f g).2]:=by
 refine cM (n:=17) Tryz.func261 rfl rfl rfl λhB=> ?_
 refine Zr<|Zi rfl<|Zb rfl<|ct<|Zq<|Zr<|Zi rfl<|Zv (dJ rfl rfl)<|ZX rfl (λa=> ?_) λa=> ?_
 refine Zs<|Zs<|Zs<|Zb rfl<|ct<|cQ rfl<|Zr<|Zi rfl<|Zi rfl<|Zb rfl<|ct<|Zt<|dG (v:= .int .i64 _) rfl (v1:= .bool true) rfl ⟨hB,?_⟩
 exact Yp (.inl a)
 refine Zi rfl<|Zi rfl<|Zv (dJ rfl rfl)<|Zb rfl<|ct<|ZQ rfl (λb=> ?_) λb=> ?_
 refine Zr<|Zi rfl<|Zi rfl<|Zb rfl<|ct<|Zt<|dG (v:= .int .i64 _) rfl (v1:= .bool true) rfl ⟨hB,?_⟩
 exact Yp (.inr b)
 refine cx<|Zr<|Zi rfl<|Zi rfl<|Zv (dJ rfl rfl)<|Zi rfl<|Zb rfl<|ct<|Zt<|dG (v:= .int .i64 _) rfl (v1:= .bool _) rfl ⟨hB,?_⟩
 exact aat a b
theorem tl (f g:Nat) (w:World):
    Fn Tryz.prog 255 #[.int .i64 (f:Int), .int .i64 (g:Int)] w λv w'=>v= .tuple #[.int .i64 ((w8.ends f g).1:Int), .bool (w8.ends f g).2]:=by
 refine cM (n:=16) Tryz.func255 rfl rfl rfl λhB=> ?_
 refine Zr<|Zi rfl<|Zb rfl<|ct<|Zq<|Zr<|Zi rfl<|Zv (dJ rfl rfl)<|ZX rfl (λa=> ?_) λa=> ?_
 refine Zs<|Zs<|Zs<|Zb rfl<|ct<|cQ rfl<|Zr<|Zi rfl<|Zb rfl<|ct<|Zt<|dG (v:= .int .i64 0) rfl (v1:= .bool true) rfl ⟨hB,?_⟩
 exact XU (.inl a)
 refine Zi rfl<|Zi rfl<|Zv (dJ rfl rfl)<|Zb rfl<|ct<|ZQ rfl (λb=> ?_) λb=> ?_
 refine Zr<|Zi rfl<|Zb rfl<|ct<|Zt<|dG (v:= .int .i64 0) rfl (v1:= .bool true) rfl ⟨hB,?_⟩
 exact XU (.inr b)
 refine cx<|Zr<|Zi rfl<|Zi rfl<|Zv (dJ rfl rfl)<|Zi rfl<|Zb rfl<|ct<|Zt<|dG (v:= .int .i64 _) rfl (v1:= .bool _) rfl ⟨hB,?_⟩
 exact aal a b
theorem s5 (f g:Nat) (w:World):
    Fn Tryz.prog 257 #[.int .i64 (f:Int), .int .i64 (g:Int)] w λv w'=>v= .tuple #[.int .i64 ((rH.ends f g).1:Int), .bool (rH.ends f g).2]:=by
 refine cM (n:=20) Tryz.func257 rfl rfl rfl λhB=> ?_
 refine Zr<|Zi rfl<|Zb rfl<|ct<|Zq<|cy<|Zr<|Zi rfl<|Zv (dJ rfl rfl)<|ZX rfl (λa=> ?_) λa=> ?_
 refine Zs<|Zs<|Zb rfl<|Zb rfl<|ct<|cQ rfl<|Zr<|Zi rfl<|Zb rfl<|ct<|Zt<|dG (v:= .int .i64 0) rfl (v1:= .bool true) rfl ⟨hB,?_⟩
 exact YY (.inl a)
 refine Zi rfl<|Zv (dJ rfl rfl)<|Zb rfl<|Zb rfl<|ct<|ZQ rfl (λb=> ?_) λb=> ?_
 refine Zr<|Zi rfl<|Zb rfl<|ct<|Zt<|dG (v:= .int .i64 0) rfl (v1:= .bool true) rfl ⟨hB,?_⟩
 exact YY (.inr b)
 refine Zr<|Zi rfl<|Zv (dJ rfl rfl)<|Zb rfl<|ct<|ZQ rfl (λc=> ?_) λc=> ?_
 refine Zr<|Zi rfl<|Zi rfl<|Zb rfl<|ct<|Zt<|dG (v:= .int .i64 _) rfl (v1:= .bool true) rfl ⟨hB,?_⟩
 exact aaT a b c
 refine cx<|Zr<|Zi rfl<|Zi rfl<|Zv (dJ rfl rfl)<|Zi rfl<|Zb rfl<|ct<|Zt<|dG (v:= .int .i64 _) rfl (v1:= .bool _) rfl ⟨hB,?_⟩
 exact aaO a b c
def Y2 (ge:Nat) (o:Op):Prop:=∀(f g:Nat) (w:World),Fn Tryz.prog ge #[.int .i64 (f:Int), .int .i64 (g:Int)] w λv w'=>v= .tuple #[.int .i64 ((o.ends f g).1:Int), .bool (o.ends f g).2]
def Di (ge gh:Nat) (o:Op) (n:Nat):Prop:=∀(N ba bm bz bd bx R:Nat) (ns:List Nd) (dl:List ((Nat×Nat)×Int)) (f g:Nat) (w:World),N≤w.heap.size→At w bz #[.pointer (some ⟨ba,0,none⟩)] 282→At w bd #[.pointer (some ⟨bz,0,none⟩), .func (.func ge) #[] #[], .func (.func gh) #[] #[], .map (some bx)] 324→fJ 222 228 N ba bm R w ns→dy qt eM w bx dl→sX o.res ns dl→N≤bx→bx≠bm→f<ns.length+2→g<ns.length+2→25-min (dV ns f) (dV ns g)≤n→
  lc Tryz.prog 259 #[.pointer (some ⟨bd,0,none⟩), .int .i64 (f:Int), .int .i64 (g:Int)] w λv w'=>PD 222 228 N ba bm R bx o.res w ns (o.cst ns f g) (min (dV ns f) (dV ns g)) (o.res (M ns f) (M ns g)) v w'
def Xs (ge gh:Nat) (o:Op) (n:Nat):Prop:=∀(N ba bm bz bd bx R:Nat) (ns:List Nd) (dl:List ((Nat×Nat)×Int)) (f0 f1 g0 g1 l:Nat) (w:World),N≤w.heap.size→At w bz #[.pointer (some ⟨ba,0,none⟩)] 282→At w bd #[.pointer (some ⟨bz,0,none⟩), .func (.func ge) #[] #[], .func (.func gh) #[] #[], .map (some bx)] 324→fJ 222 228 N ba bm R w ns→dy qt eM w bx dl→sX o.res ns dl→N≤bx→bx≠bm→f0<ns.length+2→f1<ns.length+2→g0<ns.length+2→g1<ns.length+2→l<dV ns f0→l<dV ns f1→l<dV ns g0→l<dV ns g1→l<24→24-l≤n→
  lc Tryz.prog gh #[.pointer (some ⟨bd,0,none⟩), .agg #[.int .i64 (f0:Int), .int .i64 (f1:Int)], .agg #[.int .i64 (g0:Int), .int .i64 (g1:Int)]] w λv w'=>PD 222 228 N ba bm R bx o.res w ns (o.hcst ns l f0 f1 g0 g1) (l+1) (o.resH (M ns f0) (M ns f1) (M ns g0) (M ns g1)) v w'
theorem vK (bz ge gh:Nat) (w:World):
    Fn Tryz.prog 272 #[.pointer (some ⟨bz,0,none⟩), .func (.func ge) #[] #[], .func (.func gh) #[] #[]] w λv w'=>∃bd bx,v= .func (.func 259) #[.pointer (some ⟨bd,0,none⟩)] #[]∧At w' bd #[.pointer (some ⟨bz,0,none⟩), .func (.func ge) #[] #[], .func (.func gh) #[] #[], .map (some bx)] 324∧dy qt eM w' bx ([]:List ((Nat×Nat)×Int))∧w.heap.size≤bd∧w.heap.size≤bx:=by
 refine cM (n:=16) Tryz.func272 rfl rfl rfl λhB=> ?_
 refine Zr<|Zw _ rfl<|ct<|Zr<|Zp rfl<|Zw (.func _ _ _) rfl<|Zw (.func _ _ _) rfl<|Zy (g7 (enc:=qt) (encV:=eM) λd W5 e f a=> ?_)
 have g:=ZO e hB
 replace hB:=Ze hB f
 refine Zv (tj (h0:=rfl) (k0:=rfl) (h1:=rfl) (k1:=rfl) (h2:=rfl) (k2:=rfl) (h3:=rfl) (k3:=rfl) (c0_0:= .pointer (some ⟨bz,0,none⟩)) (c1_0:= .func _ _ _) (c2_0:= .func _ _ _) (c3_0:= .map (some d)))<|Zy (dw (c:= #[_,_,_,_]) rfl rfl λb W8 h i j=> ?_)
 have k:=ZO h hB
 obtain⟨hB,a⟩:=i.k2 hB a
 refine Zp rfl<|ct<|Zr<|Zp rfl<|Zv (FH (v:= .pointer (some ⟨b,0,none⟩)) rfl)<|Zw (.func (.func 259) #[.pointer (some ⟨b,0,none⟩)] #[]) rfl<|ct<|Zt<|df (v:= .func (.func 259) #[.pointer (some ⟨b,0,none⟩)] #[]) rfl ⟨hB,?_⟩
 exact⟨_,_,rfl,j,a,k,g⟩
theorem Ki (ge n:Nat) (o:Op) (N ba bm bz bd bx R:Nat) (ns:List Nd) (dl:List ((Nat×Nat)×Int)) (f0 f1 g0 g1 l:Nat) (w:World) (hoh:∀ns l f0 f1 g0 g1,o.hcst ns l f0 f1 g0 g1=o.cst ns f1 g1) (hor:∀A0 A1 B0 B1,o.resH A0 A1 B0 B1=o.res A1 B1) (ih:Di ge 256 o n) (hN0:N≤w.heap.size) (hz:At w bz #[.pointer (some ⟨ba,0,none⟩)] 282) (hbd:At w bd #[.pointer (some ⟨bz,0,none⟩), .func (.func ge) #[] #[], .func (.func 256) #[] #[], .map (some bx)] 324) (hD:fJ 222 228 N ba bm R w ns) (hdn:dy qt eM w bx dl) (hdone:sX o.res ns dl) (lox:N≤bx) (hxm:bx≠bm) (v0:f0<ns.length+2) (v1:f1<ns.length+2) (v2:g0<ns.length+2) (v3:g1<ns.length+2) (k0:l<dV ns f0) (k1:l<dV ns f1) (k2:l<dV ns g0) (k3:l<dV ns g1) (h24:l<24) (hn:24-l≤n):
    lc Tryz.prog 256 #[.pointer (some ⟨bd,0,none⟩), .agg #[.int .i64 (f0:Int), .int .i64 (f1:Int)], .agg #[.int .i64 (g0:Int), .int .i64 (g1:Int)]] w λv w'=>PD 222 228 N ba bm R bx o.res w ns (o.hcst ns l f0 f1 g0 g1) (l+1) (o.resH (M ns f0) (M ns f1) (M ns g0) (M ns g1)) v w':=by
 refine dK (n:=16) (N:=N) Tryz.func256 rfl rfl rfl λhB=> ?_
 have hX:Dx 228 N [bx,ba,bm] w w:=Dx.refl
 refine Zr<|Zy (dw (c:= #[_,_]) rfl rfl λk W3 m b d=> ?_)
 obtain⟨hz,hbd⟩:=b.k2 hz hbd
 replace hD:=fJ.ext b hD
 obtain⟨hdn,hX⟩:=b.k2 hdn hX
 replace hB:=cW hB b hN0
 refine Zy (dw (c:= #[_,_]) rfl rfl λp W6 e a f=> ?_)
 have q:=Zn e d.lt
 obtain⟨hz,hbd⟩:=a.k2 hz hbd
 replace hD:=fJ.ext a hD
 obtain⟨hdn,hX⟩:=a.k2 hdn hX
 replace hB:=cW hB a hN0
 replace d:=a.at d
 refine Zi rfl<|ZZ rfl<|Zr<|Zp rfl<|Zv (fx rfl rfl ie Om Om)<|Zl rfl cR d rfl<|Zv (fx rfl rfl ie Om Om)<|Zl rfl cR f rfl<|ZH yj (ih N ba bm bz bd bx R ns dl f1 g1 _ (go hN0 (Below.size hB)) hz hbd hD hdn hdone lox hxm v1 v3 Om) rfl λr s g=> ?_
 obtain⟨t,u,x,dl1_5,rfl,h,i,j,hdn1_5,hdone1_5⟩:=g
 replace hX:=Dx.trans hX h
 replace hD:=i
 replace hdn:=hdn1_5
 replace hdone:=hdone1_5
 refine Zv (cZ rfl)<|Zv (c7 rfl)<|Zi rfl<|ZZ rfl<|Zt<|dG (v:= .int .i64 _) rfl (v1:= .int .i64 _) rfl ?_
 rw[hor,hoh]
 exact⟨_,_,_,_,rfl,hX,hD,j.low Om,hdn,hdone⟩
set_option maxRecDepth 10000 in
theorem aai (ge gh n:Nat) (o:Op) (N ba bm bz bd bx R:Nat) (ns:List Nd) (dl:List ((Nat×Nat)×Int)) (f g:Nat) (w:World) (hO:KV o) (hE:Y2 ge o) (hcE:cX Tryz.prog ge=true) (hcH:cX Tryz.prog gh=true) (ih:Di ge gh o n) (hH:Xs ge gh o n) (hN0:N≤w.heap.size) (hz:At w bz #[.pointer (some ⟨ba,0,none⟩)] 282) (hbd:At w bd #[.pointer (some ⟨bz,0,none⟩), .func (.func ge) #[] #[], .func (.func gh) #[] #[], .map (some bx)] 324) (hD:fJ 222 228 N ba bm R w ns) (hdn:dy qt eM w bx dl) (hdone:sX o.res ns dl) (lox:N≤bx) (hxm:bx≠bm) (hf:f<ns.length+2) (hg:g<ns.length+2) (hn:25-min (dV ns f) (dV ns g)≤n+1):
    lc Tryz.prog 259 #[.pointer (some ⟨bd,0,none⟩), .int .i64 (f:Int), .int .i64 (g:Int)] w λv w'=>PD 222 228 N ba bm R bx o.res w ns (o.cst ns f g) (min (dV ns f) (dV ns g)) (o.res (M ns f) (M ns g)) v w':=by
 refine dK (n:=130) (N:=N) Tryz.func259 rfl rfl rfl λhB=> ?_
 have hX:Dx 228 N [bx,ba,bm] w w:=Dx.refl
 have hwf:=hD.wf
 have hroom:=hD.room
 have htop:=hD.top
 refine Zr<|Zi rfl<|ZZ rfl<|Zq<|Zr<|Zp rfl<|Zc rfl<|Zf rfl Hz<|ZL (.func (.func ge) #[] #[]) rfl NZ hbd rfl<|Zi rfl<|Zi rfl ?_
 refine oI (dd:=some 26) rfl rfl rfl (zw (q:=ge) rfl hcE (v0:= .int .i64 _) rfl (v1:= .int .i64 _) rfl) (hE _ _ _) (λaz W7 p Z=> ?_)
 obtain⟨hz,hbd⟩:=p.k2 hz hbd
 replace hD:=fJ.ext p hD
 obtain⟨hdn,hX⟩:=p.k2 hdn hX
 replace hB:=cW hB p hN0
 obtain rfl:=Z
 refine Zw (.tuple #[.int .i64 _, .bool _]) rfl<|Zv (cZ rfl)<|Zv (c7 rfl)<|Zi rfl<|Zb rfl<|ct<|Zr<|Zb rfl<|ct<|ZQ rfl (λr=> ?_) λr=> ?_
 refine Zr<|Zi rfl<|Zi rfl<|ZZ rfl<|Zt<|dG (v:= .int .i64 _) rfl (v1:= .int .i64 0) rfl ?_
 obtain⟨e1,e2,e3⟩:=hO.endT ns f g hwf hf hg r
 exact⟨ns,_,0,dl,rfl,hX,hD,ke.same e1 e2 e3,hdn,hdone⟩
 refine cx<|Zq<|Zr<|Zp rfl<|Zc rfl<|Zf rfl yZ<|ZL (.map (some bx)) rfl FF hbd rfl<|Zi rfl<|Zi rfl<|Zv (jx (h0:=rfl) (k0:=rfl) (h1:=rfl) (k1:=rfl) (c0_0:= .int .i64 _) (c1_0:= .int .i64 _))<|Zv (Ce (enc:=qt) (encV:=eM) (v0:=0) (k:=(f,g)) rfl rfl ET BJ (λa=>⟨a,rfl⟩) zI wL rfl hdn)<|Zw (.tuple #[.int .i64 _, .bool _]) rfl<|Zv (cZ rfl) ?_
 refine Zv (c7 rfl)<|Zi rfl<|Zb rfl<|ct<|Zr<|Zb rfl<|ct<|ZQ rfl (λB=> ?_) λB=> ?_
 refine Zr<|Zi rfl<|Zi rfl<|ZZ rfl<|Zt<|dG (v:= .int .i64 _) rfl (v1:= .int .i64 0) rfl ?_
 obtain⟨id,he,i1,i2,i3⟩:=N1 hdone B
 rw[he]
 exact⟨ns,id,0,dl,rfl,hX,hD,ke.same i1 i2 i3,hdn,hdone⟩
 refine cx ?_
 have C:=hB
 replace hB:=Below.refl W7.heap.size W7
 obtain⟨f0,g0,fg⟩:=hO.endF f g r
 have hlf:=oh hwf hf
 have hlg:=oh hwf hg
 have h24':min (dV ns f) (dV ns g)<24:=by
   by_cases q:2≤f
   · have:=oX hwf hf q;omega
   · have:=oX hwf hg (by omega);omega
 refine Zd dC λaa ab=> ?_
 replace hB:=Ze hB ab
 have hS:=dC.refl aa
 refine Tq 0 rfl rfl hS<|Tc 1 rfl rfl hS<|Tf 2 rfl rfl mb hS<|Tk 3 rfl (λ_ hq=>cD (v:= .pointer (some ⟨bz,0,none⟩)) rfl iS (At.cell (hq.at (On hB hbd)) rfl)) hS<|Ti 4 rfl rfl hS<|Tq 6 rfl rfl hS<|Tc 7 rfl rfl hS<|Tf 8 rfl rfl mb hS<|Tk 9 rfl (λ_ hq=>cD (v:= .pointer (some ⟨bz,0,none⟩)) rfl iS (At.cell (hq.at (On hB hbd)) rfl)) hS<|Ti 10 rfl rfl hS<|To 5 rfl (TC DM (kO _ _ _ _ _ _ _ _ (On hB hz) (fJ.below hB hD) (by omega)) rfl λaA aB t D=>⟨.inl (hS.trans t),?_⟩)
 replace hB:=Ze hB t
 replace hS:=hS.trans t
 rw[Fu hf]at D
 obtain rfl:=D
 refine To 11 rfl (TC DM (kO _ _ _ _ _ _ _ _ (On hB hz) (fJ.below hB hD) (by omega)) rfl λaC aD u E=>⟨.inl (hS.trans u),?_⟩)
 replace hB:=Ze hB u
 replace hS:=hS.trans u
 rw[Fu hg]at E
 obtain rfl:=E
 refine iY (dd:=some 56) 12 ka rfl rfl rfl rfl (Yd.val (UC rfl rfl) ⟨.inl hS,?_⟩)
 refine Ti 13 rfl rfl hS<|Td ?_
 generalize hl:min (dV ns f) (dV ns g)=l at h24'
 have H1:=iy hwf hf (l:=l) (by omega) h24'
 have H2:=iy hwf hg (l:=l) (by omega) h24'
 have hn1:=abC (ja hwf f hf f0).choose_spec
 have hn2:=abC (ja hwf g hg g0).choose_spec
 have hla:=oh hwf H1.va
 have hlb:=oh hwf H2.va
 have vla:=H1.la
 have vlb:=H2.la
 have hco:=hO.cost ns f g l hwf hf hg r hl.symm h24'
 refine Zr<|Zy (cK xO rfl λaE aF ac ad c=> ?_)
 have F:=ZO ac hB
 replace hB:=Ze hB ad
 refine Zy (cK xO rfl λaG aH G ae d=> ?_)
 have H:=ZO G hB
 have s:=Zn G c.lt
 obtain⟨hB,c⟩:=ae.k2 hB c
 refine ct<|Zr<|Zp rfl<|Zc rfl<|Zf rfl mb<|ZL (.pointer (some ⟨bz,0,none⟩)) rfl iS (On hB hbd) rfl<|Zi rfl<|Zi rfl<|ZC IL (m7 _ _ _ _ _ _ _ _ _ (On hB hz) (fJ.below hB hD) pN) rfl λaI aJ af ag=> ?_
 obtain⟨hB,c,d⟩:=af.k3 hB c d
 obtain rfl:=ag
 refine Zw (.tuple #[.int .i64 _, .int .i64 _]) rfl<|Zv (cZ rfl)<|Zv (c7 rfl)<|Zv (fx rfl rfl ie Om Om)<|Zy (db (v:= .int .i64 _) rfl rfl cR rfl c (by show 0<2;decide) λaK I ah=> ?_)
 replace hB:=Zg hB I F
 replace d:=At.grownNe d (Ne.symm s) I
 replace c:=ah
 replace c:At _ _ #[_,_] _:=c
 refine Zv (fx rfl rfl ie Om Om)<|Zy (db (v:= .int .i64 _) rfl rfl cR rfl c (by show 1<2;decide) λaL J ai=> ?_)
 replace hB:=Zg hB J F
 replace d:=At.grownNe d (Ne.symm s) J
 replace c:=ai
 replace c:At _ _ #[_,_] _:=c
 refine ct<|Zr<|Zp rfl<|Zc rfl<|Zf rfl mb<|ZL (.pointer (some ⟨bz,0,none⟩)) rfl iS (On hB hbd) rfl<|Zi rfl<|Zi rfl<|ZC IL (m7 _ _ _ _ _ _ _ _ _ (On hB hz) (fJ.below hB hD) pN) rfl λaM aN aj ak=> ?_
 obtain⟨hB,c,d⟩:=aj.k3 hB c d
 obtain rfl:=ak
 refine Zw (.tuple #[.int .i64 _, .int .i64 _]) rfl<|Zv (cZ rfl)<|Zv (c7 rfl)<|Zv (fx rfl rfl ie Om Om)<|Zy (db (v:= .int .i64 _) rfl rfl cR rfl d (by show 0<2;decide) λaO K al=> ?_)
 replace hB:=Zg hB K H
 replace c:=At.grownNe c s K
 replace d:=al
 replace d:At _ _ #[_,_] _:=d
 refine Zv (fx rfl rfl ie Om Om)<|Zy (db (v:= .int .i64 _) rfl rfl cR rfl d (by show 1<2;decide) λaP L ao=> ?_)
 replace hB:=Zg hB L H
 replace c:=At.grownNe c s L
 replace d:=ao
 replace d:At _ _ #[_,_] _:=d
 refine ct ?_
 replace hz:=On hB hz
 replace hbd:=On hB hbd
 replace hD:=fJ.below hB hD
 replace hdn:=acl hB hdn
 replace hX:=Dx.trans hX (Dx.below hB)
 have hzs:=go hN0 (Below.size C)
 replace hB:=Below.trans C (Below.mono hB hzs)
 refine Zr<|Zp rfl<|Zv (fx rfl rfl ie Om Om)<|Zl rfl cR c rfl<|Zv (fx rfl rfl ie Om Om)<|Zl rfl cR d rfl<|ZH yj (ih N ba bm bz bd bx R ns dl (dI ns f l) (dI ns g l) _ (go hN0 (Below.size hB)) hz hbd hD hdn hdone lox hxm H1.va H2.va Om) rfl λaQ aR ap=> ?_
 obtain⟨O,P,Q,dl11_5,rfl,h,aq,e,hdn11_5,hdone11_5⟩:=ap
 replace hz:=acU hD hdn h hz Dd Dd
 replace hbd:=acU hD hdn h hbd Dd Dd
 replace hX:=Dx.trans hX h
 replace hB:=Below.dx hB (am _) hN0 h
 replace c:=acU hD hdn h c Dd Dd
 replace d:=acU hD hdn h d Dd Dd
 replace hD:=aq
 replace hdn:=hdn11_5
 replace hdone:=hdone11_5
 refine Zw (.tuple #[.int .i64 (P:Int), .int .i64 Q]) rfl<|Zv (cZ rfl)<|Zv (c7 rfl)<|Zi rfl<|ZZ rfl<|Zq<|Zr<|Zi rfl<|Zv (e7 rfl rfl)<|ct<|ZQ rfl (λx=> ?_) λx=> ?_
 refine Zr<|Zi rfl<|Zi rfl<|ZZ rfl<|Zt<|dG (v:= .int .i64 0) rfl (v1:= .int .i64 _) rfl ?_
 try rw[hl]
 exact⟨_,0,_,_,rfl,hX,hD,e.fail x Om,hdn,hdone⟩
 refine cx ?_
 have he1:Q=0:=aaN x
 subst he1
 obtain⟨a1,a2,a3⟩:=e.old H1.va
 obtain⟨b1,b2,b3⟩:=e.old H1.vb
 obtain⟨c1,c2,c3⟩:=e.old H2.va
 obtain⟨d1,d2,d3⟩:=e.old H2.vb
 obtain⟨o1,o2,_⟩:=e.ok rfl
 have vlc:=H1.lb
 have vld:=H2.lb
 refine Zd (λa b=>Dx 228 N [bx,ba,bm] a b) λS j=> ?_
 obtain⟨hz,hbd⟩:=j.k2 hz hbd
 replace hD:=fJ.ext j hD
 obtain⟨hdn,hX⟩:=j.k2 hdn hX
 replace hB:=cW hB j hN0
 obtain⟨c,d⟩:=j.k2 c d
 have hS:Dx 228 N [bx,ba,bm] S S:=Dx.refl
 refine Tq 0 rfl rfl hS<|Tc 1 rfl rfl hS<|Tf 2 rfl rfl GQ hS<|Tk 3 rfl (λ_ hq=>cD (v:= .func (.func gh) #[] #[]) rfl NJ (At.cell (acU hD hdn hq hbd Dd Dd) rfl)) hS<|Tq 4 rfl rfl hS<|Tk 5 rfl (λ_ hq=>cz rfl y4 rfl (acU hD hdn hq c Dd Dd)) hS<|Tk 6 rfl (λ_ hq=>cz rfl y4 rfl (acU hD hdn hq d Dd Dd)) hS<|To 7 rfl (adc (ip (q:=gh) (first:= #[]) (cap:= #[]) (vs:= #[.pointer (some ⟨bd,0,none⟩), .agg #[_,_], .agg #[_,_]]) rfl hcH GD) (hH N ba bm bz bd bx R O dl11_5 (dI ns f l) (d8 ns f l) (dI ns g l) (d8 ns g l) l _ (go hN0 (Below.size hB)) hz hbd hD hdn hdone lox hxm a1 b1 c1 d1 Om Om Om Om h24' Om) λaS aT y=>⟨.inl (PD.dx y),?_⟩)
 replace hS:=PD.dx y
 obtain⟨ar,T,U,dl14_7,rfl,i,au,m,hdn14_7,hdone14_7⟩:=y
 replace hz:=acU hD hdn i hz Dd Dd
 replace hbd:=acU hD hdn i hbd Dd Dd
 replace hX:=Dx.trans hX i
 replace hB:=Below.dx hB (am _) hN0 i
 replace c:=acU hD hdn i c Dd Dd
 replace d:=acU hD hdn i d Dd Dd
 replace hD:=au
 replace hdn:=hdn14_7
 replace hdone:=hdone14_7
 refine Tw 8 (.tuple #[.int .i64 (T:Int), .int .i64 U]) rfl rfl hS<|Tk 9 rfl (λ_ _=>cZ rfl) hS<|Tk 10 rfl (λ_ _=>c7 rfl) hS<|Ti 11 rfl rfl hS<|Ti 12 rfl rfl hS<|Td<|Zq ?_
 rw[hO.hpre ns O l _ _ _ _ e.pre hwf H1.va H1.vb H2.va H2.vb]at m
 refine Zr<|Zi rfl<|Zv (e7 rfl rfl)<|ct<|ZQ rfl (λz=> ?_) λz=> ?_
 refine Zr<|Zi rfl<|Zi rfl<|ZZ rfl<|Zt<|dG (v:= .int .i64 0) rfl (v1:= .int .i64 _) rfl ?_
 try rw[hl]
 exact⟨_,0,_,_,rfl,hX,hD,e.fail2 m z Om,hdn,hdone⟩
 refine cx ?_
 have he2:U=0:=aaN z
 subst he2
 obtain⟨p1,p2,_⟩:=m.ok rfl
 obtain⟨q1,_,q3⟩:=m.old o1
 refine Zr<|Zp rfl<|Zc rfl<|Zf rfl mb<|ZL (.pointer (some ⟨bz,0,none⟩)) rfl iS hbd rfl<|Zi rfl<|Zi rfl<|Zi rfl<|ZH IM (oB N ba bm bz R ar l P T _ (go hN0 (Below.size hB)) hz hD q1 p1 Om Om h24') rfl λaU aV av=> ?_
 obtain⟨aW,V,aw,rfl,A,ax,W⟩:=av
 replace hbd:=At.dx hD A hbd Dd Dd
 replace hdn:=dy.dx hD A hdn hxm
 replace hX:=Dx.trans hX (ads A)
 replace hD:=ax
 refine Zw (.tuple #[.int .i64 (V:Int), .int .i64 aw]) rfl<|Zv (cZ rfl)<|Zv (c7 rfl)<|Zi rfl<|ZZ rfl<|Zq ?_
 have hgot:=Ws hO hwf hf hg hl.symm h24' e m (W.cheap (acM _ _)) hco
 replace hdone:=hdone.pre W.pre
 refine Zr<|Zi rfl<|Zv (dJ rfl rfl)<|ct<|ZQ rfl (λX=> ?_) λX=> ?_
 refine cI<|Zp rfl<|Zc rfl<|Zf rfl yZ<|ZL (.map (some bx)) rfl FF hbd rfl<|Zi rfl<|Zi rfl<|Zv (jx (h0:=rfl) (k0:=rfl) (h1:=rfl) (k1:=rfl) (c0_0:= .int .i64 _) (c1_0:= .int .i64 _))<|Zi rfl ?_
 refine gM (dd:=none) rfl rfl rfl (fK (enc:=qt) (encV:=eM) (k:=(f,g)) (v:=(V:Int)) rfl rfl rfl ET BJ (λa=>⟨a,rfl⟩) zI hdn (λaX Y ay=> ?_))
 replace hD:=fJ.grownMap hD hdn hxm Y
 replace hX:=Dx.trans hX (Dx.grown Y fD lox)
 replace hdn:=ay
 refine ct<|Zr<|Zi rfl<|Zi rfl<|Zi rfl<|ZZ rfl<|Zt<|dG (v:= .int .i64 _) rfl (v1:= .int .i64 _) rfl ?_
 try rw[hl]
 exact⟨_,_,_,_,rfl,hX,hD,hgot,hdn,Mt hdone hf hg hl hgot X⟩
 refine cx<|Zr<|Zi rfl<|Zi rfl<|Zi rfl<|ZZ rfl<|Zt<|dG (v:= .int .i64 _) rfl (v1:= .int .i64 _) rfl ?_
 try rw[hl]
 exact⟨_,_,_,_,rfl,hX,hD,hgot,hdn,hdone⟩
theorem zZ (ge gh:Nat) (o:Op) (hO:KV o) (hE:Y2 ge o) (hcE:cX Tryz.prog ge=true) (hcH:cX Tryz.prog gh=true) (hH:∀n,Di ge gh o n→Xs ge gh o n):∀n,Di ge gh o n
  |0=>λN ba bm bz bd bx R ns dl f g w _ _ _ hD _ _ _ _ hf _ hn=>by
    have:=oh hD.wf hf
    omega
  |n+1=>λN ba bm bz bd bx R ns dl f g w=>aai ge gh n o N ba bm bz bd bx R ns dl f g w hO hE hcE hcH (zZ ge gh o hO hE hcE hcH hH n) (hH n (zZ ge gh o hO hE hcE hcH hH n))
theorem lZ (ge gh:Nat) (o:Op) (N ba bm bz R:Nat) (ns:List Nd) (f g:Nat) (w:World) (hN0:N≤w.heap.size) (hz:At w bz #[.pointer (some ⟨ba,0,none⟩)] 282) (hD:fJ 222 228 N ba bm R w ns) (hf:f<ns.length+2) (hg:g<ns.length+2) (hDo:∀n,Di ge gh o n):
    lc Tryz.prog 254 #[.pointer (some ⟨bz,0,none⟩), .int .i64 (f:Int), .int .i64 (g:Int), .func (.func ge) #[] #[], .func (.func gh) #[] #[]] w λv w'=>PO 222 228 N ba bm R w ns (o.cst ns f g) (min (dV ns f) (dV ns g)) (o.res (M ns f) (M ns g)) v w':=by
 refine dK (n:=27) (N:=N) Tryz.func254 rfl rfl rfl λhB=> ?_
 have hX:Dx 228 N [ba,bm] w w:=Dx.refl
 have hroom:=hD.room
 have htop:=hD.top
 refine Zr<|Zi rfl<|ZZ rfl<|Zq<|Zr<|Zp rfl<|Zi rfl<|Zi rfl<|Zy (HT (u0:= .int .i64 _) (u1:= .int .i64 _) rfl rfl cV eL rfl rfl Dd Dd λi W7 j d k=> ?_)
 have l:N≤i:=j▸(go hN0 (Below.size hB))
 replace hz:=d.at hz
 replace hD:=fJ.ext d hD
 replace hX:=Dx.trans hX (Dx.ext d)
 replace hB:=cW hB d hN0
 have a:=Aj (enc:=dT) (sz:=1) (a0:=_) (a1:=_) k rfl rfl rfl rfl l
 refine ZC RF (tR N ba bm bz R ns _ [(f:Int),(g:Int)] _ hz hD a.sl fD iw) rfl λx y b m=> ?_
 replace hz:=b.at hz
 replace hD:=fJ.ext b hD
 replace hX:=Dx.trans hX (Dx.ext b)
 replace hB:=cW hB b hN0
 replace a:=b.ow a
 obtain rfl:=m
 refine Zv (eR rfl)<|ct<|ZQ rfl (λh=> ?_) λh=> ?_
 exact absurd (OO h) (by simp[oT];omega)
 refine cx ?_
 have hbmlt:=hD.hm.lt
 have hszb:=Below.size hB
 have hNszb:=go hN0 hszb
 refine Zr<|Zp rfl<|Zw (.func _ _ _) rfl<|Zw (.func _ _ _) rfl<|ZC Sv (vK bz ge gh _) rfl λz A c p=> ?_
 replace hz:=c.at hz
 replace hD:=fJ.ext c hD
 replace hX:=Dx.trans hX (Dx.ext c)
 replace hB:=cW hB c hN0
 replace a:=c.ow a
 obtain⟨bd3_3,bx3_3,rfl,hbd,hdn,lbd3_3,lbx3_3⟩:=p
 have lox:N≤bx3_3:=go hNszb lbx3_3
 have hxm:bx3_3≠bm:=λe=>Nat.lt_irrefl _ (abe hbmlt (e▸lbx3_3))
 have hXd:=hX
 refine Zi rfl<|Zi rfl ?_
 refine mQ (dd:=some 24) rfl rfl rfl (ip (q:=259) (first:= #[.pointer (some ⟨bd3_3,0,none⟩)]) (cap:= #[]) (vs:= #[.pointer (some ⟨bd3_3,0,none⟩), .int .i64 _, .int .i64 _]) rfl yj GD) (hDo 25 N ba bm bz bd3_3 bx3_3 R ns [] f g _ (go hN0 (Below.size hB)) hz hbd hD hdn sX.nil lox hxm hf hg Om) (λB C r=> ?_)
 obtain⟨D,E,F,dl3_6,rfl,s,t,u,_,_⟩:=r
 replace hX:=Dx.new hX (go hszb lbx3_3) s
 replace hD:=t
 refine Zv (cZ rfl)<|Zv (c7 rfl)<|Zi rfl<|ZZ rfl<|Zt<|dG (v:= .int .i64 _) rfl (v1:= .int .i64 _) rfl ?_
 exact⟨_,_,_,rfl,hX,hD,u⟩
theorem DoU:∀n,Di 261 256 pJ n:=zZ _ _ pJ HG (λf g w=>rR f g w) RT JH λn ih N ba bm bz bd bx R ns dl f0 f1 g0 g1 l w=>Ki _ n pJ N ba bm bz bd bx R ns dl f0 f1 g0 g1 l w (λ_ _ _ _ _ _=>rfl) (λ_ _ _ _=>rfl) ih
theorem kY (N ba bm bz R:Nat) (ns:List Nd) (f g:Nat) (w:World) (hN0:N≤w.heap.size) (hz:At w bz #[.pointer (some ⟨ba,0,none⟩)] 282) (hD:fJ 222 228 N ba bm R w ns) (hf:f<ns.length+2) (hg:g<ns.length+2):
    lc Tryz.prog 226 #[.pointer (some ⟨bz,0,none⟩), .int .i64 (f:Int), .int .i64 (g:Int)] w λv w'=>PO 222 228 N ba bm R w ns (pJ.cst ns f g) (min (dV ns f) (dV ns g)) (pJ.res (M ns f) (M ns g)) v w':=by
 refine dK (n:=14) (N:=N) Tryz.func226 rfl rfl rfl λhB=> ?_
 have hX:Dx 228 N [ba,bm] w w:=Dx.refl
 refine Zr<|Zi rfl<|ZZ rfl<|Zr<|Zp rfl<|Zi rfl<|Zi rfl<|ZH CM (lZ _ _ pJ N ba bm bz R ns f g _ hN0 hz hD hf hg DoU) rfl λe W5 a=> ?_
 obtain⟨h,i,j,rfl,b,c,d⟩:=a
 replace hX:=Dx.trans hX (b)
 replace hD:=c
 refine Zv (cZ rfl)<|Zv (c7 rfl)<|Zi rfl<|ZZ rfl<|Zt<|dG (v:= .int .i64 _) rfl (v1:= .int .i64 _) rfl ?_
 exact⟨_,_,_,rfl,hX,hD,d⟩
theorem DoL:∀n,Di 255 256 w8 n:=zZ _ _ w8 G3 (λf g w=>tl f g w) Qp JH λn ih N ba bm bz bd bx R ns dl f0 f1 g0 g1 l w=>Ki _ n w8 N ba bm bz bd bx R ns dl f0 f1 g0 g1 l w (λ_ _ _ _ _ _=>rfl) (λ_ _ _ _=>rfl) ih
theorem oF (N ba bm bz R:Nat) (ns:List Nd) (f g:Nat) (w:World) (hN0:N≤w.heap.size) (hz:At w bz #[.pointer (some ⟨ba,0,none⟩)] 282) (hD:fJ 222 228 N ba bm R w ns) (hf:f<ns.length+2) (hg:g<ns.length+2):
    lc Tryz.prog 223 #[.pointer (some ⟨bz,0,none⟩), .int .i64 (f:Int), .int .i64 (g:Int)] w λv w'=>PO 222 228 N ba bm R w ns (w8.cst ns f g) (min (dV ns f) (dV ns g)) (w8.res (M ns f) (M ns g)) v w':=by
 refine dK (n:=14) (N:=N) Tryz.func223 rfl rfl rfl λhB=> ?_
 have hX:Dx 228 N [ba,bm] w w:=Dx.refl
 refine Zr<|Zi rfl<|ZZ rfl<|Zr<|Zp rfl<|Zi rfl<|Zi rfl<|ZH CM (lZ _ _ w8 N ba bm bz R ns f g _ hN0 hz hD hf hg DoL) rfl λe W5 a=> ?_
 obtain⟨h,i,j,rfl,b,c,d⟩:=a
 replace hX:=Dx.trans hX (b)
 replace hD:=c
 refine Zv (cZ rfl)<|Zv (c7 rfl)<|Zi rfl<|ZZ rfl<|Zt<|dG (v:= .int .i64 _) rfl (v1:= .int .i64 _) rfl ?_
 exact⟨_,_,_,rfl,hX,hD,d⟩
end
section
open Go Go.RowKit
theorem Sf:dW Tryz.prog 321=some (.agg #[.int .i64 0, .int .i64 0, .int .i64 0, .int .i64 0, .int .i64 0, .int .i64 0]):=by kernel_rfl
theorem Hm:(Tryz.prog.info? 320).map (·.size)=some 2:=by kernel_rfl
theorem uU {f:Nat→Value} {w:World} {d:Option Nat} {ty:TypeId} {ps:String} {af:Array Edge} {g:Option (Nat×Bool)} {x0 x1 x2:Operand} {c0_0 c0_1 c1_0 c1_1 c2_0 c2_1:Value} (h0:dk f x0= .agg #[c0_0,c0_1]) (h1:dk f x1= .agg #[c1_0,c1_1]) (h2:dk f x2= .agg #[c2_0,c2_1]):
    (execOp (dk f) ⟨d, .build 321 #[(0,x0),(1,x1),(2,x2)],ty,ps,af,g⟩).run Tryz.prog w= .ok (.value (.agg #[c0_0,c0_1,c1_0,c1_1,c2_0,c2_1])) w:=by
  obtain⟨i0,hi0,hz0⟩:=Do.1 (show (Tryz.prog.info? 321).bind (·.zero)=_ from Sf)
  obtain⟨j320,hj320,hs320⟩:=an.1 Hm
  simp[execOp,h0,h1,h2,Instr.build,zeroValue,typeInfo,sizeOf,hi0,hz0,run_underlying Tryz.underlying321,Instr.fill,d7,hj320,hs320]
theorem DW:cX Tryz.prog 226=true:=by kernel_rfl
theorem RD:cX Tryz.prog 257=true:=by kernel_rfl
theorem SO:cX Tryz.prog 258=true:=by kernel_rfl
theorem Qr {f0 f1 g0 g1 i:Nat} (hi:i<3) (w:World):(part 320 #[.int .i64 (f1:Int), .int .i64 (g0:Int), .int .i64 (f0:Int), .int .i64 (g1:Int), .int .i64 (f1:Int), .int .i64 (g1:Int)] (i*2)).run Tryz.prog w= .ok (.agg #[.int .i64 ((Ea f0 f1 i:Nat):Int), .int .i64 ((D5 g0 g1 i:Nat):Int)]) w:=by
  obtain⟨j0,hj0,hs0⟩:=an.1 (show (Tryz.prog.info? 320).map (·.size)=some 2 by kernel_rfl)
  have:i=0∨i=1∨i=2:=by omega
  rcases this with rfl|rfl|rfl<;>simp[part,isAgg,sizeOf,typeInfo,hj0,hs0,run_underlying Tryz.underlying320]<;>exact⟨rfl,rfl⟩
theorem QV (w:World):(sizeOf 320).run Tryz.prog w= .ok 2 w:=by
  obtain⟨j0,hj0,hs0⟩:=an.1 (show (Tryz.prog.info? 320).map (·.size)=some 2 by kernel_rfl)
  simp[sizeOf,typeInfo,hj0,hs0]
set_option maxRecDepth 10000 in
theorem RK (ge gh n:Nat) (N ba bm bz bd bx R:Nat) (ns:List Nd) (dl:List ((Nat×Nat)×Int)) (f0 f1 g0 g1 l:Nat) (w:World) (ih:Di ge gh rH n) (hN0:N≤w.heap.size) (hz:At w bz #[.pointer (some ⟨ba,0,none⟩)] 282) (hbd:At w bd #[.pointer (some ⟨bz,0,none⟩), .func (.func ge) #[] #[], .func (.func gh) #[] #[], .map (some bx)] 324) (hD:fJ 222 228 N ba bm R w ns) (hdn:dy qt eM w bx dl) (hdone:sX rH.res ns dl) (lox:N≤bx) (hxm:bx≠bm) (v0:f0<ns.length+2) (v1:f1<ns.length+2) (v2:g0<ns.length+2) (v3:g1<ns.length+2) (k0:l<dV ns f0) (k1:l<dV ns f1) (k2:l<dV ns g0) (k3:l<dV ns g1) (h24:l<24) (hn:24-l≤n):
    lc Tryz.prog 258 #[.pointer (some ⟨bd,0,none⟩), .agg #[.int .i64 (f0:Int), .int .i64 (f1:Int)], .agg #[.int .i64 (g0:Int), .int .i64 (g1:Int)]] w λv w'=>PD 222 228 N ba bm R bx rH.res w ns (rH.hcst ns l f0 f1 g0 g1) (l+1) (rH.resH (M ns f0) (M ns f1) (M ns g0) (M ns g1)) v w':=by
 refine dK (n:=58) (N:=N) Tryz.func258 rfl rfl rfl λhB=> ?_
 have hX:Dx 228 N [bx,ba,bm] w w:=Dx.refl
 have hwn:=hD.wf
 refine Zr<|Zy (dw (c:= #[_,_]) rfl rfl λs W3 U m a=> ?_)
 obtain⟨hz,hbd⟩:=m.k2 hz hbd
 replace hD:=fJ.ext m hD
 obtain⟨hdn,hX⟩:=m.k2 hdn hX
 replace hB:=cW hB m hN0
 refine Zy (dw (c:= #[_,_]) rfl rfl λt W6 E j b=> ?_)
 have V:=Zn E a.lt
 obtain⟨hz,hbd⟩:=j.k2 hz hbd
 replace hD:=fJ.ext j hD
 obtain⟨hdn,hX⟩:=j.k2 hdn hX
 replace hB:=cW hB j hN0
 replace a:=j.at a
 refine Zi rfl<|ZZ rfl<|Zr<|ZZ rfl<|Zq<|Zr<|Zv (fx rfl rfl ie Om Om)<|Zl rfl cR a rfl<|Zv (fx rfl rfl ie Om Om)<|Zl rfl cR b rfl<|Zv (jx (h0:=rfl) (k0:=rfl) (h1:=rfl) (k1:=rfl) (c0_0:= .int .i64 _) (c1_0:= .int .i64 _))<|Zv (fx rfl rfl ie Om Om) ?_
 refine Zl rfl cR a rfl<|Zv (fx rfl rfl ie Om Om)<|Zl rfl cR b rfl<|Zv (jx (h0:=rfl) (k0:=rfl) (h1:=rfl) (k1:=rfl) (c0_0:= .int .i64 _) (c1_0:= .int .i64 _))<|Zv (fx rfl rfl ie Om Om)<|Zl rfl cR a rfl<|Zv (fx rfl rfl ie Om Om)<|Zl rfl cR b rfl<|Zv (jx (h0:=rfl) (k0:=rfl) (h1:=rfl) (k1:=rfl) (c0_0:= .int .i64 _) (c1_0:= .int .i64 _))<|Zv (uU (h0:=rfl) (h1:=rfl) (h2:=rfl))<|ZZ rfl<|cy ?_
 refine cY (σ:=(Nat)×(Nat)×(List Nd)×(List ((Nat×Nat)×Int))) [6,8,10,12,29,56] (λ(i,out,nsc,dlc)=>[(29, .int .i64 (i:Int)),(8, .int .i64 (out:Int))]) (λsg W=>match sg with|(i,out,nsc,dlc)=>(At W bz _ 282)∧(At W bd _ 324)∧(Dx 228 N [bx,ba,bm] w W)∧(Below N w W)∧(At W s _ 320)∧(At W t _ 320)∧(fJ 222 228 N ba bm R W nsc)∧(dy qt eM W bx dlc)∧(i≤3)∧(sX rH.res nsc dlc)∧(ke ns nsc R (P4 ns l f0 f1 g0 g1 i) (l+1) (JU (M ns f0) (M ns f1) (M ns g0) (M ns g1) i) out 0)∧(True)) (λ(i,out,nsc,dlc)=>3-i) ((0,0,ns,dl)) ⟨rfl,rfl,trivial⟩ ⟨hz,hbd,hX,hB,a,b,hD,hdn,(my _),hdone,(ke.same Om (by rw[Sd];omega) (aaH _ _ _ _ ns)),trivial⟩ ?_
 rintro⟨i,out,nsc,dlc⟩ X u ⟨hz,hbd,hX,hB,a,b,hD,hdn,hi,hdone,hg,_⟩ Y F
 refine Zr<|Zv (dq rfl rfl)<|ct<|Zq<|ZQ rfl (λG=> ?_) λG=> ?_
 refine cx<|Zq<|cy ?_
 have x:=hB
 replace hB:=Below.refl u.heap.size u
 have hcw:=hD.wf
 have hpx:Ea f0 f1 i<ns.length+2:=by rcases rY (show i<3 by omega) f0 f1 with e|e<;>rw[e]<;>assumption
 have hpy:D5 g0 g1 i<ns.length+2:=by rcases ru (show i<3 by omega) g0 g1 with e|e<;>rw[e]<;>assumption
 have klx:l<dV ns (Ea f0 f1 i):=by rcases rY (show i<3 by omega) f0 f1 with e|e<;>rw[e]<;>assumption
 have kly:l<dV ns (D5 g0 g1 i):=by rcases ru (show i<3 by omega) g0 g1 with e|e<;>rw[e]<;>assumption
 obtain⟨x1,x2,x3⟩:=hg.old hpx
 obtain⟨y1,y2,y3⟩:=hg.old hpy
 obtain⟨o1,o2,o3⟩:=hg.ok rfl
 refine Zr<|Zv (Es rfl rfl Tryz.underlying321 Om (QV _) (Qr Om _))<|Zy (cK xO rfl λy Z q H o=> ?_)
 have I:=ZO q hB
 have aa:s≠y:=Nat.ne_of_lt (q▸(On hB a).lt)
 have ab:t≠y:=Nat.ne_of_lt (q▸(On hB b).lt)
 replace hB:=Ze hB H
 refine Zy (cA rfl rfl y4 rfl o rfl rfl λac J K=> ?_)
 replace hB:=Zg hB J I
 replace o:=K
 refine ct ?_
 replace hz:=On hB hz
 replace hbd:=On hB hbd
 replace hX:=Dx.trans hX (Dx.below hB)
 replace a:=On hB a
 replace b:=On hB b
 replace hD:=fJ.below hB hD
 replace hdn:=acl hB hdn
 have hzs:=go hN0 (Below.size x)
 replace hB:=Below.trans x (Below.mono hB hzs)
 refine Zr<|Zp rfl<|Zv (fx rfl rfl ie Om Om)<|Zl rfl cR o rfl<|Zv (fx rfl rfl ie Om Om)<|Zl rfl cR o rfl<|ZH yj (ih N ba bm bz bd bx R nsc dlc (Ea f0 f1 i) (D5 g0 g1 i) _ (go hN0 (Below.size hB)) hz hbd hD hdn hdone lox hxm x1 y1 (by rw[x3,y3];omega)) rfl λad ae L=> ?_
 obtain⟨O,z,A,dl5_5,rfl,g,P,p,hdn5_5,hdone5_5⟩:=L
 replace hz:=acU hD hdn g hz Dd Dd
 replace hbd:=acU hD hdn g hbd Dd Dd
 replace hX:=Dx.trans hX g
 replace hB:=Below.dx hB (am _) hN0 g
 replace a:=acU hD hdn g a Dd Dd
 replace b:=acU hD hdn g b Dd Dd
 replace hD:=P
 replace hdn:=hdn5_5
 replace hdone:=hdone5_5
 refine Zw (.tuple #[.int .i64 (z:Int), .int .i64 A]) rfl<|Zv (cZ rfl)<|Zv (c7 rfl)<|Zi rfl<|ZZ rfl<|Zq<|Zr<|Zi rfl<|Zv (dJ rfl rfl)<|ct<|ZQ rfl (λr=> ?_) λr=> ?_
 have he1:A=0:=r
 subst he1
 obtain⟨d1,d2,d3⟩:=p.ok rfl
 obtain⟨q1,q2,q3⟩:=p.old o1
 have hw1:=hD.wf
 refine cI<|Zp rfl<|Zc rfl<|Zf rfl mb<|ZL (.pointer (some ⟨bz,0,none⟩)) rfl iS hbd rfl<|Zi rfl<|Zi rfl<|ZH DW (kY N ba bm bz R O out z _ (go hN0 (Below.size hB)) hz hD q1 d1) rfl λaf ag Q=> ?_
 obtain⟨S,B,C,rfl,d,T,D⟩:=Q
 replace hz:=At.dx hD d hz Dd Dd
 replace hbd:=At.dx hD d hbd Dd Dd
 replace hX:=Dx.trans hX (ads d)
 replace hB:=Below.dx hB (am _) hN0 d
 replace a:=At.dx hD d a Dd Dd
 replace b:=At.dx hD d b Dd Dd
 replace hdn:=dy.dx hD d hdn hxm
 replace hD:=T
 have hgj:=Vn hwn hcw hw1 (show i<3 by omega) h24 v0 v1 v2 v3 k0 k1 k2 k3 hg p D
 replace hdone:=hdone.pre D.pre
 refine Zw (.tuple #[.int .i64 (B:Int), .int .i64 C]) rfl<|Zv (cZ rfl)<|Zv (c7 rfl)<|Zi rfl<|ZZ rfl<|Zr<|Zi rfl<|Zv (e7 rfl rfl)<|ct<|ZQ rfl (λf=> ?_) λf=> ?_
 refine Zr<|Zi rfl<|Zi rfl<|ZZ rfl<|Zt<|dG (v:= .int .i64 0) rfl (v1:= .int .i64 _) rfl ?_
 exact⟨_,0,_,_,rfl,hX,hD,ke.fail (hgj) f (by exact T4 ns l f0 f1 g0 g1 (show i+1≤3 by omega)),hdn,hdone⟩
 refine cx<|ZT rfl rfl rfl ?_
 exact F _ _ ((i+1,B,S,dl5_5)) Za ⟨rfl,rfl,trivial⟩ ⟨hz,hbd,hX,hB,a,b,hD,(by exact hdn),Om,hdone,(by have he2:C=0:=aaN f;subst he2;exact hgj),trivial⟩ (by show 3-(i+1)<3-i;omega)
 refine cx<|Zr<|Zi rfl<|Zv (e7 rfl rfl)<|ct<|ZQ rfl (λf=> ?_) λf=> ?_
 refine Zr<|Zi rfl<|Zi rfl<|ZZ rfl<|Zt<|dG (v:= .int .i64 0) rfl (v1:= .int .i64 _) rfl ?_
 exact⟨_,0,_,_,rfl,hX,hD,hg.fail2 p f (by have e:=vJ hg.pre hwn hpx hpy;have k:=Y0 (ns:=ns) (l:=l) (f0:=f0) (f1:=f1) (g0:=g0) (g1:=g1) (show i<3 by omega);rw[←e]at k;exact k),hdn,hdone⟩
 exact absurd f (λh=>h r)
 refine cT ?_
 obtain rfl:i=3:=by omega
 refine Zr<|Zi rfl<|Zi rfl<|ZZ rfl<|Zt<|dG (v:= .int .i64 _) rfl (v1:= .int .i64 0) rfl ?_
 exact⟨_,_,_,_,rfl,hX,hD,hg.weak (am _) (aaC _ _ _ _),hdn,hdone⟩
theorem DoJ:∀n,Di 257 258 rH n:=zZ _ _ rH Vs (λf g w=>s5 f g w) RD SO λn ih N ba bm bz bd bx R ns dl f0 f1 g0 g1 l w=>RK _ _ n N ba bm bz bd bx R ns dl f0 f1 g0 g1 l w ih
theorem oJ (N ba bm bz R:Nat) (ns:List Nd) (f g:Nat) (w:World) (hN0:N≤w.heap.size) (hz:At w bz #[.pointer (some ⟨ba,0,none⟩)] 282) (hD:fJ 222 228 N ba bm R w ns) (hf:f<ns.length+2) (hg:g<ns.length+2):
    lc Tryz.prog 224 #[.pointer (some ⟨bz,0,none⟩), .int .i64 (f:Int), .int .i64 (g:Int)] w λv w'=>PO 222 228 N ba bm R w ns (rH.cst ns f g) (min (dV ns f) (dV ns g)) (rH.res (M ns f) (M ns g)) v w':=by
 refine dK (n:=14) (N:=N) Tryz.func224 rfl rfl rfl λhB=> ?_
 have hX:Dx 228 N [ba,bm] w w:=Dx.refl
 refine Zr<|Zi rfl<|ZZ rfl<|Zr<|Zp rfl<|Zi rfl<|Zi rfl<|ZH CM (lZ _ _ rH N ba bm bz R ns f g _ hN0 hz hD hf hg DoJ) rfl λe W5 a=> ?_
 obtain⟨h,i,j,rfl,b,c,d⟩:=a
 replace hX:=Dx.trans hX (b)
 replace hD:=c
 refine Zv (cZ rfl)<|Zv (c7 rfl)<|Zi rfl<|ZZ rfl<|Zt<|dG (v:= .int .i64 _) rfl (v1:= .int .i64 _) rfl ?_
 exact⟨_,_,_,rfl,hX,hD,d⟩
end
section
open Go Go.RowKit
theorem DZ:cX Tryz.prog 260=true:=by kernel_rfl
def Jf (n:Nat):Prop:=∀(N ba bm bz R:Nat) (ns:List Nd) (xl:Value) (l:List Int) (lv:Nat) (w:World),(N≤w.heap.size)→(At w bz #[.pointer (some ⟨ba,0,none⟩)] 282)→(fJ 222 228 N ba bm R w ns)→(dp dT 1 w xl l)→(∀m,m∈l→0≤m∧m<16777216)→(l.length≤1000000)→(lv≤24)→25-lv≤n→
  lc Tryz.prog 260 #[.pointer (some ⟨bz,0,none⟩),xl, .int .i64 (lv:Int)] w λv w'=>PO 222 228 N ba bm R w ns (yf lv l) (lv) (bS l lv) v w'
set_option maxRecDepth 10000 in
theorem Q3 (n:Nat) (N ba bm bz R:Nat) (ns:List Nd) (xl:Value) (l:List Int) (lv:Nat) (w:World) (ih:Jf n) (hN0:N≤w.heap.size) (hz:At w bz #[.pointer (some ⟨ba,0,none⟩)] 282) (hD:fJ 222 228 N ba bm R w ns) (hl:dp dT 1 w xl l) (hm:∀m,m∈l→0≤m∧m<16777216) (hll:l.length≤1000000) (hlv:lv≤24) (hn:25-lv≤n+1):
    lc Tryz.prog 260 #[.pointer (some ⟨bz,0,none⟩),xl, .int .i64 (lv:Int)] w λv w'=>PO 222 228 N ba bm R w ns (yf lv l) (lv) (bS l lv) v w':=by
 refine dK (n:=71) (N:=N) Tryz.func260 rfl rfl rfl λhB=> ?_
 have hX:Dx 228 N [ba,bm] w w:=Dx.refl
 have hwf:=hD.wf
 have hroom:=hD.room
 have htop:=hD.top
 refine Zr<|Zi rfl<|ZZ rfl<|Zq<|cy<|Zr<|Zw xl rfl<|Zv (de (v:=xl) rfl hl cV)<|Zv (dJ rfl rfl)<|Zb rfl<|ct<|ZQ rfl (λD=> ?_) λD=> ?_
 refine Zr<|Zi rfl<|ZZ rfl<|Zt<|dG (v:= .int .i64 0) rfl (v1:= .int .i64 0) rfl ?_
 exact⟨ns,0,0,rfl,hX,hD,ke.same Om (by rw[Sd];exact hlv) (S3 Om)⟩
 refine Zr<|Zi rfl<|Zv (dJ rfl rfl)<|Zb rfl<|ct<|ZQ rfl (λE=> ?_) λE=> ?_
 refine Zr<|Zi rfl<|ZZ rfl<|Zt<|dG (v:= .int .i64 1) rfl (v1:= .int .i64 0) rfl ?_
 obtain rfl:lv=24:=by omega
 exact⟨ns,1,0,rfl,hX,hD,ke.same Om (by rw[mm Dd];exact hlv) (Sc Om hm)⟩
 refine cx ?_
 have o:=hB
 replace hB:=Below.refl w.heap.size w
 have hne:1≤l.length:=by omega
 have h24:lv<24:=by omega
 refine Zr<|Zw (.slice none 0 0) rfl<|Zw (.slice none 0 0) rfl<|ct<|Zq<|Zr<|Zw xl rfl<|Zv (de (v:=xl) rfl (Below.slT hB hl) cV)<|ZZ rfl<|cy ?_
 refine cY (σ:=(Nat)×(Value)×(Value)) [8,9,11,11,24,41] (λ(k,v0,v1)=>[(24, .int .i64 (k:Int)),(8,v0),(9,v1)]) (λsg W=>match sg with|(k,v0,v1)=>(Below w.heap.size w W)∧(cH dT 1 3 W w.heap.size v0 (BW l lv k))∧(cH dT 1 3 W w.heap.size v1 (Bq l lv k))∧(ft v0 v1)∧(k≤l.length)∧(True)) (λ(k,v0,v1)=>l.length-k) ((0, .slice none 0 0, .slice none 0 0)) ⟨rfl,rfl,rfl,trivial⟩ ⟨hB,cH.nil,cH.nil,adh,(my _),trivial⟩ ?_
 rintro⟨k,v0,v1⟩ ae af ⟨hB,ho,hoo,hap,hk,_⟩ ag p
 refine Zr<|Zv (dq rfl rfl)<|ct<|Zq<|ZQ rfl (λF=> ?_) λF=> ?_
 refine cx<|Zq<|cy<|Zr<|Zv (dm (v:=xl) rfl (Below.slT hB hl) rfl cV Om Om)<|Zv (cD (v:= .int .i64 _) rfl cR (dp.cell (Below.slT hB hl) ez 0 Om Om 0 rfl))<|ZZ rfl ?_
 obtain⟨G,ah⟩:=hm (l.getD k 0) (dB (by omega))
 have hbl:(l.getD k 0).toNat<9223372036854775808:=by omega
 have hwl:=OK l lv k
 rw[aa4]at hwl
 refine Zr<|Zi rfl<|Zi rfl<|Zv (Wa rfl rfl G Om Om)<|Zv (m5 (n:=1) rfl rfl rfl (by exact abr (abV _ _) hbl) Dd)<|Zv (dJ rfl rfl)<|ct<|ZQ rfl (λd=> ?_) λd=> ?_
 have hbt:(l.getD k 0).toNat.testBit lv=true:=F1.1 d
 refine cI<|Zw v1 rfl<|Zi rfl<|Zy (eC (u:= .int .i64 _) rfl cV eL rfl Dd Dd λH ai aj I J=> ?_)
 obtain⟨hB,ho,hoo⟩:=I.k3 hB ho hoo
 refine Zy (jg (v:=v1) (v2:= .slice (some ⟨H,0,none⟩) 1 1) rfl rfl cV eL Dd hoo (eK J rfl) rfl (mV hB) (by omega) (by omega) λr ak s e K=> ?_)
 have L:=ft.app (ft.symm hap) K ho
 replace e:=cH.snoc (enc:=dT) (x:=(l.getD k 0)) rfl rfl rfl rfl e
 replace hB:=ZG hB s hoo
 replace ho:=cH.grownAp ho (ft.symm hap) s
 refine Zw r rfl<|ct<|ZT rfl rfl rfl ?_
 exact p _ _ ((k+1,v0,r)) Za ⟨rfl,rfl,rfl,trivial⟩ ⟨hB,(by (rw[←(Zm Om hbt).2];exact ho)),(by (rw[←(Zm Om hbt).1];exact e)),(ft.symm L),Om,trivial⟩ (by show l.length-(k+1)<l.length-k;omega)
 have hbt:¬(l.getD k 0).toNat.testBit lv=true:=λq=>d (F1.2 q)
 refine cI<|Zw v0 rfl<|Zi rfl<|Zy (eC (u:= .int .i64 _) rfl cV eL rfl Dd Dd λM al ao O P=> ?_)
 obtain⟨hB,ho,hoo⟩:=O.k3 hB ho hoo
 refine Zy (jg (v:=v0) (v2:= .slice (some ⟨M,0,none⟩) 1 1) rfl rfl cV eL Dd ho (eK P rfl) rfl (mV hB) (by omega) (by omega) λt ap y f Q=> ?_)
 have S:=ft.app hap Q hoo
 replace f:=cH.snoc (enc:=dT) (x:=(l.getD k 0)) rfl rfl rfl rfl f
 replace hB:=ZG hB y ho
 replace hoo:=cH.grownAp hoo hap y
 refine Zw t rfl<|ct<|ZT rfl rfl rfl ?_
 exact p _ _ ((k+1,t,v1)) Za ⟨rfl,rfl,rfl,trivial⟩ ⟨hB,(by (rw[←(YE Om hbt).1];exact f)),(by (rw[←(YE Om hbt).2];exact hoo)),S,Om,trivial⟩ (by show l.length-(k+1)<l.length-k;omega)
 refine cT ?_
 replace hz:=On hB hz
 replace hD:=fJ.below hB hD
 replace hX:=Dx.trans hX (Dx.below hB)
 have hzs:=go hN0 (Below.size o)
 replace ho:=cH.mono ho hzs
 replace hoo:=cH.mono hoo hzs
 replace hB:=Below.trans o (Below.mono hB hzs)
 obtain rfl:k=l.length:=by omega
 have hwl:=OK l lv l.length
 rw[aa7]at hwl
 have hbc:=OB (l:=l) h24
 refine Zr<|Zp rfl<|Zw v0 rfl<|Zi rfl<|Zv (eB rfl rfl Om Om)<|ZH DZ (ih N ba bm bz R ns _ (BW l lv l.length) (lv+1) _ (go hN0 (Below.size hB)) hz hD ho.sl (λm h=>hm m (VA h)) Om Om Om) rfl λaq ar T=> ?_
 obtain⟨U,z,A,rfl,a,V,b⟩:=T
 replace hz:=At.dx hD a hz Dd Dd
 replace hX:=Dx.trans hX (a)
 replace hB:=Below.dx hB (am _) hN0 a
 replace hoo:=cH.dx hD a hoo Dd Dd
 replace hD:=V
 refine Zw (.tuple #[.int .i64 (z:Int), .int .i64 A]) rfl<|Zv (cZ rfl)<|Zv (c7 rfl)<|Zi rfl<|ZZ rfl<|Zq<|Zr<|Zi rfl<|Zv (e7 rfl rfl)<|ct<|ZQ rfl (λg=> ?_) λg=> ?_
 refine Zr<|Zi rfl<|Zi rfl<|ZZ rfl<|Zt<|dG (v:= .int .i64 0) rfl (v1:= .int .i64 _) rfl ?_
 exact⟨_,0,_,rfl,hX,hD,b.fail g Om⟩
 refine cx ?_
 have he:A=0:=aaN g
 subst he
 refine Zr<|Zp rfl<|Zw v1 rfl<|Zi rfl<|Zv (eB rfl rfl Om Om)<|ZH DZ (ih N ba bm bz R U _ (Bq l lv l.length) (lv+1) _ (go hN0 (Below.size hB)) hz hD hoo.sl (λm h=>hm m (VU h)) Om Om Om) rfl λau av X=> ?_
 obtain⟨Y,B,C,rfl,i,Z,c⟩:=X
 replace hz:=At.dx hD i hz Dd Dd
 replace hX:=Dx.trans hX (i)
 replace hB:=Below.dx hB (am _) hN0 i
 replace hD:=Z
 refine Zw (.tuple #[.int .i64 (B:Int), .int .i64 C]) rfl<|Zv (cZ rfl)<|Zv (c7 rfl)<|Zi rfl<|ZZ rfl<|Zq<|Zr<|Zi rfl<|Zv (e7 rfl rfl)<|ct<|ZQ rfl (λj=> ?_) λj=> ?_
 refine Zr<|Zi rfl<|Zi rfl<|ZZ rfl<|Zt<|dG (v:= .int .i64 0) rfl (v1:= .int .i64 _) rfl ?_
 exact⟨_,0,_,rfl,hX,hD,b.fail2 c j Om⟩
 refine cx ?_
 have he:C=0:=aaN j
 subst he
 have hw16:=hD.wf
 obtain⟨v1,aw,_⟩:=b.ok rfl
 obtain⟨p1,_,p3⟩:=c.old v1
 obtain⟨q1,q2,_⟩:=c.ok rfl
 refine Zr<|Zp rfl<|Zi rfl<|Zi rfl<|Zi rfl<|ZH IM (oB N ba bm bz R Y lv z B _ (go hN0 (Below.size hB)) hz hD p1 q1 Om Om h24) rfl λax ay aa=> ?_
 obtain⟨az,aA,aB,rfl,ab,ac,ad⟩:=aa
 replace hX:=Dx.trans hX (ab)
 replace hD:=ac
 refine Zv (cZ rfl)<|Zv (c7 rfl)<|Zi rfl<|ZZ rfl<|Zt<|dG (v:= .int .i64 _) rfl (v1:= .int .i64 _) rfl ?_
 exact⟨_,_,_,rfl,hX,hD,Lp hw16 h24 hne b c ad⟩
theorem Fd:∀n,Jf n
  |0=>λN ba bm bz R ns xl l lv w _ _ _ _ _ _ hlv hn=>by omega
  |n+1=>λN ba bm bz R ns xl l lv w=>Q3 n N ba bm bz R ns xl l lv w (Fd n)
theorem qM (N ba bm bz R:Nat) (ns:List Nd) (xl:Value) (l:List Int) (w:World) (hN0:N≤w.heap.size) (hz:At w bz #[.pointer (some ⟨ba,0,none⟩)] 282) (hD:fJ 222 228 N ba bm R w ns) (hl:dp dT 1 w xl l) (hll:l.length≤1000000):
    lc Tryz.prog 225 #[.pointer (some ⟨bz,0,none⟩),xl] w λv w'=>PE 222 228 N ba bm R w ns (Hb l) (yf 0 l) (0) (bS l 0) v w':=by
 refine dK (n:=28) (N:=N) Tryz.func225 rfl rfl rfl λhB=> ?_
 have hX:Dx 228 N [ba,bm] w w:=Dx.refl
 have hwf:=hD.wf
 have hroom:=hD.room
 have htop:=hD.top
 refine Zr<|Zi rfl<|ZZ rfl<|Zq<|Zr<|Zp rfl<|Zv (rA rfl rfl Tryz.underlying238)<|ct<|dH rfl<|cx<|Zq<|Zr ?_
 refine Zw xl rfl<|Zv (de (v:=xl) rfl hl cV)<|ZZ rfl<|cy ?_
 refine cY (σ:=(Nat)) [4,5,7,7,12,22] (λk=>[(12, .int .i64 (k:Int))]) (λk W=>(At W bz _ 282)∧(fJ 222 228 N ba bm R W ns)∧(Dx 228 N [ba,bm] w W)∧(dp dT 1 W xl _)∧(Below N w W)∧(k≤l.length)∧(∀q,q<k→0≤l.getD q 0∧l.getD q 0<16777216)∧(True)) (λk=>l.length-k) (0) ⟨rfl,trivial⟩ ⟨hz,hD,hX,hl,hB,(my _),eT,trivial⟩ ?_
 rintro k i j ⟨hz,hD,hX,hl,hB,hk,hq,_⟩ m c
 refine Zr<|Zv (dq rfl rfl)<|ct<|Zq<|ZQ rfl (λd=> ?_) λd=> ?_
 refine cx<|Zq<|cy<|Zr<|Zv (dm (v:=xl) rfl hl rfl cV Om Om)<|Zv (cD (v:= .int .i64 _) rfl cR (dp.cell hl ez 0 Om Om 0 rfl))<|ZZ rfl<|Zr<|Zi rfl<|Zv (dq rfl rfl)<|ZX rfl (λa=> ?_) λa=> ?_
 refine Zs<|Zs<|Zb rfl<|ct<|cQ rfl<|Zr<|Zi rfl<|ZZ rfl<|Zt<|dG (v:= .int .i64 0) rfl (v1:= .int .i64 1) rfl ?_
 exact⟨ns,0,1,rfl,hX,hD, .inr ⟨Ua (k:=k) Om (.inl a),rfl,rfl,rfl⟩⟩
 refine Zi rfl<|Zv (kn rfl rfl)<|Zb rfl<|ct<|ZQ rfl (λb=> ?_) λb=> ?_
 refine Zr<|Zi rfl<|ZZ rfl<|Zt<|dG (v:= .int .i64 0) rfl (v1:= .int .i64 1) rfl ?_
 exact⟨ns,0,1,rfl,hX,hD, .inr ⟨Ua (k:=k) Om (.inr b),rfl,rfl,rfl⟩⟩
 refine cx<|ZT rfl rfl rfl ?_
 exact c _ _ (k+1) Za ⟨rfl,trivial⟩ ⟨hz,hD,hX,hl,hB,Om,(d6 hq ⟨Int.not_lt.1 a,Int.not_le.1 b⟩),trivial⟩ Zo
 refine cT ?_
 have hok:=Rb (l:=l) (k:=k) (by omega) hq
 refine Zr<|Zp rfl<|Zw xl rfl<|ZH DZ (Fd 25 N ba bm bz R ns _ l 0 _ (go hN0 (Below.size hB)) hz hD hl (vL.1 hok) hll Om Om) rfl λo p e=> ?_
 obtain⟨r,s,t,rfl,f,g,h⟩:=e
 replace hX:=Dx.trans hX (f)
 replace hD:=g
 refine Zv (cZ rfl)<|Zv (c7 rfl)<|Zi rfl<|ZZ rfl<|Zt<|dG (v:= .int .i64 _) rfl (v1:= .int .i64 _) rfl ?_
 exact⟨_,_,_,rfl,hX,hD, .inl ⟨hok,h⟩⟩
end
section
open Go Go.RowKit
theorem SL:dW Tryz.prog 222=some (.agg #[.int .i64 0, .slice none 0 0, .map none]):=by kernel_rfl
theorem HY:(Tryz.prog.info? 219).map (·.size)=some 1:=by kernel_rfl
theorem Ip:(Tryz.prog.info? 220).map (·.size)=some 1:=by kernel_rfl
theorem xw {f:Nat→Value} {w:World} {d:Option Nat} {ty:TypeId} {ps:String} {af:Array Edge} {g:Option (Nat×Bool)} {x0 x1:Operand} {c0_0 c1_0:Value} (h0:dk f x0=c0_0) (k0:c0_0.cells= #[c0_0]) (h1:dk f x1=c1_0) (k1:c1_0.cells= #[c1_0]):
    (execOp (dk f) ⟨d, .build 222 #[(0,x0),(2,x1)],ty,ps,af,g⟩).run Tryz.prog w= .ok (.value (.agg #[c0_0, .slice none 0 0,c1_0])) w:=by
  obtain⟨i0,hi0,hz0⟩:=Do.1 (show (Tryz.prog.info? 222).bind (·.zero)=_ from SL)
  obtain⟨j3,hj3,hs3⟩:=an.1 fN
  obtain⟨j219,hj219,hs219⟩:=an.1 HY
  obtain⟨j220,hj220,hs220⟩:=an.1 Ip
  simp[execOp,h0,k0,h1,k1,Instr.build,zeroValue,typeInfo,sizeOf,hi0,hz0,run_underlying Tryz.underlying222,Instr.fill,d7,hj3,hs3,hj219,hs219,hj220,hs220]
theorem S8:cX Tryz.prog 115=true:=by kernel_rfl
theorem QE:dW Tryz.prog 282=some (.agg #[.pointer none]):=by kernel_rfl
theorem HO:(Tryz.prog.info? 166).map (·.size)=some 1:=by kernel_rfl
theorem Bb {f:Nat→Value} {w:World} {d:Option Nat} {ty:TypeId} {ps:String} {af:Array Edge} {g:Option (Nat×Bool)} {x0:Operand} {c0_0:Value} (h0:dk f x0=c0_0) (k0:c0_0.cells= #[c0_0]):
    (execOp (dk f) ⟨d, .build 282 #[(0,x0)],ty,ps,af,g⟩).run Tryz.prog w= .ok (.value (.agg #[c0_0])) w:=by
  obtain⟨i0,hi0,hz0⟩:=Do.1 (show (Tryz.prog.info? 282).bind (·.zero)=_ from QE)
  obtain⟨j166,hj166,hs166⟩:=an.1 HO
  simp[execOp,h0,k0,Instr.build,zeroValue,typeInfo,sizeOf,hi0,hz0,run_underlying Tryz.underlying282,Instr.fill,d7,hj166,hs166]
theorem FK (R:Nat) (w:World) (hR:R≤20000):
    Fn Tryz.prog 115 #[.int .i64 (R:Int)] w λv w'=>∃ba bm,v= .tuple #[.pointer (some ⟨ba,0,none⟩), .int .i64 0]∧fJ 222 228 w.heap.size ba bm R w' []:=by
 refine cM (n:=14) Tryz.func115 rfl rfl rfl λhB=> ?_
 refine Zr<|Zw (.pointer none) rfl<|ZZ rfl<|Zq<|Zr<|Zi rfl<|Zv (dq rfl rfl)<|ZX rfl (λb=> ?_) λb=> ?_
 exact absurd b Om
 refine Zi rfl<|Zv (iG rfl rfl)<|Zb rfl<|ct<|ZQ rfl (λd=> ?_) λd=> ?_
 exact absurd d Om
 refine cx<|Zr<|Zi rfl<|Zy (g7 (enc:=xu) (encV:=eM) λe W9 f g a=> ?_)
 have h:=ZO f hB
 replace hB:=Ze hB g
 refine Zv (xw (h0:=rfl) (k0:=rfl) (h1:=rfl) (k1:=rfl) (c0_0:= .int .i64 _) (c1_0:= .map (some e)))<|Zy (dw (c:= #[_,_,_]) rfl rfl λi o j k l=> ?_)
 have m:=ZO j hB
 obtain⟨hB,a⟩:=k.k2 hB a
 refine Zp rfl<|ZZ rfl<|Zt<|dG (v:= .pointer (some ⟨i,0,none⟩)) rfl (v1:= .int .i64 0) rfl ⟨hB,?_⟩
 exact⟨_,_,rfl,⟨⟨_,l,cH.nil⟩,a,m,h,Wf.nil,my _,hR⟩⟩
theorem Lv (R:Nat) (w:World) (hR:R≤20000):
    Fn Tryz.prog 174 #[.int .i64 (R:Int)] w λv w'=>∃bz ba bm,v= .tuple #[.pointer (some ⟨bz,0,none⟩), .int .i64 0]∧At w' bz #[.pointer (some ⟨ba,0,none⟩)] 282∧fJ 222 228 w.heap.size ba bm R w' []:=by
 refine cM (n:=17) Tryz.func174 rfl rfl rfl λhB=> ?_
 refine Zr<|Zw (.pointer none) rfl<|ZZ rfl<|Zr<|Zi rfl<|ZC S8 (FK _ _ pN) rfl λi W5 d e=> ?_
 have f:=(Below.size hB)
 replace hB:=Ze hB d
 obtain⟨ba,bm,rfl,hD⟩:=e
 replace hD:=fJ.mono hD f
 refine Zw (.tuple #[.pointer (some ⟨ba,0,none⟩), .int .i64 0]) rfl<|Zv (cZ rfl)<|Zv (c7 rfl)<|Zp rfl<|ZZ rfl<|Zq<|Zr<|Zi rfl<|Zv (e7 rfl rfl)<|ct<|ZQ rfl (λa=> ?_) λa=> ?_
 exact absurd rfl a
 refine cx<|Zr<|Zp rfl<|Zv (Bb (h0:=rfl) (k0:=rfl) (c0_0:= .pointer (some ⟨ba,0,none⟩)))<|Zy (dw (c:= #[_]) rfl rfl λg j k b h=> ?_)
 replace hB:=Ze hB b
 replace hD:=fJ.ext b hD
 refine Zp rfl<|ZZ rfl<|Zt<|dG (v:= .pointer (some ⟨g,0,none⟩)) rfl (v1:= .int .i64 0) rfl ⟨hB,?_⟩
 exact⟨_,_,_,rfl,h,hD⟩
end
section
open Go Go.RowKit
theorem kW:d5 Tryz.prog 285 1=some 1:=by kernel_rfl
theorem fe:eJ Tryz.prog 27=true:=by kernel_rfl
theorem j1:d5 Tryz.prog 285 0=some 0:=by kernel_rfl
theorem Kj:cX Tryz.prog 225=true:=by kernel_rfl
theorem oD:cX Tryz.prog 222=true:=by kernel_rfl
theorem JT:cX Tryz.prog 224=true:=by kernel_rfl
theorem xT:dW Tryz.prog 315=some (.agg #[.int .u64 0, .int .u64 0, .int .u64 0, .int .u64 0, .int .u64 0, .int .u64 0, .int .u64 0, .int .u64 0]):=by kernel_rfl
theorem DK:cX Tryz.prog 155=true:=by kernel_rfl
theorem Si:cX Tryz.prog 252=true:=by kernel_rfl
theorem ij:LV Tryz.prog 315=some (2,4):=by kernel_rfl
theorem Cr:cX Tryz.prog 221=true:=by kernel_rfl
theorem Mn:kf Tryz.prog 315=some 8:=by kernel_rfl
theorem IX:cX Tryz.prog 223=true:=by kernel_rfl
theorem Sn:cX Tryz.prog 253=true:=by kernel_rfl
theorem A9 (s i:Nat) (w:World) (hi:i<8):
    Fn Tryz.prog 252 #[ej s, .int .i64 (i:Int)] w λv w'=>v=ej (kQ (eb s) s i (eb s).length):=by
 refine cM (n:=24) Tryz.func252 rfl rfl rfl λhB=> ?_
 refine Zr<|Zy (dw (c:= #[_,_,_,_]) rfl rfl λz W3 R A b=> ?_)
 replace hB:=Ze hB A
 refine Zy (cK el rfl λo W6 B C a=> ?_)
 have D:=ZO B hB
 obtain⟨hB,b⟩:=C.k2 hB b
 replace a:At W6 o #[wv 0 0,wv 0 1,wv 0 2,wv 0 3] 40:=a
 refine ct<|Zr<|Zv (cz rfl cC rfl b)<|Zy (cK el rfl λq E g F d=> ?_)
 have r:=ZO g hB
 have t:=Zn g b.lt
 have h:=Zn g a.lt
 obtain⟨hB,b,a⟩:=F.k3 hB b a
 replace d:At E q #[wv 0 0,wv 0 1,wv 0 2,wv 0 3] 40:=d
 refine Zy (cA rfl rfl cC rfl d rfl rfl λS j G=> ?_)
 replace hB:=Zg hB j r
 replace b:=At.grownNe b t j
 replace a:=At.grownNe a h j
 replace d:=G
 refine ct<|Zq<|Zr<|Zv (cz rfl cC rfl b)<|ZC (vs:=[.agg #[_,_,_,_]]) uI (nU _ _) rfl λl T H e=> ?_
 have I:=(Below.size hB)
 obtain⟨hB,b,a,d⟩:=H.k4 hB b a d
 replace e:=cH.mono e I
 refine Zv (de (v:=l) rfl e.sl cV)<|ZZ rfl<|cy ?_
 refine cY (σ:=(Nat)) [7,7,12,22] (λk=>[(12, .int .i64 (k:Int))]) (λk W=>(Below w.heap.size w W)∧(At W z _ 40)∧(At W o _ 40)∧(cH dT 1 3 W w.heap.size l _)∧(At W q #[wv (kQ (eb s) s i k) 0,wv (kQ (eb s) s i k) 1,wv (kQ (eb s) s i k) 2,wv (kQ (eb s) s i k) 3] 40)∧(k≤(eb s).length)∧(True)) (λk=>(eb s).length-k) (0) ⟨rfl,trivial⟩ ⟨hB,b,a,e,d,(my _),trivial⟩ ?_
 rintro k U V ⟨hB,b,a,e,d,hk,_⟩ X J
 have hll:=mq s
 refine Zr<|Zv (dq rfl rfl)<|ct<|Zq<|ZQ rfl (λK=> ?_) λK=> ?_
 refine cx<|Zq<|cy ?_
 obtain⟨p,Y,Z,u⟩:=l9 (s:=s) (i:=k) (by omega)
 have h7:=DP (show i<8 by omega)
 refine Zr<|Zv (dm (v:=l) rfl e.sl rfl cV Om (by omega))<|Zv (cD (v:= .int .i64 _) rfl cR (dp.cell e.sl ez 0 Om (by omega) 0 rfl))<|ZZ rfl ?_
 have L:(eb s).getD (k:Int).toNat 0=(p:Int):=u
 rw[L]
 refine eP dC fC (λM N=> ?_)
 obtain⟨hB,b,a,e,d⟩:=N.k5 hB b a e d
 have hS:=dC.refl M
 refine Tk 0 rfl (λ_ hq=>cz rfl cC rfl (hq.at d)) hS<|Ti 1 rfl rfl hS<|Ti 2 rfl rfl hS<|Tk 3 rfl (λ_ _=>jN (m:=1) rfl rfl Om (by simp only[IntKind.bits];omega) UM) hS<|Tk 4 rfl (λ_ _=>N7 (n:=_) rfl rfl rfl pZ UM) hS<|To 5 rfl (TC (vs:=[.agg #[_,_,_,_], .int .i64 _]) Ak (nP _ _ _) rfl λaa ab x O=>⟨.inl (hS.trans x),?_⟩)
 obtain⟨hB,b,a,e,d⟩:=x.k5 hB b a e d
 obtain rfl:=O
 refine To 6 rfl (cA rfl rfl cC rfl d rfl rfl λac f P=>⟨.inr ka,?_⟩)
 replace hB:=Zg hB f r
 replace b:=At.grownNe b t f
 replace a:=At.grownNe a h f
 replace e:=cH.grownAt e d f Dd
 replace d:=P
 refine Td<|ZT rfl rfl rfl ?_
 exact J _ _ (k+1) Za ⟨rfl,trivial⟩ ⟨hB,b,a,e,(by rw[xf Om,u,so,←abd (2^i)];exact d),Om,trivial⟩ (by show (eb s).length-(k+1)<(eb s).length-k;omega)
 refine cT<|Zr<|Zv (cz rfl cC rfl d)<|Zy (cA rfl rfl cC rfl a rfl rfl λad y Q=> ?_)
 replace hB:=Zg hB y D
 replace d:=At.grownNe d (Ne.symm h) y
 replace a:=Q
 refine ct<|Zt<|jw rfl cC a rfl ⟨hB,?_⟩
 obtain rfl:k=(eb s).length:=by omega
 rfl
theorem eW (N bc bz:Nat) (e:Int) (id:Nat) (er:Int) (w:World) (hN0:N≤w.heap.size) (hc:At w bc #[.pointer (some ⟨bz,0,none⟩), .int .i64 e] 285) (loc:N≤bc):
    lc Tryz.prog 222 #[.pointer (some ⟨bc,0,none⟩), .int .i64 (id:Int), .int .i64 er] w λv w'=>w.grownBy w' (some bc)∧At w' bc #[.pointer (some ⟨bz,0,none⟩), .int .i64 (iW e er)] 285∧v= .int .i64 ((kB e er id:Nat):Int):=by
 refine dK (n:=22) (N:=N) Tryz.func222 rfl rfl rfl λhB=> ?_
 have c:w.grownBy w (some bc):=World.grownBy.refl w (some bc)
 refine Zr<|ZZ rfl<|Zq<|Zr<|Zp rfl<|Zc rfl<|Zf rfl kW<|Zl rfl fe hc rfl<|Zv (dJ rfl rfl)<|ct<|ZQ rfl (λa=> ?_) λa=> ?_
 refine cI<|Zp rfl<|Zi rfl<|Zc rfl<|Zf rfl kW<|Zy (db (v:= .int .i64 _) rfl rfl fe rfl hc fD λW7 d f=> ?_)
 replace c:=cB c d
 replace hc:=f
 replace hc:At _ _ #[_,_] _:=hc
 refine ct<|Zq<|Zr<|Zp rfl<|Zc rfl<|Zf rfl kW<|Zl rfl fe hc rfl<|Zv (e7 rfl rfl)<|ct<|ZQ rfl (λb=> ?_) λb=> ?_
 refine Zr<|ZZ rfl<|Zt<|df (v:= .int .i64 0) rfl ?_
 have hde:iW e er=er:=if_pos a
 rw[hde]
 exact⟨c,hc,by unfold kB;rw[hde,if_neg b];rfl⟩
 refine cx<|Zr<|Zi rfl<|ZZ rfl<|Zt<|df (v:= .int .i64 _) rfl ?_
 have hde:iW e er=er:=if_pos a
 rw[hde]
 exact⟨c,hc,by unfold kB;rw[hde,if_pos (aaN b)]⟩
 refine cx<|Zq<|Zr<|Zp rfl<|Zc rfl<|Zf rfl kW<|Zl rfl fe hc rfl<|Zv (e7 rfl rfl)<|ct<|ZQ rfl (λb=> ?_) λb=> ?_
 refine Zr<|ZZ rfl<|Zt<|df (v:= .int .i64 0) rfl ?_
 have hde:iW e er=e:=if_neg a
 rw[hde]
 exact⟨c,hc,by unfold kB;rw[hde,if_neg a];rfl⟩
 refine cx<|Zr<|Zi rfl<|ZZ rfl<|Zt<|df (v:= .int .i64 _) rfl ?_
 exact absurd (aaN b) a
set_option maxRecDepth 10000 in
theorem pY (N ba bm bz bc R:Nat) (ns:List Nd) (e:Int) (f i:Nat) (w:World) (hN0:N≤w.heap.size) (hz:At w bz #[.pointer (some ⟨ba,0,none⟩)] 282) (hD:fJ 222 228 N ba bm R w ns) (hc:At w bc #[.pointer (some ⟨bz,0,none⟩), .int .i64 e] 285) (loc:N≤bc) (hf:f<ns.length+2) (hi:i<24):
    lc Tryz.prog 253 #[.pointer (some ⟨bc,0,none⟩), .int .i64 (f:Int), .int .i64 (i:Int)] w λv w'=>∃(ns':List Nd) (e':Int) (id:Nat),v= .int .i64 (id:Int)∧Dc 228 285 N bc bz ba bm w w'∧At w' bz #[.pointer (some ⟨ba,0,none⟩)] 282∧fJ 222 228 N ba bm R w' ns'∧At w' bc #[.pointer (some ⟨bz,0,none⟩), .int .i64 e'] 285∧Wv ns ns' R e e' f i id:=by
 refine dK (n:=29) (N:=N) Tryz.func253 rfl rfl rfl λhB=> ?_
 have hX:Dc 228 285 N bc bz ba bm w w:=Dc.refl
 have hwf:=hD.wf
 have hroom:=hD.room
 have htop:=hD.top
 have hpl:2^i≤8388608:=by have:=aa8 (show 0<2 by decide) (show i≤23 by omega);simpa using this
 refine Zr<|ZZ rfl<|Zd (λa b=>Dc 228 285 N bc bz ba bm a b) λW5 h=> ?_
 obtain⟨hz,hc⟩:=h.k2 hz hc
 replace hD:=fJ.ext h hD
 replace hX:=Dc.trans hX (Dc.ext h)
 replace hB:=cW hB h hN0
 have hwk0:Wc 285 bc bz W5:=⟨_,hc⟩
 have hS:Dc 228 285 N bc bz ba bm W5 W5:=Dc.refl
 refine Tq 0 rfl rfl hS<|Tq 1 rfl rfl hS<|Tc 2 rfl rfl hS<|Tf 3 rfl rfl j1 hS<|Tk 4 rfl (λ_ hq=>cD (v:= .pointer (some ⟨bz,0,none⟩)) rfl iS (ac9 (Dc.wk hq hwk0))) hS<|Ti 5 rfl rfl hS<|Tq 6 rfl rfl hS<|Tq 7 rfl rfl hS<|Tc 8 rfl rfl hS<|Tf 9 rfl rfl j1 hS<|Tk 10 rfl (λ_ hq=>cD (v:= .pointer (some ⟨bz,0,none⟩)) rfl iS (ac9 (Dc.wk hq hwk0))) hS<|Ti 11 rfl rfl hS<|Tk 12 rfl (λ_ _=>jN (m:=1) rfl rfl Om (by simp only[IntKind.bits];omega) y6) hS<|To 13 rfl (eC (u:= .int .i64 _) rfl cV eL rfl Dd Dd λy W7 z c A=>⟨.inl (Dc.trans hS (Dc.ext c)),?_⟩)
 have B:N≤y:=z▸(go hN0 (Below.size hB))
 obtain⟨hz,hc⟩:=c.k2 hz hc
 replace hD:=fJ.ext c hD
 replace hX:=Dc.trans hX (Dc.ext c)
 replace hB:=cW hB c hN0
 replace hS:=Dc.trans hS (Dc.ext c)
 have C:=jf (enc:=dT) (a:=((1*2^i:Nat):Int)) A rfl rfl B
 refine To 14 rfl (TG Kj (qM N ba bm bz R ns _ [((1*2^i:Nat):Int)] _ (go hN0 (Below.size hB)) hz hD C.sl (show 1≤1000000 by decide)) rfl λJ K p=>⟨.inl (Dc.trans hS (acw hD (PE.dx p) (by decide) (by decide))),?_⟩)
 replace hS:=Dc.trans hS (acw hD (PE.dx p) Dd Dd)
 obtain⟨s,D,E,rfl,k,F,G⟩:=p
 replace hz:=At.dx hD k hz Dd Dd
 replace hc:=At.dx hD k hc Dd Dd
 replace hX:=Dc.trans hX (acw hD k Dd Dd)
 replace hB:=Below.dx hB (am _) hN0 k
 replace hD:=F
 have hgA:=TF G (by rw[abd];exact Vc hi)
 have hvA:=hgA.valid
 have hf1:f<s.length+2:=by have:=gr hgA.pre;omega
 have hw1:=hD.wf
 refine Tk 15 rfl (λ_ _=>cZ rfl) hS<|Tk 16 rfl (λ_ _=>c7 rfl) hS<|To 17 rfl (TG oD (eW N bc bz _ _ _ _ (go hN0 (Below.size hB)) hc loc) rfl λL M d=>⟨.inl (Dc.trans hS (Dc.did d.1 loc d.2.1)),?_⟩)
 replace hS:=Dc.trans hS (Dc.did d.1 loc d.2.1)
 obtain⟨l,t,rfl⟩:=d
 replace hX:=Dc.trans hX (Dc.did l loc t)
 replace hz:=At.grownAt hz hc l Dd
 replace hD:=fJ.grownAt hD hc l Dd Dd
 replace hB:=dg hB l hN0 (λj hj=>by cases hj;exact loc)
 replace hc:=t
 refine To 18 rfl (TG JT (oJ N ba bm bz R s f (kB e E D) _ (go hN0 (Below.size hB)) hz hD hf1 (qc hvA)) rfl λO P q=>⟨.inl (Dc.trans hS (acw hD (PO.dx q) (by decide) (by decide))),?_⟩)
 replace hS:=Dc.trans hS (acw hD (PO.dx q) Dd Dd)
 obtain⟨Q,S,T,rfl,o,H,I⟩:=q
 replace hz:=At.dx hD o hz Dd Dd
 replace hc:=At.dx hD o hc Dd Dd
 replace hB:=Below.dx hB (am _) hN0 o
 replace hX:=Dc.trans hX (acw hD o Dd Dd)
 replace hD:=H
 refine Tk 19 rfl (λ_ _=>cZ rfl) hS<|Tk 20 rfl (λ_ _=>c7 rfl) hS<|To 21 rfl (TG oD (eW N bc bz _ _ _ _ (go hN0 (Below.size hB)) hc loc) rfl λU V g=>⟨.inl (Dc.trans hS (Dc.did g.1 loc g.2.1)),?_⟩)
 replace hS:=Dc.trans hS (Dc.did g.1 loc g.2.1)
 obtain⟨r,x,rfl⟩:=g
 replace hX:=Dc.trans hX (Dc.did r loc x)
 replace hz:=At.grownAt hz hc r Dd
 replace hD:=fJ.grownAt hD hc r Dd Dd
 replace hc:=x
 refine Ti 22 rfl rfl hS<|Td<|Zt<|df (v:= .int .i64 _) rfl ?_
 exact⟨_,_,_,rfl,hX,hz,hD,hc,Xf hw1 hgA I hf hi⟩
def Yl (fu:Nat):Prop:=∀(N ba bm bz bc R:Nat) (ns:List Nd) (e:Int) (s n i:Nat) (w:World),(N≤w.heap.size)→(At w bz #[.pointer (some ⟨ba,0,none⟩)] 282)→(fJ 222 228 N ba bm R w ns)→(At w bc #[.pointer (some ⟨bz,0,none⟩), .int .i64 e] 285)→(N≤bc)→(n≤8)→(wX n s i)→n+1-i≤fu→
  lc Tryz.prog 221 #[.pointer (some ⟨bc,0,none⟩),ej s,ej (fm n), .int .i64 (n:Int), .int .i64 (i:Int)] w λv w'=>∃(ns':List Nd) (e':Int) (id:Nat),v= .int .i64 (id:Int)∧Dc 228 285 N bc bz ba bm w w'∧At w' bz #[.pointer (some ⟨ba,0,none⟩)] 282∧fJ 222 228 N ba bm R w' ns'∧At w' bc #[.pointer (some ⟨bz,0,none⟩), .int .i64 e'] 285∧MR ns ns' R e e' n i s id
theorem Sb (w:World):(sizeOf 40).run Tryz.prog w= .ok 4 w:=by
  obtain⟨j0,hj0,hs0⟩:=an.1 (show (Tryz.prog.info? 40).map (·.size)=some 4 by kernel_rfl)
  simp[sizeOf,typeInfo,hj0,hs0]
theorem S5 {s i k:Nat} (hk:k<2) (w:World):(part 40 (nH (cS s i false) (cS s i true)) (k*4)).run Tryz.prog w= .ok (ej (Sr s i k)) w:=by
  obtain⟨j0,hj0,hs0⟩:=an.1 (show (Tryz.prog.info? 40).map (·.size)=some 4 by kernel_rfl)
  have:k=0∨k=1:=by omega
  rcases this with rfl|rfl<;>simp[part,isAgg,sizeOf,typeInfo,hj0,hs0,run_underlying Tryz.underlying40,nH,Sr]<;>rfl
set_option maxRecDepth 20000 in
theorem Oh (q:Nat) (N ba bm bz bc R:Nat) (ns:List Nd) (e:Int) (s n i:Nat) (w:World) (ih:Yl q) (hN0:N≤w.heap.size) (hz:At w bz #[.pointer (some ⟨ba,0,none⟩)] 282) (hD:fJ 222 228 N ba bm R w ns) (hc:At w bc #[.pointer (some ⟨bz,0,none⟩), .int .i64 e] 285) (loc:N≤bc) (h8:n≤8) (hfr:wX n s i) (hn:n+1-i≤q+1):
    lc Tryz.prog 221 #[.pointer (some ⟨bc,0,none⟩),ej s,ej (fm n), .int .i64 (n:Int), .int .i64 (i:Int)] w λv w'=>∃(ns':List Nd) (e':Int) (id:Nat),v= .int .i64 (id:Int)∧Dc 228 285 N bc bz ba bm w w'∧At w' bz #[.pointer (some ⟨ba,0,none⟩)] 282∧fJ 222 228 N ba bm R w' ns'∧At w' bc #[.pointer (some ⟨bz,0,none⟩), .int .i64 e'] 285∧MR ns ns' R e e' n i s id:=by
 refine dK (n:=99) (N:=N) Tryz.func221 rfl rfl rfl λhB=> ?_
 have hX:Dc 228 285 N bc bz ba bm w w:=Dc.refl
 have hwf:=hD.wf
 have hroom:=hD.room
 have htop:=hD.top
 refine Zr<|Zy (dw (c:= #[_,_,_,_]) rfl rfl λai W3 a3 M f=> ?_)
 obtain⟨hz,hc⟩:=M.k2 hz hc
 replace hD:=fJ.ext M hD
 replace hX:=Dc.trans hX (Dc.ext M)
 replace hB:=cW hB M hN0
 refine Zy (dw (c:= #[_,_,_,_]) rfl rfl λaj W6 av y g=> ?_)
 have a4:=Zn av f.lt
 obtain⟨hz,hc⟩:=y.k2 hz hc
 replace hD:=fJ.ext y hD
 replace hX:=Dc.trans hX (Dc.ext y)
 replace hB:=cW hB y hN0
 replace f:=y.at f
 refine ZZ rfl<|Zq<|cy<|Zr<|Zp rfl<|Zc rfl<|Zf rfl kW<|Zl rfl fe hc rfl<|Zv (e7 rfl rfl)<|ZX rfl (λz=> ?_) λz=> ?_
 refine Zs<|Zs<|Zs<|Zb rfl<|Zb rfl<|ct<|cQ rfl<|Zr<|ZZ rfl<|Zt<|df (v:= .int .i64 0) rfl ?_
 exact⟨ns,e,0,rfl,hX,hz,hD,hc,Ut z⟩
 refine Zv (cz rfl cC rfl f)<|Zv (v:=ej 0) (gm)<|Zv (vk rfl rfl)<|Zb rfl<|Zb rfl<|ct<|ZQ rfl (λQ=> ?_) λQ=> ?_
 refine Zr<|ZZ rfl<|Zt<|df (v:= .int .i64 0) rfl ?_
 exact⟨ns,e,0,rfl,hX,hz,hD,hc,aaP (aaN z) h8 (x7 Q)⟩
 refine Zr<|Zv (cz rfl cC rfl f)<|Zv (cz rfl cC rfl g)<|Zv (vk rfl rfl)<|Zb rfl<|ct<|ZQ rfl (λS=> ?_) λS=> ?_
 refine Zr<|ZZ rfl<|Zt<|df (v:= .int .i64 1) rfl ?_
 exact⟨ns,e,1,rfl,hX,hz,hD,hc,aar (aaN z) h8 (x7 S)⟩
 refine cx ?_
 have he:e=0:=aaN z
 subst he
 have h0:¬AF s 0=true:=λh=>Q (vB h)
 have h1:¬AF s (fm n)=true:=λh=>S (vB h)
 have hi:i<n:=hfr.lt h8 h0 h1
 have hi8:i<8:=by omega
 refine Zr<|Zy (cK xT rfl λO a5 ak A d=> ?_)
 have al:N≤O:=ak▸(go hN0 (Below.size hB))
 have aw:w.heap.size≤O:=ak▸hX.dx.size
 obtain⟨hz,hc⟩:=A.k2 hz hc
 replace hD:=fJ.ext A hD
 replace hX:=Dc.trans hX (Dc.ext A)
 replace hB:=cW hB A hN0
 obtain⟨f,g⟩:=A.k2 f g
 refine ct<|Zq ?_
 replace d:=vV (s:=s) (i:=i) d
 refine Zr<|ZZ rfl<|cy ?_
 refine cY (σ:=(Nat)) [12,12,33,45] (λk=>[(33, .int .i64 (k:Int))]) (λk W=>(At W bz _ 282)∧(At W bc _ 285)∧(fJ 222 228 N ba bm R W ns)∧(Dc 228 285 N bc bz ba bm w W)∧(Below N w W)∧(At W ai _ 40)∧(At W aj _ 40)∧(At W O (o7 s i k) 315)∧(k≤2)∧(True)) (λk=>2-k) (0) ⟨rfl,trivial⟩ ⟨hz,hc,hD,hX,hB,f,g,d,(my _),trivial⟩ ?_
 rintro k a6 a7 ⟨hz,hc,hD,hX,hB,f,g,d,hk,_⟩ a8 ax
 refine Zr<|Zv (dq rfl rfl)<|ct<|Zq<|ZQ rfl (λay=> ?_) λay=> ?_
 refine cx<|Zq<|cy<|Zr<|Zi rfl<|ZZ rfl<|cI<|Zi rfl<|Zv (cz rfl cC rfl f)<|Zi rfl<|Zi rfl<|Zv (dJ rfl rfl) ?_
 refine ZC (vs:=[.agg #[_,_,_,_], .int .i64 _, .bool _]) DK (yp _ _ _ _) rfl λa9 bb B az=> ?_
 obtain⟨hz,hc⟩:=B.k2 hz hc
 replace hD:=fJ.ext B hD
 replace hX:=Dc.trans hX (Dc.ext B)
 replace hB:=cW hB B hN0
 obtain⟨f,g,d⟩:=B.k3 f g d
 obtain rfl:=az
 rw[if_pos (show 0≤(i:Int)∧(i:Int)<8 by omega)]
 simp only[so]
 refine Zi rfl<|ZC (vs:=[.agg #[_,_,_,_], .int .i64 _]) Si (A9 (qG s i (decide ((k:Int)=1))) i _ Om) rfl λaA bd C T=> ?_
 obtain⟨hz,hc⟩:=C.k2 hz hc
 replace hD:=fJ.ext C hD
 replace hX:=Dc.trans hX (Dc.ext C)
 replace hB:=cW hB C hN0
 obtain⟨f,g,d⟩:=C.k3 f g d
 replace T:aA=ej (cS s i (decide ((k:Int)=1))):=T
 obtain rfl:=T
 refine Zv (fx rfl rfl ij Om Om)<|Zy (iO rfl rfl cC rfl d (by rw[r9];omega) rfl λbf o aB=> ?_)
 replace hz:=At.grownAt hz d o Dd
 replace hc:=At.grownAt hc d o Dd
 replace hD:=fJ.grownAt hD d o Dd Dd
 replace hX:=Dc.new hX aw al o d Dd
 replace hB:=dg hB o hN0 (λj hj=>by cases hj;exact al)
 replace f:=At.grownAt f d o Dd
 replace g:=At.grownAt g d o Dd
 replace d:=aB
 try simp only[so]at d
 rw[ug (by omega)]at d
 refine ct<|ZT rfl rfl rfl ?_
 exact ax _ _ (k+1) Za ⟨rfl,trivial⟩ ⟨hz,hc,hD,hX,hB,f,g,(by exact d),Om,trivial⟩ Zo
 refine cT ?_
 obtain rfl:k=2:=by omega
 replace d:At _ _ (nH (cS s i false) (cS s i true)) _:=d
 refine Zd (λa b=>Dc 228 285 N bc bz ba bm a b) λU D=> ?_
 obtain⟨hz,hc⟩:=D.k2 hz hc
 replace hD:=fJ.ext D hD
 replace hX:=Dc.trans hX (Dc.ext D)
 replace hB:=cW hB D hN0
 obtain⟨f,g,d⟩:=D.k3 f g d
 have hwk0:Wc 285 bc bz U:=⟨_,hc⟩
 have hS:Dc 228 285 N bc bz ba bm U U:=Dc.refl
 refine Tq 0 rfl rfl hS<|Tk 1 rfl (λ_ _=>fx rfl rfl ij Om Om) hS<|Tk 2 rfl (λ_ hq=>eQ rfl cC (At.cell (abW hD hc hq d Dd Dd Dd) rfl) (At.cell (abW hD hc hq d Dd Dd Dd) rfl) (At.cell (abW hD hc hq d Dd Dd Dd) rfl) (At.cell (abW hD hc hq d Dd Dd Dd) rfl)) hS<|Tk 3 rfl (λ_ _=>fx rfl rfl ij Om Om) hS<|Tk 4 rfl (λ_ hq=>eQ rfl cC (At.cell (abW hD hc hq d Dd Dd Dd) rfl) (At.cell (abW hD hc hq d Dd Dd Dd) rfl) (At.cell (abW hD hc hq d Dd Dd Dd) rfl) (At.cell (abW hD hc hq d Dd Dd Dd) rfl)) hS<|Tk 6 rfl (λ_ hq=>cz rfl cC rfl (abW hD hc hq g Dd Dd Dd)) hS<|Ti 7 rfl rfl hS<|Ti 8 rfl rfl hS<|Tk 9 rfl (λ_ _=>eB rfl rfl Om Om) hS<|To 5 rfl (TC (vs:=[.agg #[_,_,_,_], .agg #[_,_,_,_]]) tH (pB _ _ _) rfl λbg bh x aC=>⟨.inl (Dc.trans hS (Dc.ext x)),?_⟩)
 obtain⟨hz,hc⟩:=x.k2 hz hc
 replace hD:=fJ.ext x hD
 replace hX:=Dc.trans hX (Dc.ext x)
 replace hB:=cW hB x hN0
 obtain⟨f,g,d,hS⟩:=x.k4 f g d hS
 obtain rfl:=aC
 refine To 10 rfl (TG (vs:=[.pointer (some ⟨bc,0,none⟩), .agg #[_,_,_,_], .agg #[_,_,_,_], .int .i64 _, .int .i64 _]) Cr (ih N ba bm bz bc R ns 0 (C5 s i) n (i+1) _ (go hN0 (Below.size hB)) hz hD hc loc h8 (IH h8 hfr hi) Om) rfl λbi bj V=>⟨.inl (Dc.trans hS ((by obtain⟨_,_,_,_,h,_⟩:=V;exact h))),?_⟩)
 replace hS:=Dc.trans hS ((by obtain⟨_,_,_,_,h,_⟩:=V;exact h))
 obtain⟨aD,e11_10,X,rfl,E,aE,hD11_10,aF,aG⟩:=V
 replace hX:=Dc.trans hX E
 replace hB:=Below.dx hB (am _) hN0 E.dx
 replace f:=abW hD hc E f Dd Dd Dd
 replace g:=abW hD hc E g Dd Dd Dd
 replace d:=abW hD hc E d Dd Dd Dd
 replace hz:=aE
 replace hD:=hD11_10
 replace hc:=aF
 refine Ti 11 rfl rfl hS<|Td<|Zr<|Zi rfl<|ZZ rfl<|Zq<|Zr<|Zv (cz rfl Mn rfl d)<|ZZ rfl<|cy ?_
 refine cY (σ:=(Nat)×(Nat)×(List Nd)×(Int)) [14,17,59,97] (λ(k,oid,nsc,ec)=>[(59, .int .i64 (k:Int)),(14, .int .i64 (oid:Int))]) (λsg W=>match sg with|(k,oid,nsc,ec)=>(At W bz _ 282)∧(Dc 228 285 N bc bz ba bm w W)∧(Below N w W)∧(At W ai _ 40)∧(At W aj _ 40)∧(At W O _ 315)∧(fJ 222 228 N ba bm R W nsc)∧(At W bc #[.pointer (some ⟨bz,0,none⟩), .int .i64 ec] 285)∧(k≤2)∧(ZK ns nsc R n i s k ec X oid)∧(True)) (λ(k,oid,nsc,ec)=>2-k) ((0,X,aD,e11_10)) ⟨rfl,rfl,trivial⟩ ⟨hz,hX,hB,f,g,d,hD,hc,(my _),(Oz aG),trivial⟩ ?_
 rintro⟨k,oid,nsc,ec⟩ bk bl ⟨hz,hX,hB,f,g,d,hD,hc,hk,hlp,_⟩ bn aH
 refine Zr<|Zv (dq rfl rfl)<|ct<|Zq<|ZQ rfl (λaI=> ?_) λaI=> ?_
 refine cx<|Zq<|cy<|Zr<|Zi rfl<|Zv (v:=ej (Sr s i k)) (Es rfl rfl Tryz.underlying315 Om (Sb _) (S5 Om _))<|Zy (cK el rfl λY aJ P F l=> ?_)
 have ao:N≤Y:=P▸(go hN0 (Below.size hB))
 have aK:=Zn P f.lt
 have aL:=Zn P g.lt
 have aM:w.heap.size≤Y:=P▸hX.dx.size
 obtain⟨hz,hX⟩:=F.k2 hz hX
 replace hB:=cW hB F hN0
 obtain⟨f,g,d⟩:=F.k3 f g d
 replace hD:=fJ.ext F hD
 replace hc:=F.at hc
 replace l:At aJ Y #[wv 0 0,wv 0 1,wv 0 2,wv 0 3] 40:=l
 refine Zi rfl<|Zy (cA rfl rfl cC rfl l rfl rfl λbo m aN=> ?_)
 replace hz:=At.grownAt hz l m Dd
 replace hX:=Dc.new hX aM ao m l Dd
 replace hB:=dg hB m hN0 (λj hj=>by cases hj;exact ao)
 replace f:=At.grownNe f aK m
 replace g:=At.grownNe g aL m
 replace d:=At.grownAt d l m Dd
 replace hD:=fJ.grownAt hD l m Dd Dd
 replace hc:=At.grownAt hc l m Dd
 replace l:=aN
 refine ct ?_
 have hvc:=hlp.vc
 have hvo:=hlp.vo
 refine Zd (λa b=>Dc 228 285 N bc bz ba bm a b) λZ G=> ?_
 obtain⟨hz,hX⟩:=G.k2 hz hX
 replace hB:=cW hB G hN0
 obtain⟨f,g,d⟩:=G.k3 f g d
 replace hD:=fJ.ext G hD
 obtain⟨hc,l⟩:=G.k2 hc l
 have hwk0:Wc 285 bc bz Z:=⟨_,hc⟩
 have hS:Dc 228 285 N bc bz ba bm Z Z:=Dc.refl
 refine Tq 0 rfl rfl hS<|Tq 1 rfl rfl hS<|Tc 2 rfl rfl hS<|Tf 3 rfl rfl j1 hS<|Tk 4 rfl (λ_ hq=>cD (v:= .pointer (some ⟨bz,0,none⟩)) rfl iS (ac9 (Dc.wk hq hwk0))) hS<|Tq 5 rfl rfl hS<|Tk 6 rfl (λ_ hq=>cz rfl cC rfl (abW hD hc hq l Dd Dd Dd)) hS<|Tk 7 rfl (λ_ hq=>cz rfl cC rfl (abW hD hc hq g Dd Dd Dd)) hS<|Ti 8 rfl rfl hS<|Ti 9 rfl rfl hS<|Tk 10 rfl (λ_ _=>eB rfl rfl Om Om) hS<|Ti 12 rfl rfl hS<|To 11 rfl (TG (vs:=[.pointer (some ⟨bc,0,none⟩), .agg #[_,_,_,_], .agg #[_,_,_,_], .int .i64 _, .int .i64 _]) Cr (ih N ba bm bz bc R nsc ec (Sr s i k) n (i+1) _ (go hN0 (Below.size hB)) hz hD hc loc h8 (Hn h8 hfr hi k) Om) rfl λbp bq aa=>⟨.inl (Dc.trans hS ((by obtain⟨_,_,_,_,h,_⟩:=aa;exact h))),?_⟩)
 replace hS:=Dc.trans hS ((by obtain⟨_,_,_,_,h,_⟩:=aa;exact h))
 obtain⟨aO,e16_11,aP,rfl,H,aQ,hD16_11,aR,ab⟩:=aa
 replace hX:=Dc.trans hX H
 replace hB:=Below.dx hB (am _) hN0 H.dx
 replace f:=abW hD hc H f Dd Dd Dd
 replace g:=abW hD hc H g Dd Dd Dd
 replace d:=abW hD hc H d Dd Dd Dd
 replace hz:=aQ
 replace hD:=hD16_11
 replace hc:=aR
 have hwa:=hD.wf
 have hla:=gr ab.pre
 refine To 13 rfl (TG IX (oF N ba bm bz R aO aP X _ (go hN0 (Below.size hB)) hz hD ab.v Om) rfl λbr bs ac=>⟨.inl (Dc.trans hS (acw hD (PO.dx ac) (by decide) (by decide))),?_⟩)
 replace hS:=Dc.trans hS (acw hD (PO.dx ac) Dd Dd)
 obtain⟨aS,aT,ap,rfl,p,aU,ad⟩:=ac
 replace hz:=At.dx hD p hz Dd Dd
 replace hX:=Dc.trans hX (acw hD p Dd Dd)
 replace hB:=Below.dx hB (am _) hN0 p
 replace f:=At.dx hD p f Dd Dd
 replace g:=At.dx hD p g Dd Dd
 replace d:=At.dx hD p d Dd Dd
 replace hc:=At.dx hD p hc Dd Dd
 replace hD:=aU
 have hwb:=hD.wf
 have hlb:=gr ad.pre
 refine Tk 14 rfl (λ_ _=>cZ rfl) hS<|Tk 15 rfl (λ_ _=>c7 rfl) hS<|To 16 rfl (TG oD (eW N bc bz _ _ _ _ (go hN0 (Below.size hB)) hc loc) rfl λbt bu I=>⟨.inl (Dc.trans hS (Dc.did I.1 loc I.2.1)),?_⟩)
 replace hS:=Dc.trans hS (Dc.did I.1 loc I.2.1)
 obtain⟨r,aq,rfl⟩:=I
 replace hX:=Dc.trans hX (Dc.did r loc aq)
 replace hz:=At.grownAt hz hc r Dd
 replace hB:=dg hB r hN0 (λj hj=>by cases hj;exact loc)
 replace f:=At.grownAt f hc r Dd
 replace g:=At.grownAt g hc r Dd
 replace d:=At.grownAt d hc r Dd
 replace hD:=fJ.grownAt hD hc r Dd Dd
 replace hc:=aq
 refine Ti 17 rfl rfl hS<|Td ?_
 refine eP (λa b=>Dc 228 285 N bc bz ba bm a b) fC (λae J=> ?_)
 replace hz:=J.at hz
 replace hB:=cW hB J hN0
 obtain⟨f,g,d⟩:=J.k3 f g d
 replace hD:=fJ.ext J hD
 obtain⟨hc,hX⟩:=J.k2 hc hX
 have hwk0:Wc 285 bc bz ae:=⟨_,hc⟩
 have hS:Dc 228 285 N bc bz ba bm ae ae:=Dc.refl
 refine Tq 0 rfl rfl hS<|Tq 1 rfl rfl hS<|Tc 2 rfl rfl hS<|Tf 3 rfl rfl j1 hS<|Tk 4 rfl (λ_ hq=>cD (v:= .pointer (some ⟨bz,0,none⟩)) rfl iS (ac9 (Dc.wk hq hwk0))) hS<|Ti 5 rfl rfl hS<|Tq 6 rfl rfl hS<|Ti 7 rfl rfl hS<|Ti 8 rfl rfl hS<|Tk 9 rfl (λ_ _=>VD rfl rfl Om Om) hS<|Ti 10 rfl rfl hS<|Tk 11 rfl (λ_ _=>eB rfl rfl Om Om) hS<|To 12 rfl (TG Sn (pY N ba bm bz bc R aS (iW e16_11 ap) (kB e16_11 ap aT) (2*i+k) _ (go hN0 (Below.size hB)) hz hD hc loc (qc ad.valid) Om) rfl λbv bw af=>⟨.inl (Dc.trans hS ((by obtain⟨_,_,_,_,h,_⟩:=af;exact h))),?_⟩)
 replace hS:=Dc.trans hS ((by obtain⟨_,_,_,_,h,_⟩:=af;exact h))
 obtain⟨aV,e17_12,aW,rfl,K,aX,hD17_12,aY,ag⟩:=af
 replace hB:=Below.dx hB (am _) hN0 K.dx
 replace f:=abW hD hc K f Dd Dd Dd
 replace g:=abW hD hc K g Dd Dd Dd
 replace d:=abW hD hc K d Dd Dd Dd
 replace hX:=Dc.trans hX K
 replace hz:=aX
 replace hD:=hD17_12
 replace hc:=aY
 have hwc:=hD.wf
 have hlc:=gr ag.pre
 refine To 13 rfl (TG DW (kY N ba bm bz R aV oid aW _ (go hN0 (Below.size hB)) hz hD Om ag.v) rfl λbx bA ah=>⟨.inl (Dc.trans hS (acw hD (PO.dx ah) (by decide) (by decide))),?_⟩)
 replace hS:=Dc.trans hS (acw hD (PO.dx ah) Dd Dd)
 obtain⟨aZ,a0,ar,rfl,t,a1,a2⟩:=ah
 replace hz:=At.dx hD t hz Dd Dd
 replace hB:=Below.dx hB (am _) hN0 t
 replace f:=At.dx hD t f Dd Dd
 replace g:=At.dx hD t g Dd Dd
 replace d:=At.dx hD t d Dd Dd
 replace hc:=At.dx hD t hc Dd Dd
 replace hX:=Dc.trans hX (acw hD t Dd Dd)
 replace hD:=a1
 have hwd:=hD.wf
 refine Tk 14 rfl (λ_ _=>cZ rfl) hS<|Tk 15 rfl (λ_ _=>c7 rfl) hS<|To 16 rfl (TG oD (eW N bc bz _ _ _ _ (go hN0 (Below.size hB)) hc loc) rfl λbB bC L=>⟨.inl (Dc.trans hS (Dc.did L.1 loc L.2.1)),?_⟩)
 replace hS:=Dc.trans hS (Dc.did L.1 loc L.2.1)
 obtain⟨u,au,rfl⟩:=L
 replace hX:=Dc.trans hX (Dc.did u loc au)
 replace hz:=At.grownAt hz hc u Dd
 replace hB:=dg hB u hN0 (λj hj=>by cases hj;exact loc)
 replace f:=At.grownAt f hc u Dd
 replace g:=At.grownAt g hc u Dd
 replace d:=At.grownAt d hc u Dd
 replace hD:=fJ.grownAt hD hc u Dd Dd
 replace hc:=au
 refine Ti 17 rfl rfl hS<|Td<|ZT rfl rfl rfl ?_
 exact aH _ _ ((k+1,kB e17_12 ar a0,aZ,iW e17_12 ar)) Za ⟨rfl,rfl,trivial⟩ ⟨hz,hX,hB,f,g,d,hD,(by exact hc),Om,(Q9 h8 hfr hi Om hlp hwa hwb hwc hwd ab ad ag a2),trivial⟩ (by show 2-(k+1)<2-k;omega)
 refine cT<|Zr<|Zi rfl<|ZZ rfl<|Zt<|df (v:= .int .i64 _) rfl ?_
 obtain rfl:k=2:=by omega
 exact⟨_,_,_,rfl,hX,hz,hD,hc,U7 h8 hfr hi hlp⟩
end
section
open Go Go.RowKit
end
section
open Go Go.RowKit
theorem TH:∀q,Yl q
 |0=>λN ba bm bz bc R ns e s n i w _ _ _ _ _ _ hfr hn=>by
  have:=hfr.le
  omega
 |q+1=>λN ba bm bz bc R ns e s n i w=>Oh q N ba bm bz bc R ns e s n i w (TH q)
end
end Go.Proofs.YtedeonkjellcpaaGreatDoor
